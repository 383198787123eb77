/- A part of the proof: what it holds is said by each theorem. -/
import Derived.Test.YtlkhmflligkbkaaGreatP3
set_option linter.unusedVariables false
set_option linter.defProp false
set_option linter.unusedSimpArgs false
namespace Gx
open Go Go.Proofs
section
variable {R:Type}
theorem Bjy (s:List StD):(s.flatMap StD.av).length=s.length*2:=by
 induction s with
 | nil=>rfl
 | cons a r k=>rw[List.flatMap_cons,List.length_append,k];simp[StD.av];omega
theorem Bjz (s:List StD):List.take (s.length*2) (s.flatMap StD.av)=s.flatMap StD.av:=by rw[←Bjy,List.take_length]
theorem VG (s:List StD) (t:StD):List.take (s.length*2) (s.flatMap StD.av)++t.av=(s++[t]).flatMap StD.av:=by rw[Bjz];simp
theorem Bct {l:List StD} {j:Nat} (h:j<l.length):List.drop ((Int.toNat (j:Int))*2) (l.flatMap StD.av)=l[j].av++(l.drop (j+1)).flatMap StD.av:=by
 rw[Int.toNat_natCast,Bo (e:=StD.av) (sz:=2) (fun _=>rfl) _ _ h]
theorem j9 {l:List StD} {j:Nat} (h:j<l.length):List.drop (0+((Int.toNat (j:Int))*2)) (l.flatMap StD.av)=l[j].av++(l.drop (j+1)).flatMap StD.av:=by rw[Nat.zero_add,Bct h]
theorem KO (s:StD) (r:LA):Nat.ble 2 (List.length (s.av++r))=true:=rfl
theorem KP (s:StD) (r:LA):List.take 2 (s.av++r)=s.av:=rfl
theorem Bie {s:StD} {r:LA} {f:Int→O R}:Ao .i64 (s.av++r) f=f s.k:=A1
theorem VH (c:Bool) (s:StD):((!c)||A8 s.av)=true:=by cases c<;>rfl
theorem A17 (s t:StD):((Nat.ble 1 2)&&((Nat.beq (List.length s.av) 2)&&((Nat.beq (List.length t.av) 2)&&(true&&(!false)))))=true:=rfl
theorem Axw (s t:StD):((s.k==t.k)&&((s.h==t.h)&&true))=true↔s=t:=by
 cases s;cases t;simp
def BR (k:Int):Int→Nat→List StD
 | _,0=>[]
 | i,m+1=>⟨k,i+1⟩::BR k (i+1) m
theorem Ahv {k h:Int}:∀ {m:Nat} {i:Int},i+1≤h→h≤i+m→(⟨k,h⟩:StD) ∈ BR k i m
 | 0,i,C,D=>by omega
 | m+1,i,C,D=>by
  rw[BR]
  by_cases e:h=i+1
  ·subst e;exact List.mem_cons_self ..
  ·exact List.mem_cons_of_mem _ (Ahv (by omega) (by omega))
theorem Bcu {k:Int}:∀ {m:Nat} {i:Int},(BR k i m).length=m
 | 0,_=>rfl
 | m+1,_=>by rw[BR,List.length_cons,Bcu]
theorem Axx {N:Nat} {K:Nat→LA→O R} {a:Int} (k:a≤1000):∀ (m fuel:Nat) (i:Int) (l:List StD),i+m=a→0≤i→m<fuel→l.length+m≤10000 →
  Oh N K a fuel l.length (i+1) (l.flatMap StD.av)=K (l++BR 2 i m).length ((l++BR 2 i m).flatMap StD.av)
 | 0,fuel+1,i,l,hi,C,_,D=>by
  rw[Oh];unfold Wu
  rw[show decide (i+1≤a)=false by simp;omega,cf,BR,List.append_nil]
 | m+1,fuel+1,i,l,hi,C,F,D=>by
  rw[Oh];unfold Wu
  rw[show decide (i+1≤a)=true by simp;omega,ct,Bfg (by omega),ct,i64 (by omega),show [(AV.int .i64 2),(.int .i64 (i+1))]=(StD.mk 2 (i+1)).av from rfl,VG]
  have:=Axx (N:=N) (K:=K) k m fuel (i+1) (l++[⟨2,i+1⟩]) (by omega) (by omega) (by omega) (by simp;omega)
  rw[List.length_append] at this
  simp only[List.length_cons,List.length_nil,Nat.zero_add] at this
  rw[this,BR,List.append_assoc];rfl
theorem Axy {N:Nat} {K:Nat→LA→O R} {u:UnitD} {c:Bool} {a:Int} {m2:Nat} (C:a=m2) (D:m2≤1000) (hN:1100≤N) (k:u.startTime≤1000):∀ (m fuel:Nat) (i:Int) (l:List StD),i+m=u.startTime→0≤i→m<fuel→l.length+m≤8000 →
  Oi N K a c u.av fuel l.length (i+1) (l.flatMap StD.av)=K (l++BR 1 i m++BR 2 0 m2).length ((l++BR 1 i m++BR 2 0 m2).flatMap StD.av)
 | 0,fuel+1,i,l,hi,F,_,G=>by
  rw[Oi];unfold Wv
  rw[Bkt,show decide (i+1≤u.startTime)=false by simp;omega,cf,BR,List.append_nil]
  exact Axx (by omega) m2 N 0 l (by omega) (by omega) (by omega) (by omega)
 | m+1,fuel+1,i,l,hi,F,I,G=>by
  rw[Oi];unfold Wv
  rw[Bkt,show decide (i+1≤u.startTime)=true by simp;omega,ct,Bfg (by omega),ct,i64 (by omega),show [(AV.int .i64 1),(.int .i64 (i+1))]=(StD.mk 1 (i+1)).av from rfl,VG]
  have:=Axy (N:=N) (K:=K) (c:=c) C D hN k m fuel (i+1) (l++[⟨1,i+1⟩]) (by omega) (by omega) (by omega) (by simp;omega)
  rw[List.length_append] at this
  simp only[List.length_cons,List.length_nil,Nat.zero_add] at this
  rw[this,BR];simp only[List.append_assoc,List.cons_append,List.nil_append]
theorem Axz {N:Nat} {K:Nat→LA→O R} {u:UnitD} {c:Bool} {a p:Int} {m1 m2:Nat} (C:a=m2) (D:m2≤1000) (F:u.startTime=m1) (k:m1≤1000) (hN:1100≤N) (G:p≤1000):∀ (m fuel:Nat) (i:Int) (l:List StD),i+m=p→0≤i→m<fuel→l.length+m≤6000 →
  Ki N K p a c u.av fuel l.length (i+1) (l.flatMap StD.av)=K (l++BR 0 i m++BR 1 0 m1++BR 2 0 m2).length ((l++BR 0 i m++BR 1 0 m1++BR 2 0 m2).flatMap StD.av)
 | 0,fuel+1,i,l,hi,I,_,L=>by
  rw[Ki];unfold Ww
  rw[show decide (i+1≤p)=false by simp;omega,cf,BR,List.append_nil]
  exact Axy C D hN (by omega) m1 N 0 l (by omega) (by omega) (by omega) (by omega)
 | m+1,fuel+1,i,l,hi,I,M,L=>by
  rw[Ki];unfold Ww
  rw[show decide (i+1≤p)=true by simp;omega,ct,Bfg (by omega),ct,i64 (by omega),show [(AV.int .i64 0),(.int .i64 (i+1))]=(StD.mk 0 (i+1)).av from rfl,VG]
  have:=Axz (N:=N) (K:=K) (c:=c) C D F k hN G m fuel (i+1) (l++[⟨0,i+1⟩]) (by omega) (by omega) (by omega) (by simp;omega)
  rw[List.length_append] at this
  simp only[List.length_cons,List.length_nil,Nat.zero_add] at this
  rw[this,BR];simp only[List.append_assoc,List.cons_append,List.nil_append]
def A18 (u:UnitD):List StD:=BR 0 0 (Kj u).toNat++BR 1 0 u.startTime.toNat++BR 2 0 (KM u).toNat
theorem Ags {N:Nat} {u:UnitD} {o:Bool} {K:Nat→LA→O R} (hN:1100≤N) (hs:Cq u=true):Yt N u.av o K=K (A18 u).length ((A18 u).flatMap StD.av):=by
 have k:=Rk hs;have C:=ZR hs
 rw[jR];unfold PF
 rw[Cl,ct,Bg,QX hs,ct,Lh,hs,show(!true)=false from rfl,cf]
 have:=Axz (N:=N) (K:=K) (u:=u) (c:=o) (a:=KM u) (p:=Kj u) (m1:=u.startTime.toNat) (m2:=(KM u).toNat) (by omega) (by omega) (by omega) (by omega) hN (by omega) (Kj u).toNat N 0 [] (by omega) (by omega) (by omega) (by simp;omega)
 simpa[A18] using this
theorem Bif {u:UnitD} {s:StD} (hs:Cq u=true) (h:Sa u s):s ∈ A18 u:=by
 have D:=Rk hs;have F:=ZR hs
 obtain⟨k,h'⟩:=s
 unfold Sa at h;simp only at h
 unfold A18
 rcases h with⟨G,⟨rfl,C⟩ | ⟨rfl,C⟩ | ⟨rfl,C⟩⟩
 ·exact List.mem_append_left _ (List.mem_append_left _ (Ahv (by omega) (by omega)))
 ·exact List.mem_append_left _ (List.mem_append_right _ (Ahv (by omega) (by omega)))
 ·exact List.mem_append_right _ (Ahv (by omega) (by omega))
theorem A6j {N:Nat} {L:List StD} {s:StD} {c:Bool} (hL:L.length≤10000):∀ (m j fuel:Nat),j+m=L.length→m<fuel→s ∈ L.drop j→∃ p:Int,0≤p∧∀ K:Int→O R,G5 N K L.length c s.av (L.flatMap StD.av) fuel (j:Int)=K p
 | 0,j,fuel+1,F,_,C=>by rw[Dz (by omega)] at C;simp at C
 | m+1,j,fuel+1,F,S,C=>by
  have h:j<L.length:=by omega
  by_cases e:L[j]=s
  ·refine⟨j,by omega,fun K=>?_⟩
   rw[G5];unfold Rj
   simp only[Iz h,ct,Aa h,j9 h,KO,KP,eh,Agr,VH,A17,d8,KN]
   rw[(Axw _ _).2 e,ct]
  ·rw[Bs h] at C
   have D:s ∈ L.drop (j+1):=by
    rcases List.mem_cons.1 C with rfl | C
    ·exact absurd rfl e
    ·exact C
   obtain⟨p,G,I⟩:=A6j hL m (j+1) fuel (by omega) (by omega) D
   refine⟨p,G,fun K=>?_⟩
   rw[G5];unfold Rj
   simp only[Iz h,ct,Aa h,j9 h,KO,KP,eh,Agr,VH,A17,d8,KN]
   have:((L[j].k==s.k)&&((L[j].h==s.h)&&true))=false:=by
    cases M:((L[j].k==s.k)&&((L[j].h==s.h)&&true)) with
    | false=>rfl
    | true=>exact absurd ((Axw _ _).1 M) e
   rw[this,cf,wS (by omega),I]
theorem A6k {N:Nat} {u:UnitD} {s:StD} {o d:Bool} {K:Bool→O R} (hN:1100≤N) (hs:Cq u=true) (k:Sa u s):Ap6 N u.av o s.av d K=K true:=by
 have C:=Rk hs;have D:=ZR hs
 rw[Ap7];unfold A14
 rw[Cl,ct,eh,ct,Agr,VH,ct,Bg,VD];unfold Z2
 rw[Cl,ct,Bg,Ags hN hs]
 have F:(A18 u).length≤100:=by unfold A18;simp[Bcu];omega
 obtain⟨p,G,e⟩:=A6j (R:=R) (N:=N) (L:=A18 u) (s:=s) (c:=false) (by omega) (A18 u).length 0 N (by omega) (by omega) (by rw[List.drop_zero];exact Bif hs k)
 have e':=e fun f=>K (decide (f≥0))
 rw[show((0:Nat):Int)=0 from rfl] at e'
 dsimp only
 rw[e',show decide (p≥0)=true by simp;omega]
theorem QY {N:Nat} {u:UnitD} {s:StD} {o d:Bool} {K:Nat→LA→O R} (hN:1100≤N) (hs:Cq u=true) (C:Sa u s):KI N u.av o s.av d K=K (Gv u s).length ((Gv u s).flatMap StD.av):=by
 have I:=Rk hs;have L:=ZR hs;have G:=yu hs C
 rw[v8];unfold yr
 rw[Cl,ct,eh,ct,Agr,VH,ct,Bg,A6k hN hs C,show(!true)=false from rfl,cf,ct,QX hs]
 simp only[d8,KN,Bmn,Blm,Bkt]
 rw[i64 (a:=s.h+1) (by omega)]
 unfold Gv
 rcases G.2.2 with D | D | D<;>rw[D]
 ·by_cases k:s.h<u.downTime
  ·simp[k,StD.av]
  ·by_cases F:u.startTime>0
   ·simp[k,F,StD.av]
   ·simp[k,F,StD.av]
 ·by_cases k:s.h<u.startTime<;>simp[k,StD.av]
 ·by_cases k:s.h≥u.upTime<;>simp[k,StD.av]
end
end Gx

namespace Gx
open Go Go.Proofs
section
variable {R:Type}
def rR (u:UnitD) (h kind:Int):Bool:=kind==0||!(decide (h ∈ u.away.l))
def d_ (l:List StD) (v:Int):Option StD:=l.find? fun s=>s.k==v
def Wy (u:UnitD) (h:Int) (s:StD) (kind:Int):Option StD:=cond (rR u h kind) (d_ (Gv u s) kind) none
def Cz (u:UnitD):Int→StD→List Int→List StD×Bool
 | _,_,[]=>([],true)
 | h,s,k::r=>match Wy u h s k with
  | none=>([],false)
  | some t=>(t::(Cz u (h+1) t r).1,(Cz u (h+1) t r).2)
theorem Bf5 {l:List StD} {v:Int} {t:StD} (h:d_ l v=some t):t ∈ l∧t.k=v:=by
 unfold d_ at h
 exact⟨List.mem_of_find?_eq_some h,by simpa using List.find?_some h⟩
theorem A6l {u:UnitD} {h kind:Int} {s t:StD} (k:rR u h kind=true) (C:d_ (Gv u s) kind=some t):Wy u h s kind=some t:=by unfold Wy;rw[k,C];rfl
theorem j_ {u:UnitD} {h kind:Int} {s t:StD} (hs:Cq u=true) (C:Sa u s) (e:Wy u h s kind=some t):Sa u t∧t.k=kind∧t ∈ Gv u s∧rR u h kind=true:=by
 unfold Wy at e
 cases D:rR u h kind with
 | false=>rw[D] at e;cases e
 | true =>
  rw[D] at e
  have:=Bf5 (l:=Gv u s) e
  exact⟨j8 hs C t this.1,this.2,this.1,rfl⟩
theorem Bj0 {N:Nat} {s:StD} {v:Int} {o:Bool} {K:Bool→O R}:Mk N s.av o v K=K (s.k==v):=by
 rw[JI];rfl
theorem A6m {N:Nat} {X:O R} {K:Int→O R} {L:List StD} {a b:Bool} {v:Int} (hL:L.length≤1000):∀ (m j fuel:Nat),j+m=L.length→m<fuel→(d_ (L.drop j) v=none→K (-1)=X)→(∀ i (h:i<L.length),d_ (L.drop j) v=some L[i]→K (i:Int)=X) →
  A0 N K (L.flatMap StD.av) L.length a b v fuel (L.length:Int) (j:Int)=X
 | 0,j,fuel+1,G,_,C,_=>by
  rw[A0];unfold Bh
  rw[Kn (by omega),cf]
  exact C (by rw[Dz (by omega)];rfl)
 | m+1,j,fuel+1,G,I,C,D=>by
  rw[A0];unfold Bh
  have h:j<L.length:=by omega
  rw[Iz h,ct,Aa h,ct,Bct h,KO,ct,KP,VH,ct,Bj0]
  rw[Bs h] at C D
  unfold d_ at C D
  simp only[List.find?_cons] at C D
  cases F:(L[j].k==v) with
  | true=>rw[F] at D;rw[ct];exact D j h rfl
  | false =>
   rw[F] at C D
   rw[cf,wS (by omega)]
   exact A6m hL m (j+1) fuel (by omega) (by omega) C D
theorem Bl5 {N:Nat} {X:O R} {K:Int→O R} {L:List StD} {a b:Bool} {v:Int} (hL:L.length≤10) (hN:64≤N) (k:d_ L v=none→K (-1)=X) (C:∀ i (h:i<L.length),d_ L v=some L[i]→K (i:Int)=X) :
  Ar N (L.flatMap StD.av) L.length a b v K=X:=by
 rw[Bi];unfold Bn
 exact A6m (by omega) L.length 0 N (by omega) (by omega) k C
theorem yw {N:Nat} {X:O R} {K:LA→O R} {l:List Int} {a:Bool} (D:l.length≤1000000):∀ (m j fuel:Nat) (d:List Int),j+m=l.length→m<fuel→(∀ e:List Int,(∀ x,x ∈ e↔x ∈ d∨x ∈ l.drop j)→K (Av e)=X) →
  Ua N K (Av l) l.length a fuel (l.length:Int) (j:Int) (Av d)=X
 | 0,j,fuel+1,d,F,_,k=>by
  rw[Ua];unfold NY
  rw[Kn (by omega),cf]
  exact k d (by intro x;rw[Dz (by omega)];simp)
 | m+1,j,fuel+1,d,F,L,k=>by
  rw[Ua];unfold NY
  have h:j<l.length:=by omega
  rw[Iz h,ct,Aa h,ct,Ct h,wS (by omega)]
  rw[Bs h] at k
  unfold A70
  cases G:rk (Av d) l[j] with
  | true =>
   have I:l[j] ∈ d:=(RR d _).1 G
   refine yw D m (j+1) fuel d (by omega) (by omega) fun e C=>k e fun x=>?_
   rw[C x,List.mem_cons]
   constructor
   ·rintro(h | h)
    ·exact .inl h
    ·exact .inr (.inr h)
   ·rintro(h | h | h)
    ·exact .inl h
    ·exact .inl (h▸I)
    ·exact .inr h
  | false =>
   rw[show cond false (Av d) (Av d++[.int .i64 l[j]])=Av (d++[l[j]]) by simp[Av]]
   refine yw D m (j+1) fuel (d++[l[j]]) (by omega) (by omega) fun e C=>k e fun x=>?_
   rw[C x,List.mem_cons,List.mem_append,List.mem_singleton,or_assoc]
theorem Bj1 {N:Nat} {X:O R} {K:LA→O R} {u:UnitD} {a:Bool} (C:u.away.l.length≤1000) (hN:1100≤N) (h:∀ e:List Int,(∀ x,x ∈ e↔x ∈ u.away.l)→K (Av e)=X):YH N u.av a K=X:=by
 rw[gj];unfold uF
 rw[Bku]
 exact yw (by omega) u.away.l.length 0 N [] (by omega) (by omega) fun e k=>h e fun x=>by rw[k x];simp
theorem Bl6 (e:List Int) (n:Int):rk (Av e) n=decide (n ∈ e):=by
 rw[Bool.eq_iff_iff,decide_eq_true_eq];exact RR e n
theorem Bk4 (s t:StD):((Nat.beq (List.length s.av) 2)&&((Nat.ble 2 (List.length t.av))&&(!false)))=true:=rfl
theorem Bk5 (s:StD):((Nat.beq (List.length s.av) 2)&&(Nat.ble 2 2))=true:=rfl
theorem Adv (s:StD):((Nat.beq (List.length s.av) 2)&&((Nat.ble 2 2)&&(!false)))=true:=rfl
theorem A19 {N:Nat} {X:O R} {K:Nat→Int→Int→LA→O R} {u:UnitD} {ks:List Int} {i j o:Bool} {e:List Int} (hN:1100≤N) (hs:Cq u=true) (hk:ks.length≤1000) (he:∀ x,x ∈ e↔x ∈ u.away.l):∀ (m h fuel:Nat) (s:StD) (l:List StD),h+m=ks.length→m<fuel→l.length=h→Sa u s →
  ((Cz u h s (ks.drop h)).2=true→K ks.length ks.length 0 ((l++(Cz u h s (ks.drop h)).1).flatMap StD.av)=X)→((Cz u h s (ks.drop h)).2=false→K 0 ((l++(Cz u h s (ks.drop h)).1).length:Nat) 16 []=X) →
  Pp N K (Av ks) ks.length i j o u.av (Av e) fuel l.length (ks.length:Int) (h:Int) (l.flatMap StD.av) s.av=X:=by
 intro m
 induction m with
 | zero =>
  intro h fuel s l hh hf T G M _
  obtain⟨fuel,rfl⟩:∃ k,fuel=k+1:=⟨fuel - 1,by omega⟩
  rw[Pp];unfold N'
  rw[Kn (by omega),cf,show l.length=ks.length by omega]
  rw[Dz (by omega)] at M
  simpa[Cz] using M rfl
 | succ m ih =>
  intro h fuel s l hh hf T G M I
  obtain⟨fuel,rfl⟩:∃ k,fuel=k+1:=⟨fuel - 1,by omega⟩
  rw[Pp];unfold N'
  have F:h<ks.length:=by omega
  rw[Iz F,ct,Aa F,ct,Ct F,Cl,ct,eh,ct,Bg,Agr,vd (by omega) hs G,Bl6]
  rw[Bs F,Cz] at M I
  have hd:decide ((h:Int) ∈ e)=decide ((h:Int) ∈ u.away.l):=by rw[decide_eq_decide];exact he _
  rw[hd]
  refine Bl5 (Nat.le_trans VF (by omega)) (by omega) (fun L=>?_) (fun p V D=>?_)
  ·rw[show(decide ((-1:Int)<0)==false)=false from rfl,cf]
   have C:Wy u h s ks[h]=none:=by unfold Wy;rw[L];cases rR u h ks[h]<;>rfl
   rw[C] at I
   simpa[T] using I rfl
  ·rw[show(decide ((p:Int)<0)==false)=true by simp,ct]
   have go:Wy u h s ks[h]=some (Gv u s)[p]→(cond (Ac (p:Int) (Gv u s).length) (cond (Nat.ble 2 (List.length (List.drop ((Int.toNat (p:Int))*2) ((Gv u s).flatMap StD.av)))) (cond ((Nat.beq (List.length (List.take 2 (List.drop ((Int.toNat (p:Int))*2) ((Gv u s).flatMap StD.av)))) 2)&&((Nat.ble 2 (List.length s.av))&&(!false))) (cond (Nat.ble 2 (List.length (setCells s.av 0 (List.take 2 (List.drop ((Int.toNat (p:Int))*2) ((Gv u s).flatMap StD.av)))))) (cond ((Nat.beq (List.length (List.take 2 (setCells s.av 0 (List.take 2 (List.drop ((Int.toNat (p:Int))*2) ((Gv u s).flatMap StD.av)))))) 2)&&(Nat.ble 2 2)) (cond ((Nat.ble (l.length+1) 140737488355328)&&(Nat.ble ((l.length+1)*16) 140737488355328)) (Pp N K (Av ks) ks.length i j o u.av (Av e) fuel (l.length+1) (ks.length:Int) (IntKind.wrap .i64 ((h:Int)+(1:Int))) ((List.take (l.length*2) (l.flatMap StD.av))++(List.take 2 (setCells [(.int .i64 0),(.int .i64 0)] 0 (List.take 2 (setCells s.av 0 (List.take 2 (List.drop ((Int.toNat (p:Int))*2) ((Gv u s).flatMap StD.av)))))))) (setCells s.av 0 (List.take 2 (List.drop ((Int.toNat (p:Int))*2) ((Gv u s).flatMap StD.av))))) none) none) none) none) none) none)=X:=by
    intro C
    rw[Aa V,ct,Bct V,KO,ct,KP,Bk4,ct,Axv,eh,ct,Agr,Bk5,ct,Bfg (by omega),ct,Bgm,Agr,VG,wS (by omega)]
    rw[C] at M I
    have:=ih (h+1) fuel (Gv u s)[p] (l++[(Gv u s)[p]]) (by omega) (by omega) (by simp;omega) (j_ hs G C).1
     (fun U=>by have:=M U;simpa using this) (fun U=>by have:=I U;simpa using this)
    simpa using this
   by_cases S:ks[h]=0
   ·rw[show((ks[h] != 0)==true)=false by simp[S],cf]
    exact go (A6l (by unfold rR;simp[S]) D)
   ·rw[show((ks[h] != 0)==true)=true by simp[S],ct]
    cases Y:decide ((h:Int) ∈ u.away.l) with
    | true =>
     have C:Wy u h s ks[h]=none:=by unfold Wy rR;rw[Y,show(ks[h]==0)=false by simpa using S];rfl
     rw[C] at I
     simpa[T] using I rfl
    | false =>
     rw[show(cond false true (cond true false false))=false from rfl,cf]
     exact go (A6l (by unfold rR;rw[Y];simp) D)
theorem Aqa {N:Nat} {X:O R} {K:Nat→Int→Int→LA→O R} {u:UnitD} {ks:List Int} {n:Nat} {i j o:Bool} (hN:1100≤N) (hs:Cq u=true) (k:u.away.l.length≤1000) (C:ks.length≤1000) (hn:n=ks.length)
  (D:(Cz u 0 (Br u) ks).2=true→K ks.length ks.length 0 ((Cz u 0 (Br u) ks).1.flatMap StD.av)=X) (F:(Cz u 0 (Br u) ks).2=false→K 0 ((Cz u 0 (Br u) ks).1.length:Nat) 16 []=X) :
  FE N u.av o (Av ks) n i j K=X:=by
 subst hn
 rw[hG];unfold gz
 rw[Cl,ct,Bg,Od (by omega),hs,show(!true)=false from rfl,cf,ct]
 refine Bj1 k hN fun e G=>?_
 rw[show((decide ((0:Int)≤(0:Int)))&&((decide ((0:Int)≤((ks.length:Nat):Int)))&&((decide (((ks.length:Nat):Int)≤(140737488355328:Int)))&&(decide ((((ks.length:Nat):Int)*((16:Nat):Int))≤(140737488355328:Int))))))=true by simp;omega,ct,ct,d9 (by omega) hs,Adv,ct,Bgm]
 exact A19 hN hs C G ks.length 0 N (Br u) [] (by omega) (by omega) rfl (Rl hs) (by simpa using D) (by simpa using F)
end
end Gx

namespace Gx
open Go Go.Proofs
section
variable {R:Type}
theorem Ne {l:List RatD} {j:Nat} (h:j<l.length):List.drop ((Int.toNat (j:Int))*3) (l.flatMap RatD.av)=l[j].av++(l.drop (j+1)).flatMap RatD.av:=by
 rw[Int.toNat_natCast,Bo (e:=RatD.av) (sz:=3) (fun _=>rfl) _ _ h]
end
end Gx

namespace Gx
open Go Go.Proofs
open IntKind (wrap)
set_option maxRecDepth 100000
noncomputable section
variable {R:Type} (N:Nat)
def Z3 (r0:Bool→O R) (l e:Bool) (b:LA) (i:Bool) (f:LA) (c:Bool) (g:LA) (o p:Bool) (n:LA):O R :=
 (cond p (cond (Nat.ble 3 (g.length)) (cond (Nat.ble 3 (f.length)) (V7 N (g.take 3) false (f.take 3) i (fun t=>(Ao .i64 (b.drop 6) fun u=>(Be N u (fun v=>(Cn N t false v false (fun w=>(cond ((decide (w≤0))==true) (cond (Nat.ble 3 (f.length)) (cond (Nat.ble 3 (n.length)) (V7 N (f.take 3) i (n.take 3) c (fun x=>(Ao .i64 (b.drop 7) fun y=>(Be N y (fun z=>(Cn N x false z false (fun aa=>(r0 (cond true (decide (aa≤0)) false))))))))) none) none) (r0 false))))))))) none) none) (cond o (cond (Nat.ble 3 (g.length)) (Ao .i64 (b.drop 8) fun ab=>(Be N ab (fun ac=>(Cn N (g.take 3) false ac false (fun ad=>(r0 (decide (ad≤0)))))))) none) (cond l (cond (Nat.ble 3 (f.length)) (Ao .i64 (b.drop 9) fun ae=>(Be N ae (fun af=>(Cn N (f.take 3) i af false (fun ag=>(r0 (decide (ag≤0)))))))) none) (r0 true))))
def PG (r0:Bool→O R) (q0:Bool→Bool→LA→LA→Bool→Bool→LA→O R) (b:LA) (e:Bool) (m:LA) (c:Bool) (d:Int):O R :=
 (cond (Nat.ble 22 (b.length)) (cond (Nat.ble 3 (m.length)) (KL N (b.take 22) e (m.take 3) c d (fun l f i=>(cond ((Nat.beq 0 0)&&((Nat.beq (f.length) 3)&&(Nat.beq 3 3))) (B9 1 m fun ah ai=>(cond (Ac d ai) (Ao .i64 (ah.drop ((d.toNat)*1)) fun r=>(B9 3 (m.drop 1) fun q aj=>(cond (Ac d aj) (cond (Nat.ble 3 ((q.drop ((d.toNat)*3)).length)) (cond ((Nat.beq 0 0)&&((Nat.beq (((q.drop ((d.toNat)*3)).take 3).length) 3)&&(Nat.beq 3 3))) (cond (Nat.ble 3 (((q.drop ((d.toNat)*3)).take 3).length)) (B9 3 (m.drop 2) fun s ak=>(cond (Ac d ak) (cond (Nat.ble 3 ((s.drop ((d.toNat)*3)).length)) (Kq N (((q.drop ((d.toNat)*3)).take 3).take 3) c ((s.drop ((d.toNat)*3)).take 3) c (fun g=>(cond ((Nat.beq 0 0)&&((Nat.beq (g.length) 3)&&(Nat.beq 3 3))) (cond ((r==2)==true) (q0 l i f g (r==2) (cond true l false) ((q.drop ((d.toNat)*3)).take 3)) (q0 l i f g (r==2) false ((q.drop ((d.toNat)*3)).take 3))) none))) none) none)) none) none) none) none))) none)) none))) none) none)
def Yu:=(Ae (fun (N:Nat) (b:LA) (e:Bool) (m:LA) (c:Bool) (d:Int) (r0:Bool→O R)=>(PG N r0 (fun l i f g o p n=>(Z3 N r0 l e b i f c g o p n)) b e m c d))).1
theorem ja (b e m c d r0):(@Yu R N b e m c d r0)=(PG N r0 (fun l i f g o p n=>(Z3 N r0 l e b i f c g o p n)) b e m c d):=by rw[Yu,(Ae _).2]
def pQ:Hints:={ H:=(hS hL (hS hL (hS hL (hS hL (hS hL (hS (hS (hJ [3,7,8,9,10,11,37] hL hL) hL) hL)))))) }
def ve:Dg:=[(169,At8 N),(32,Pk N),(33,YA N),(20,Gj N),(25,Ld N)]
def Aua (F:KF R):=Hp Tryz.f127 pQ (ve N) [] N F
def Z4 (F:KF R):Bool→O R:=(fun al=>F (.bool al) [])
def Aub (l e:Bool) (b:LA) (i:Bool) (f:LA) (c:Bool) (g:LA) (o p:Bool) (n:LA):St:=⟨[(3,(op 0)),(7,(.bool l)),(8,(op 1)),(9,(.bool o)),(10,(op 2)),(11,(op 3)),(37,(.bool p))],(hq [(bP e 0 b),(bP i 0 f),(bP c 0 n),(bQ 0 g)])⟩
def Auc (F:KF R):=Aua N F [1,1,1,1,1,0,0,1] []
theorem yx (F:KF R) (l e:Bool) (b:LA) (i:Bool) (f:LA) (c:Bool) (g:LA):∀ (o p:Bool) (n:LA),A9 (Auc N F) (Aub l e b i f c g o p n)=(Z3 N (Z4 F) l e b i f c g o p n):=by
 intro o p n
 kernel_rfl
theorem pR (b:LA) (e:Bool) (m:LA) (c:Bool) (d:Int) (F:KF R):Cd (ve N) pQ N 127 [(.pagg b e),(.pagg m c),(iv d)] [] F=(Yu N b e m c d (Z4 F)):=by
 rw[ja]
 exact Eq.trans (by kernel_rfl) (Bm (PG N (Z4 F) · b e m c d) (funext fun l=>funext fun i=>funext fun f=>funext fun g=>funext fun o=>funext fun p=>funext fun n=>(Aq ..).trans (yx N F l e b i f c g o p n)):_)
def jb (a:LA) (h:Ak) (k:KF R):O R :=
 match a,h with
 | [(.pagg b e),(.pagg m c),(.int .i64 d)],[]=>(Yu N b e m c d (Z4 k))
 | _,_=>none
theorem pS:An N 127 @jb:=by
 intro R Q a h k j;unfold jb;split;exact Ax (pR ..) (pR ..) ⟨At9 N,Pl N,YB N,Gk N,Le N,trivial⟩;exact Az
def Aud:=Ay (pS N)
def Aue:=Ca (pS N)
def Z5 (r0:Int→Int→O R) (d:Int) (e:Bool) (b:LA) (f:Bool) (c:LA) (k1:Int→LA→O R) (g:Int) (i:LA):O R :=
 (cond (decide (g<d)) (cond (Nat.ble 22 (b.length)) (cond (Nat.ble 2 (i.length)) (B9 1 c fun o p=>(cond (Ac g p) (Ao .i64 (o.drop ((g.toNat)*1)) fun q=>(KJ N (b.take 22) e g (i.take 2) false q (fun l r=>(cond ((Nat.beq (l.length) 2)&&((Nat.ble 2 2)&&(!false))) (cond (!r) (r0 g 16) (cond (Nat.ble 22 (b.length)) (cond (Nat.ble 3 (c.length)) (KK N (b.take 22) e (c.take 3) f g (fun s=>(cond (!s) (r0 g 3) (cond (Nat.ble 22 (b.length)) (cond (Nat.ble 3 (c.length)) (Yu N (b.take 22) e (c.take 3) f g (fun t=>(cond (!t) (r0 g 64) (cond (Nat.ble 2 ((setCells [(.int .i64 0),(.int .i64 0)] 0 l).length)) (cond ((Nat.beq (((setCells [(.int .i64 0),(.int .i64 0)] 0 l).take 2).length) 2)&&((Nat.ble 2 (i.length))&&(!false))) (k1 (wrap .i64 (g+1)) (setCells i 0 ((setCells [(.int .i64 0),(.int .i64 0)] 0 l).take 2))) none) none)))) none) none)))) none) none)) none)))) none)) none) none) (r0 d 0))
def Rn (r0:Int→Int→O R) (d:Int) (e:Bool) (b:LA) (f:Bool) (c:LA):Nat→Int→LA→O R
 | 0,_,_=>none
 | n+1,g,i=>(Z5 N r0 d e b f c (Rn r0 d e b f c n) g i)
def QZ (r0:Int→Int→O R) (d:Int) (e:Bool) (b:LA) (f:Bool) (c:LA) (q1:Int→LA→O R):O R :=
 (cond (Nat.ble 22 (b.length)) (L5 N (b.take 22) e (fun m=>(cond ((Nat.beq (m.length) 2)&&((Nat.ble 2 2)&&(!false))) (q1 0 (setCells [(.int .i64 0),(.int .i64 0)] 0 m)) none))) none)
def FV (r0:Int→Int→O R) (d:Int) (e:Bool) (b:LA) (f:Bool) (c:LA):O R:=(QZ N r0 d e b f c (fun g i=>(Rn N r0 d e b f c N g i)))
def ZT (r0:Int→Int→O R) (q0:O R) (b:LA) (e:Bool) (d:Int) (c:LA) (f:Bool):O R :=
 (cond (Nat.ble 22 (b.length)) (Yj N (b.take 22) e d (fun u=>(cond (!u) (r0 0 1) (B9 1 c fun aa v=>(cond ((((v:Nat):Int) != d)==false) (B9 3 (c.drop 1) fun ab w=>(cond ((cond false true (((w:Nat):Int) != d))==false) (B9 3 (c.drop 2) fun ac x=>(cond (cond false true (((x:Nat):Int) != d)) (r0 0 4) q0)) (r0 0 4))) (r0 0 4)))))) none)
def Yv:=(Ae (fun (N:Nat) (b:LA) (e:Bool) (d:Int) (c:LA) (f:Bool) (r0:Int→Int→O R)=>(ZT N r0 (FV N r0 d e b f c) b e d c f))).1
theorem pT (b e d c f r0):(@Yv R N b e d c f r0)=(ZT N r0 (FV N r0 d e b f c) b e d c f):=by rw[Yv,(Ae _).2]
def vf:Hints:={ H:=(hS hL (hS hL (hJ [1,3,5] hL (hS hL (hS (hS hL (hS (hP [1,3,5,8,9] hL) hL)) hL))))) }
def Adw:Dg:=[(17,uT N),(113,Ws N),(121,Adt N),(126,At5 N),(127,Aud N)]
def vg (F:KF R):=Hp Tryz.f78 vf (Adw N) [] N F
def Nf (F:KF R):Int→Int→O R:=(fun y z=>F (.tup [(iv y),(iv z)]) [])
def A2a (d:Int) (e:Bool) (b:LA) (f:Bool) (c:LA) (g:Int) (i:LA):St:=⟨[(1,(iv d)),(3,(op 0)),(5,(op 1)),(8,(op 2)),(9,(iv g))],(hq [(bP e 0 b),(bP f 0 c),(bQ 0 i)])⟩
def A2b (F:KF R):=vg N F [1,1,1,1,0,1,0] []
def A2c (d:Int) (e:Bool) (b:LA) (f:Bool) (c:LA):St:=⟨[(1,(iv d)),(3,(op 0)),(5,(op 1))],(hq [(bP e 0 b),(bP f 0 c)])⟩
def A2d (F:KF R):=vg N F [1,1,1] []
theorem dq (F:KF R) (d:Int) (e:Bool) (b:LA) (f:Bool) (c:LA):∀ (n:Nat) (g:Int) (i:LA),Ap (A2b N F) n (A2a d e b f c g i)=(Rn N (Nf F) d e b f c n g i)
 | 0,_,_=>by kernel_rfl
 | n+1,g,i=>Eq.trans (by kernel_rfl) (Bm (Z5 N (Nf F) d e b f c · g i) (funext fun g=>funext fun i=>(dq F d e b f c n g i)):_)
theorem Agt (F:KF R) (d:Int) (e:Bool) (b:LA) (f:Bool) (c:LA):A9 (A2d N F) (A2c d e b f c)=(FV N (Nf F) d e b f c):=by
 exact Eq.trans (by kernel_rfl) (Bm (QZ N (Nf F) d e b f c ·) (funext fun g=>funext fun i=>(Ai ..).trans (dq N F d e b f c N g i)):_)
theorem vh (b:LA) (e:Bool) (d:Int) (c:LA) (f:Bool) (F:KF R):Cd (Adw N) vf N 78 [(.pagg b e),(iv d),(.pagg c f)] [] F=(Yv N b e d c f (Nf F)):=by
 rw[pT]
 exact Eq.trans (by kernel_rfl) (Bm (ZT N (Nf F) · b e d c f) ((Aq ..).trans (Agt N F d e b f c)):_)
def pU (a:LA) (h:Ak) (k:KF R):O R :=
 match a,h with
 | [(.pagg b e),(.int .i64 d),(.pagg c f)],[]=>(Yv N b e d c f (Nf k))
 | _,_=>none
theorem vj:An N 78 @pU:=by
 intro R Q a h k j;unfold pU;split;exact Ax (vh ..) (vh ..) ⟨uU N,Wt N,Adu N,At6 N,Aue N,trivial⟩;exact Az
def vn:=Ay (vj N)
def vq:=Ca (vj N)
def Yw (N:Nat) (c:LA) (e d:Bool) (b:LA) (r0:Bool→O R):O R :=
 (cond (Nat.ble 2 (c.length)) (cond ((!e)||(A8 (c.take 2))) (cond (Nat.ble 2 (b.length)) (cond ((!d)||(A8 (b.take 2))) (cond ((Nat.ble 1 2)&&((Nat.beq ((c.take 2).length) 2)&&((Nat.beq ((b.take 2).length) 2)&&(true&&(!false))))) (Ao .i64 (c.take 2) fun f=>(Ao .i64 (b.take 2) fun g=>(Ao .i64 ((c.take 2).drop 1) fun i=>(Ao .i64 ((b.take 2).drop 1) fun l=>(r0 ((f==g)&&((i==l)&&true))))))) none) none) none) none) none)
def N3:=(Ae (@Yw R)).1
theorem EM:@N3 R=@Yw R:=(Ae _).2
def KQ (d:Bool) (b:LA) (F:KF R):Bool→O R:=(fun m=>F (.bool m) [(100000,(bP d 0 b))])
theorem KR (c:LA) (e d:Bool) (b:LA) (F:KF R):Cd [] C6 N 137 [(.pagg c e),(.optr 100000 0)] [(100000,(bP d 0 b))] F=(N3 N c e d b (KQ d b F)):=by
 rw[EM]
 kernel_rfl
def EO (a:LA) (h:Ak) (k:KF R):O R :=
 match a,h with
 | [(.pagg c e),(.optr 100000 0)],[(100000,⟨false,false,true,d,0,b,false⟩)]=>(N3 N c e d b (KQ d b k))
 | _,_=>none
theorem KS:An N 137 @EO:=by
 intro R Q a h k j;unfold EO;split;exact Ax (KR ..) (KR ..) trivial;exact Az
def rS:=Ay (KS N)
def rT:=Ca (KS N)
def B4 (r0:Int→O R) (d:LA) (e:Nat) (g f b:Bool) (c:LA) (k0:Int→Int→O R) (l i:Int):O R :=
 (cond (decide (i<l)) (cond (Ac i e) (cond (Nat.ble 2 ((d.drop ((i.toNat)*2)).length)) (cond ((!f)||(A8 ((d.drop ((i.toNat)*2)).take 2))) (N3 N ((d.drop ((i.toNat)*2)).take 2) false b c (fun m=>(cond m (r0 i) (k0 l (wrap .i64 (i+1)))))) none) none) none) (r0 (-1)))
def A4 (r0:Int→O R) (d:LA) (e:Nat) (g f b:Bool) (c:LA):Nat→Int→Int→O R
 | 0,_,_=>none
 | n+1,l,i=>(B4 N r0 d e g f b c (A4 r0 d e g f b c n) l i)
def Bj (N:Nat) (r0:Int→O R) (q0:Int→Int→O R) (d:LA) (e:Nat) (g f b:Bool) (c:LA):O R :=
 (q0 ((e:Nat):Int) 0)
def Bc:=(Ae (fun (N:Nat) (d:LA) (e:Nat) (g f b:Bool) (c:LA) (r0:Int→O R)=>(Bj N r0 (fun l i=>(A4 N r0 d e g f b c N l i)) d e g f b c))).1
theorem Dh (d e g f b c r0):(@Bc R N d e g f b c r0)=(Bj N r0 (fun l i=>(A4 N r0 d e g f b c N l i)) d e g f b c):=by rw[Bc,(Ae _).2]
def Dn:Hints:={ H:=(hS hL (hS (hS hL (hS (hP [0,1,7,8] hL) hL)) hL)) }
def D4:Dg:=[(137,rS N)]
def Hw (F:KF R):=Hp Tryz.f119 Dn (D4 N) [100000] N F
def A7 (b:Bool) (c:LA) (F:KF R):Int→O R:=(fun o=>F (iv o) [(100000,(bP b 0 c))])
def Hx (d:LA) (e:Nat) (g f b:Bool) (c:LA) (l i:Int):St:=⟨[(0,(.imm d e 2 g f)),(1,(.fn 137 [(.optr 100000 0)])),(7,(iv l)),(8,(iv i))],[(100000,(bP b 0 c))]⟩
def Hy (F:KF R):=Hw N F [1,0,1,0] []
theorem C8 (F:KF R) (d:LA) (e:Nat) (g f b:Bool) (c:LA):∀ (n:Nat) (l i:Int),Ap (Hy N F) n (Hx d e g f b c l i)=(A4 N (A7 b c F) d e g f b c n l i)
 | 0,_,_=>by kernel_rfl
 | n+1,l,i=>Eq.trans (by kernel_rfl) (Bm (B4 N (A7 b c F) d e g f b c · l i) (funext fun l=>funext fun i=>(C8 F d e g f b c n l i)):_)
theorem Do (d:LA) (e:Nat) (g f b:Bool) (c:LA) (F:KF R):Cd (D4 N) Dn N 119 [(.imm d e 2 g f),(.fn 137 [(.optr 100000 0)])] [(100000,(bP b 0 c))] F=(Bc N d e g f b c (A7 b c F)):=by
 rw[Dh]
 exact Eq.trans (by kernel_rfl) (Bm (Bj N (A7 b c F) · d e g f b c) (funext fun l=>funext fun i=>(Ai ..).trans (C8 N F d e g f b c N l i)):_)
def Di (a:LA) (h:Ak) (k:KF R):O R :=
 match a,h with
 | [(.imm d e 2 g f),(.fn 137 [(.optr 100000 0)])],[(100000,⟨false,false,true,b,0,c,false⟩)]=>(Bc N d e g f b c (A7 b c k))
 | _,_=>none
theorem Dp:An N 119 @Di:=by
 intro R Q a h k j;unfold Di;split;exact Ax (Do ..) (Do ..) ⟨rT N,trivial⟩;exact Az
def Hz:=Ay (Dp N)
def H0:=Ca (Dp N)
def Ci (d:LA) (e:Nat) (g f b:Bool) (c:LA) (r0:Bool→O R):O R :=
 (Bc N d e false f b c (fun i=>(r0 (decide (i≥0)))))
def Bk:=(Ae (@Ci R)).1
theorem Dj:@Bk R=@Ci R:=(Ae _).2
def Ir:Dg:=[(119,Hz N)]
def Dq (b:Bool) (c:LA) (F:KF R):Bool→O R:=(fun l=>F (.bool l) [(100000,(bP b 0 c))])
theorem Dr (d:LA) (e:Nat) (g f b:Bool) (c:LA) (F:KF R):Cd (Ir N) C6 N 138 [(.imm d e 2 g f),(.fn 137 [(.optr 100000 0)])] [(100000,(bP b 0 c))] F=(Bk N d e g f b c (Dq b c F)):=by
 rw[Dj]
 kernel_rfl
def Dk (a:LA) (h:Ak) (k:KF R):O R :=
 match a,h with
 | [(.imm d e 2 g f),(.fn 137 [(.optr 100000 0)])],[(100000,⟨false,false,true,b,0,c,false⟩)]=>(Bk N d e g f b c (Dq b c k))
 | _,_=>none
theorem Ds:An N 138 @Dk:=by
 intro R Q a h k j;unfold Dk;split;exact Ax (Dr ..) (Dr ..) ⟨H0 N,trivial⟩;exact Az
def H1:=Ay (Ds N)
def H2:=Ca (Ds N)
def Q_ (b:LA) (e:Bool) (c:LA) (f:Bool) (d:LA) (g:Bool) (r0:Int→O R):O R :=
 (Ao .i64 c fun i=>(cond ((i != 0)==false) (Ao .i64 d fun l=>(cond ((cond false true (l==0))==false) (cond (Nat.ble 22 (b.length)) (cond (Nat.ble 2 (c.length)) (cond ((!f)||(A8 (c.take 2))) (Wa N (b.take 22) e (c.take 2) false (fun m n=>(Bk N m n false false g d (fun o=>(cond (cond false true (!o)) (r0 0) (Ao .i64 (c.drop 1) fun p=>(Ao .i64 (b.drop 15) fun q=>(cond (decide (p≤q)) (Ao .i64 (b.drop 13) fun r=>(r0 r)) (Ao .i64 (b.drop 14) fun s=>(r0 s)))))))))) none) none) none) (r0 0))) (r0 0)))
def Wz:=(Ae (@Q_ R)).1
theorem VI:@Wz R=@Q_ R:=(Ae _).2
def Aqb:Dg:=[(118,Anr N),(138,H1 N)]
def dt (F:KF R):Int→O R:=(fun t=>F (iv t) [])
theorem du (b:LA) (e:Bool) (c:LA) (f:Bool) (d:LA) (g:Bool) (F:KF R):Cd (Aqb N) C6 N 85 [(.pagg b e),(.pagg c f),(.pagg d g)] [] F=(Wz N b e c f d g (dt F)):=by
 rw[VI]
 kernel_rfl
def VJ (a:LA) (h:Ak) (k:KF R):O R :=
 match a,h with
 | [(.pagg b e),(.pagg c f),(.pagg d g)],[]=>(Wz N b e c f d g (dt k))
 | _,_=>none
theorem dv:An N 85 @VJ:=by
 intro R Q a h k j;unfold VJ;split;exact Ax (du ..) (du ..) ⟨Ans N,H2 N,trivial⟩;exact Az
def Agu:=Ay (dv N)
def Agv:=Ca (dv N)
def PH (r0:LA→Int→O R) (o:Nat) (i:Int) (f:Bool) (b:LA) (g:Bool) (e l:LA) (k0:Int→LA→LA→O R) (c:Int) (d m:LA):O R :=
 (cond (decide (c<i)) (cond (Nat.ble 3 (d.length)) (cond (Nat.ble 22 (b.length)) (cond (Nat.ble 2 (m.length)) (cond (Ac c o) (cond (Nat.ble 2 ((l.drop (0+((c.toNat)*2))).length)) (Wz N (b.take 22) f (m.take 2) false ((l.drop (0+((c.toNat)*2))).take 2) false (fun z=>(Cb N z (fun aa=>(Ok N (d.take 3) false aa false (fun p=>(cond ((Nat.beq (p.length) 3)&&((Nat.ble 3 (d.length))&&(!false))) (cond (Ac c o) (cond (Nat.ble 2 ((l.drop (0+((c.toNat)*2))).length)) (cond ((Nat.beq (((l.drop (0+((c.toNat)*2))).take 2).length) 2)&&((Nat.ble 2 (m.length))&&(!false))) (B9 1 e fun ab ac=>(cond (Ac c ac) (Ao .i64 (ab.drop ((c.toNat)*1)) fun ad=>(cond (ad != 2) (k0 (wrap .i64 (c+1)) (setCells d 0 p) (setCells m 0 ((l.drop (0+((c.toNat)*2))).take 2))) (cond (Nat.ble 3 ((setCells d 0 p).length)) (Ao .i64 (b.drop 5) fun ae=>(Cb N ae (fun af=>(Ok N ((setCells d 0 p).take 3) false af false (fun q=>(cond ((Nat.beq (q.length) 3)&&((Nat.ble 3 ((setCells d 0 p).length))&&(!false))) (cond (Nat.ble 3 ((setCells (setCells d 0 p) 0 q).length)) (cond (Nat.ble 22 (b.length)) (B9 3 (e.drop 1) fun s ag=>(cond (Ac c ag) (cond (Nat.ble 3 ((s.drop ((c.toNat)*3)).length)) (Ig N (b.take 22) f ((s.drop ((c.toNat)*3)).take 3) g (fun ah=>(Ok N ((setCells (setCells d 0 p) 0 q).take 3) false ah false (fun r=>(cond ((Nat.beq (r.length) 3)&&((Nat.ble 3 ((setCells (setCells d 0 p) 0 q).length))&&(!false))) (cond (Nat.ble 3 ((setCells (setCells (setCells d 0 p) 0 q) 0 r).length)) (Ao .i64 (b.drop 17) fun ai=>(B9 3 (e.drop 2) fun t aj=>(cond (Ac c aj) (cond (Nat.ble 3 ((t.drop ((c.toNat)*3)).length)) (TL N ai ((t.drop ((c.toNat)*3)).take 3) g (fun ak=>(Ok N ((setCells (setCells (setCells d 0 p) 0 q) 0 r).take 3) false ak false (fun u=>(cond ((Nat.beq (u.length) 3)&&((Nat.ble 3 ((setCells (setCells (setCells d 0 p) 0 q) 0 r).length))&&(!false))) (k0 (wrap .i64 (c+1)) (setCells (setCells (setCells (setCells d 0 p) 0 q) 0 r) 0 u) (setCells m 0 ((l.drop (0+((c.toNat)*2))).take 2))) none))))) none) none))) none) none))))) none) none)) none) none) none)))))) none))) none)) none) none) none) none))))))) none) none) none) none) none) (cond (Nat.ble 3 (d.length)) (cond ((Nat.beq 0 0)&&((Nat.beq ((d.take 3).length) 3)&&(Nat.beq 3 3))) (cond (Nat.ble 3 ((d.take 3).length)) (r0 ((d.take 3).take 3) 0) none) none) none))
def Ue (r0:LA→Int→O R) (o:Nat) (i:Int) (f:Bool) (b:LA) (g:Bool) (e l:LA):Nat→Int→LA→LA→O R
 | 0,_,_,_=>none
 | n+1,c,d,m=>(PH N r0 o i f b g e l (Ue r0 o i f b g e l n) c d m)
def vr (r0:LA→Int→O R) (q0:Nat→LA→Int→LA→LA→O R) (b:LA) (f:Bool) (i:Int) (e:LA) (g:Bool):O R :=
 (cond (Nat.ble 22 (b.length)) (cond (Nat.ble 3 (e.length)) (BP N (b.take 22) f i (e.take 3) g (fun ap v=>(cond (v != 0) (r0 [(.bool false),.nsl,.nsl] v) (cond (Nat.ble 22 (b.length)) (B9 1 e fun al am=>(FE N (b.take 22) f al am false g (fun o aq w l=>(cond (w != 0) (r0 [(.bool false),.nsl,.nsl] w) (Cb N 0 (fun x=>(cond ((Nat.beq 0 0)&&((Nat.beq (x.length) 3)&&(Nat.beq 3 3))) (cond (Nat.ble 22 (b.length)) (Ub N (b.take 22) f (fun y=>(cond ((Nat.beq (y.length) 2)&&((Nat.ble 2 2)&&(!false))) (q0 o l 0 x (setCells [(.int .i64 0),(.int .i64 0)] 0 y)) none))) none) none))))))) none)))) none) none)
def ZU:=(Ae (fun (N:Nat) (b:LA) (f:Bool) (i:Int) (e:LA) (g:Bool) (r0:LA→Int→O R)=>(vr N r0 (fun o l c d m=>(Ue N r0 o i f b g e l N c d m)) b f i e g))).1
theorem Adx (b f i e g r0):(@ZU R N b f i e g r0)=(vr N r0 (fun o l c d m=>(Ue N r0 o i f b g e l N c d m)) b f i e g):=by rw[ZU,(Ae _).2]
def Aqc:Hints:={ H:=(hS hL (hS hL (hS hL (hS hL (hS hL (hS hL (hS (hS hL (hS (hP [3,5,6,10,13,14,42,43] hL) hL)) hL))))))),modes:=[(3,0),(0,0)] }
def Ax0:Dg:=[(38,jK N),(64,rA N),(60,Ga N),(84,oC N),(85,Agu N),(81,GM N),(57,NS N),(86,Ach N)]
def Ba5 (F:KF R):=Hp Tryz.f43 Aqc (Ax0 N) [] N F
def KT (F:KF R):LA→Int→O R:=(fun an ao=>F (.tup [(.pagg an false),(iv ao)]) [])
def Ba6 (o:Nat) (i:Int) (f:Bool) (b:LA) (g:Bool) (e l:LA) (c:Int) (d m:LA):St:=⟨[(3,(op 0)),(5,(op 1)),(6,(op 2)),(10,(.own 300003 0 o)),(13,(op 4)),(14,(op 5)),(42,(iv i)),(43,(iv c))],(hq [(bP f 0 b),(bP g 0 e),⟨false,false,false,false,0,[(.bool false),.nsl,.nsl],false⟩,(bQ 2 l),(bQ 0 d),(bQ 0 m)])⟩
def Ba7 (F:KF R):=Ba5 N F [1,1,1,1,1,1,0,1,0] []
theorem pV (F:KF R) (o:Nat) (i:Int) (f:Bool) (b:LA) (g:Bool) (e l:LA):∀ (n:Nat) (c:Int) (d m:LA),Ap (Ba7 N F) n (Ba6 o i f b g e l c d m)=(Ue N (KT F) o i f b g e l n c d m)
 | 0,_,_,_=>by kernel_rfl
 | n+1,c,d,m=>Eq.trans (by kernel_rfl) (Bm (PH N (KT F) o i f b g e l · c d m) (funext fun c=>funext fun d=>funext fun m=>(pV F o i f b g e l n c d m)):_)
theorem Aqd (b:LA) (f:Bool) (i:Int) (e:LA) (g:Bool) (F:KF R):Cd (Ax0 N) Aqc N 43 [(.pagg b f),(iv i),(.pagg e g)] [] F=(ZU N b f i e g (KT F)):=by
 rw[Adx]
 exact Eq.trans (by kernel_rfl) (Bm (vr N (KT F) · b f i e g) (funext fun o=>funext fun l=>funext fun c=>funext fun d=>funext fun m=>(Ai ..).trans (pV N F o i f b g e l N c d m)):_)
def Ady (a:LA) (h:Ak) (k:KF R):O R :=
 match a,h with
 | [(.pagg b f),(.int .i64 i),(.pagg e g)],[]=>(ZU N b f i e g (KT k))
 | _,_=>none
theorem Aqe:An N 43 @Ady:=by
 intro R Q a h k j;unfold Ady;split;exact Ax (Aqd ..) (Aqd ..) ⟨jL N,rB N,Gb N,oD N,Agv N,GN N,NT N,Aci N,trivial⟩;exact Az
def Aqf:=Ay (Aqe N)
def Aqg:=Ca (Aqe N)
def FW (r0:Nat→Int→Int→LA→O R) (e:LA) (c:Nat) (f g d:Bool) (b:LA) (k0:Nat→Int→LA→LA→O R) (l:Nat) (i:Int) (o m:LA):O R :=
 (cond (decide (i<((c:Nat):Int))) (cond (Nat.ble 22 (b.length)) (cond (Nat.ble 2 (m.length)) (cond (Ac i c) (Ao .i64 (e.drop ((i.toNat)*1)) fun r=>(KJ N (b.take 22) d i (m.take 2) false r (fun p s=>(cond ((Nat.beq (p.length) 2)&&((Nat.ble 2 2)&&(!false))) (cond (!s) (r0 0 i 16 []) (cond (Nat.ble 2 ((setCells [(.int .i64 0),(.int .i64 0)] 0 p).length)) (cond ((Nat.beq (((setCells [(.int .i64 0),(.int .i64 0)] 0 p).take 2).length) 2)&&(Nat.ble 2 2)) (cond ((Nat.ble (l+1) 140737488355328)&&(Nat.ble ((l+1)*16) 140737488355328)) (cond (Nat.ble 2 ((setCells [(.int .i64 0),(.int .i64 0)] 0 p).length)) (cond ((Nat.beq (((setCells [(.int .i64 0),(.int .i64 0)] 0 p).take 2).length) 2)&&((Nat.ble 2 (m.length))&&(!false))) (k0 (l+1) (wrap .i64 (i+1)) ((o.take (l*2))++((setCells [(.int .i64 0),(.int .i64 0)] 0 ((setCells [(.int .i64 0),(.int .i64 0)] 0 p).take 2)).take 2)) (setCells m 0 ((setCells [(.int .i64 0),(.int .i64 0)] 0 p).take 2))) none) none) none) none) none)) none)))) none) none) none) (r0 l ((c:Nat):Int) 0 o))
def Qd (r0:Nat→Int→Int→LA→O R) (e:LA) (c:Nat) (f g d:Bool) (b:LA):Nat→Nat→Int→LA→LA→O R
 | 0,_,_,_,_=>none
 | n+1,l,i,o,m=>(FW N r0 e c f g d b (Qd r0 e c f g d b n) l i o m)
def lL (r0:Nat→Int→Int→LA→O R) (q0:Nat→Int→LA→LA→O R) (b:LA) (d:Bool) (e:LA) (c:Nat) (f g:Bool):O R :=
 (cond (Nat.ble 22 (b.length)) (Lg N (b.take 22) d (fun t=>(cond (!t) (r0 0 0 1 []) (cond (Nat.ble 22 (b.length)) (L5 N (b.take 22) d (fun q=>(cond ((Nat.beq (q.length) 2)&&((Nat.ble 2 2)&&(!false))) (q0 0 0 [] (setCells [(.int .i64 0),(.int .i64 0)] 0 q)) none))) none)))) none)
def KU:=(Ae (fun (N:Nat) (b:LA) (d:Bool) (e:LA) (c:Nat) (f g:Bool) (r0:Nat→Int→Int→LA→O R)=>(lL N r0 (fun l i o m=>(Qd N r0 e c f g d b N l i o m)) b d e c f g))).1
theorem vt (b d e c f g r0):(@KU R N b d e c f g r0)=(lL N r0 (fun l i o m=>(Qd N r0 e c f g d b N l i o m)) b d e c f g):=by rw[KU,(Ae _).2]
def Adz:Hints:={ H:=(hS hL (hS hL (hS hL (hS hL (hS (hS hL (hS (hP [1,2,7,8,9] hL) hL)) hL))))),nils:=[(4,2),(7,2)],modes:=[(2,2),(0,0),(0,0)] }
def Aqh:Dg:=[(52,Q6 N),(113,Ws N),(121,Adt N)]
def A6n (F:KF R):=Hp Tryz.f67 Adz (Aqh N) [] N F
def BS (F:KF R):Nat→Int→Int→LA→O R:=(fun u v w x=>F (.tup [(.own 300000 0 u),(iv v),(iv w)]) (hq [(bQ 2 x)]))
def A6o (e:LA) (c:Nat) (f g d:Bool) (b:LA) (l:Nat) (i:Int) (o m:LA):St:=⟨[(1,(.imm e c 1 f g)),(2,(op 0)),(7,(.own 300001 0 l)),(8,(op 2)),(9,(iv i))],(hq [(bP d 0 b),(bQ 2 o),(bQ 0 m)])⟩
def A6p (F:KF R):=A6n N F [1,1,1,1,0,1,0] []
theorem jc (F:KF R) (e:LA) (c:Nat) (f g d:Bool) (b:LA):∀ (n l:Nat) (i:Int) (o m:LA),Ap (A6p N F) n (A6o e c f g d b l i o m)=(Qd N (BS F) e c f g d b n l i o m)
 | 0,_,_,_,_=>by kernel_rfl
 | n+1,l,i,o,m=>Eq.trans (by kernel_rfl) (Bm (FW N (BS F) e c f g d b · l i o m) (funext fun l=>funext fun i=>funext fun o=>funext fun m=>(jc F e c f g d b n l i o m)):_)
theorem Ad0 (b:LA) (d:Bool) (e:LA) (c:Nat) (f g:Bool) (F:KF R):Cd (Aqh N) Adz N 67 [(.pagg b d),(.imm e c 1 f g)] [] F=(KU N b d e c f g (BS F)):=by
 rw[vt]
 exact Eq.trans (by kernel_rfl) (Bm (lL N (BS F) · b d e c f g) (funext fun l=>funext fun i=>funext fun o=>funext fun m=>(Ai ..).trans (jc N F e c f g d b N l i o m)):_)
def vu (a:LA) (h:Ak) (k:KF R):O R :=
 match a,h with
 | [(.pagg b d),(.imm e c 1 f g)],[]=>(KU N b d e c f g (BS k))
 | _,_=>none
theorem Ad1:An N 67 @vu:=by
 intro R Q a h k j;unfold vu;split;exact Ax (Ad0 ..) (Ad0 ..) ⟨Q8 N,Wt N,Adu N,trivial⟩;exact Az
def Ad2:=Ay (Ad1 N)
def Ad3:=Ca (Ad1 N)
def CP (N:Nat) (r0:Bool→O R) (f:Nat) (c:Bool) (b e:LA) (k0:Int→O R) (d:Int):O R :=
 (cond (decide (d<((f:Nat):Int))) (cond (Ac d f) (cond (Nat.ble 2 ((e.drop (0+((d.toNat)*2))).length)) (cond (Nat.ble 2 (b.length)) (cond ((!c)||(A8 (b.take 2))) (cond ((Nat.ble 1 2)&&((Nat.beq (((e.drop (0+((d.toNat)*2))).take 2).length) 2)&&((Nat.beq ((b.take 2).length) 2)&&(true&&(!false))))) (Ao .i64 ((e.drop (0+((d.toNat)*2))).take 2) fun o=>(Ao .i64 (b.take 2) fun p=>(Ao .i64 (((e.drop (0+((d.toNat)*2))).take 2).drop 1) fun q=>(Ao .i64 ((b.take 2).drop 1) fun r=>(cond ((o==p)&&((q==r)&&true)) (r0 true) (k0 (wrap .i64 (d+1)))))))) none) none) none) none) none) (r0 false))
def Lo (r0:Bool→O R) (f:Nat) (c:Bool) (b e:LA):Nat→Int→O R
 | 0,_=>none
 | n+1,d=>(CP N r0 f c b e (Lo r0 f c b e n) d)
def FX (r0:Bool→O R) (q0:Nat→LA→Int→O R) (i:LA) (l:Bool) (g:LA) (m:Bool) (b:LA) (c:Bool):O R :=
 (cond (Nat.ble 22 (i.length)) (cond (Nat.ble 2 (g.length)) (cond ((!m)||(A8 (g.take 2))) (KI N (i.take 22) l (g.take 2) false (fun f e=>(q0 f e 0))) none) none) none)
def BT:=(Ae (fun (N:Nat) (i:LA) (l:Bool) (g:LA) (m:Bool) (b:LA) (c:Bool) (r0:Bool→O R)=>(FX N r0 (fun f e d=>(Lo N r0 f c b e N d)) i l g m b c))).1
theorem dw (i l g m b c r0):(@BT R N i l g m b c r0)=(FX N r0 (fun f e d=>(Lo N r0 f c b e N d)) i l g m b c):=by rw[BT,(Ae _).2]
def jd:Hints:={ H:=(hS hL (hS hL (hS (hS hL (hS (hP [5,7,8] hL) hL)) hL))) }
def pW:Dg:=[(114,jU N)]
def Aqi (F:KF R):=Hp Tryz.f194 jd (pW N) [] N F
def Qe (F:KF R):Bool→O R:=(fun s=>F (.bool s) [])
def Aqj (f:Nat) (c:Bool) (b e:LA) (d:Int):St:=⟨[(5,(op 0)),(7,(.own 300001 0 f)),(8,(iv d))],(hq [(bP c 0 b),(bQ 2 e)])⟩
def Aqk (F:KF R):=Aqi N F [1,1,0,1,0] []
theorem PI (F:KF R) (f:Nat) (c:Bool) (b e:LA):∀ (n:Nat) (d:Int),Ap (Aqk N F) n (Aqj f c b e d)=(Lo N (Qe F) f c b e n d)
 | 0,_=>by kernel_rfl
 | n+1,d=>Eq.trans (by kernel_rfl) (Bm (CP N (Qe F) f c b e · d) (funext fun d=>(PI F f c b e n d)):_)
theorem je (i:LA) (l:Bool) (g:LA) (m:Bool) (b:LA) (c:Bool) (F:KF R):Cd (pW N) jd N 194 [(.pagg i l),(.pagg g m),(.pagg b c)] [] F=(BT N i l g m b c (Qe F)):=by
 rw[dw]
 exact Eq.trans (by kernel_rfl) (Bm (FX N (Qe F) · i l g m b c) (funext fun f=>funext fun e=>funext fun d=>(Ai ..).trans (PI N F f c b e N d)):_)
def dx (a:LA) (h:Ak) (k:KF R):O R :=
 match a,h with
 | [(.pagg i l),(.pagg g m),(.pagg b c)],[]=>(BT N i l g m b c (Qe k))
 | _,_=>none
theorem jf:An N 194 @dx:=by
 intro R Q a h k j;unfold dx;split;exact Ax (je ..) (je ..) ⟨jV N,trivial⟩;exact Az
def Aql:=Ay (jf N)
def Aqm:=Ca (jf N)
def KV (b:LA) (e:Bool) (c:LA) (f:Bool) (d:LA) (g:Bool) (r0:Int→O R):O R :=
 (cond (Nat.ble 22 (b.length)) (cond (Nat.ble 2 (c.length)) (cond ((!f)||(A8 (c.take 2))) (cond (Nat.ble 2 (d.length)) (cond ((!g)||(A8 (d.take 2))) (BT N (b.take 22) e (c.take 2) false (d.take 2) false (fun i=>(cond ((!i)==false) (Ao .i64 c fun l=>(cond ((cond false true (l != 0))==false) (Ao .i64 d fun m=>(cond (cond false true (m==0)) (r0 0) (Ao .i64 (c.drop 1) fun n=>(Ao .i64 (b.drop 15) fun o=>(cond (decide (n≤o)) (Ao .i64 (b.drop 13) fun p=>(r0 p)) (Ao .i64 (b.drop 14) fun q=>(r0 q))))))) (r0 0))) (r0 0)))) none) none) none) none) none)
def Tb:=(Ae (@KV R)).1
theorem PJ:@Tb R=@KV R:=(Ae _).2
def Agw:Dg:=[(194,Aql N)]
def VK (F:KF R):Int→O R:=(fun r=>F (iv r) [])
theorem VL (b:LA) (e:Bool) (c:LA) (f:Bool) (d:LA) (g:Bool) (F:KF R):Cd (Agw N) C6 N 170 [(.pagg b e),(.pagg c f),(.pagg d g)] [] F=(Tb N b e c f d g (VK F)):=by
 rw[PJ]
 kernel_rfl
def PK (a:LA) (h:Ak) (k:KF R):O R :=
 match a,h with
 | [(.pagg b e),(.pagg c f),(.pagg d g)],[]=>(Tb N b e c f d g (VK k))
 | _,_=>none
theorem VM:An N 170 @PK:=by
 intro R Q a h k j;unfold PK;split;exact Ax (VL ..) (VL ..) ⟨Aqm N,trivial⟩;exact Az
def yy:=Ay (VM N)
def yz:=Ca (VM N)
end
end Gx

namespace Gx
open Go Go.Proofs
section
variable {R:Type}
theorem A6q {N:Nat} {K:Bool→O R} {l:List Int} {d e:Bool} {c:Int} (k:l.length≤1000000000000):∀ (m j fuel:Nat),j+m=l.length→m<fuel→Ya N K (Av l) l.length d e c fuel (j:Int)=K (decide (c ∈ l.drop j))
 | 0,j,fuel+1,C,_=>by
  rw[Ya];unfold XN
  rw[Kn (by omega),cf,Dz (by omega)];rfl
 | m+1,j,fuel+1,C,D=>by
  rw[Ya];unfold XN
  have h:j<l.length:=by omega
  rw[Iz h,ct,Aa h,ct,Ct h,wS (by omega),A6q k m (j+1) fuel (by omega) (by omega),Bs h]
  by_cases e:l[j]=c
  ·rw[show(l[j]==c)=true by simpa using e,ct];congr 1;simp[e]
  ·rw[show(l[j]==c)=false by simpa using e,cf];congr 1;rw[decide_eq_decide,List.mem_cons]
   constructor
   ·exact .inr
   ·rintro(h | h)
    ·exact absurd h.symm e
    ·exact h
theorem Bj2 {N:Nat} {K:Bool→O R} {l:List Int} {n:Nat} {d e:Bool} {c:Int} (hn:n=l.length) (k:l.length≤1000) (hN:1100≤N):qU N (Av l) n d e c K=K (decide (c ∈ l)):=by
 subst hn
 rw[Ala];unfold Ahq
 exact A6q (by omega) l.length 0 N (by omega) (by omega)
theorem vw {N:Nat} {K:Bool→O R} {u:UnitD} {o:Bool} {h k:Int} (C:u.away.l.length≤1000) (hN:1100≤N) (D:k=0∨k=1∨k=2):Vg N u.av o h k K=K (rR u h k):=by
 rw[d6];unfold ZQ
 simp only[Bku,Bj2 rfl C hN]
 unfold rR
 rcases D with rfl | rfl | rfl
 ·rfl
 ·rw[show(((1:Int)==0)==false)=true from rfl,ct,show(((1:Int)==1)==false)=false from rfl,cf];rfl
 ·rfl
theorem Bj3 {u:UnitD} {s:StD} {t:StD} (hs:Cq u=true) (C:Sa u s) (h:t ∈ Gv u s):t.k=0∨t.k=1∨t.k=2:=(yu hs (j8 hs C t h)).2.2
theorem zA {N:Nat} {X:O R} {K:LA→Bool→O R} {u:UnitD} {L:List StD} {o:Bool} {h k:Int} (G:u.away.l.length≤1000) (hN:1100≤N) (hL:L.length≤1000) (I:∀ t ∈ L,t.k=0∨t.k=1∨t.k=2):∀ (m j fuel:Nat),j+m=L.length→m<fuel →
  (cond (rR u h k) (d_ (L.drop j) k) none=none→K [(.int .i64 0),(.int .i64 0)] false=X)→(∀ t,cond (rR u h k) (d_ (L.drop j) k) none=some t→K t.av true=X) →
  Qc N K h k L.length o u.av (L.flatMap StD.av) fuel (j:Int)=X
 | 0,j,fuel+1,V,_,D,_=>by
  rw[Qc];unfold FU
  rw[Kn (by omega),cf]
  exact D (by rw[Dz (by omega)];cases rR u h k<;>rfl)
 | m+1,j,fuel+1,V,Y,D,F=>by
  rw[Qc];unfold FU
  have C:j<L.length:=by omega
  rw[Iz C,ct,Aa C,ct,j9 C,Bie,KO,KP,Adv,Bgm,eh,Agr,wS (by omega)]
  rw[Bs C] at D F
  unfold d_ at D F
  simp only[List.find?_cons] at D F
  cases M:(L[j].k==k) with
  | true =>
   rw[M] at D F
   have S:k=0∨k=1∨k=2:=by
    have:=I L[j] (List.getElem_mem C)
    rwa [show L[j].k=k by simpa using M] at this
   rw[show(true==true)=true from rfl,ct,Cl,ct,Bg,vw G hN S]
   cases T:rR u h k with
   | true=>rw[T] at F;exact F _ rfl
   | false =>
    rw[T] at D
    rw[show(cond true false false)=false from rfl,cf]
    exact zA G hN hL I m (j+1) fuel (by omega) (by omega) (fun _=>D rfl) (fun t U=>by rw[T] at U;cases U)
  | false =>
   rw[M] at D F
   rw[show(false==true)=false from rfl,cf]
   exact zA G hN hL I m (j+1) fuel (by omega) (by omega) D F
theorem Bcv {N:Nat} {X:O R} {K:LA→Bool→O R} {u:UnitD} {s:StD} {o d:Bool} {h k:Int} (hs:Cq u=true) (C:Sa u s) (D:u.away.l.length≤1000) (hN:1100≤N)
  (F:Wy u h s k=none→K [(.int .i64 0),(.int .i64 0)] false=X) (G:∀ t,Wy u h s k=some t→K t.av true=X):KJ N u.av o h s.av d k K=X:=by
 rw[v_];unfold lK
 rw[Cl,ct,eh,ct,Agr,VH,ct,Bg,QY hN hs C]
 have:=VF (u:=u) (s:=s)
 exact zA D hN (by omega) (fun t I=>Bj3 hs C I) (Gv u s).length 0 N (by omega) (by omega) F G
theorem Bk6:((Nat.beq (List.length [(AV.int .i64 0),(.int .i64 0)]) 2)&&((Nat.ble 2 2)&&(!false)))=true:=rfl
theorem Auf {N:Nat} {X:O R} {K:Nat→Int→Int→LA→O R} {u:UnitD} {ks:List Int} {i j o:Bool} (hN:1100≤N) (hs:Cq u=true) (Y:ks.length≤1000) (S:u.away.l.length≤1000):∀ (m h fuel:Nat) (s:StD) (l:List StD),h+m=ks.length→m<fuel→l.length=h→Sa u s →
  ((Cz u h s (ks.drop h)).2=true→K ks.length ks.length 0 ((l++(Cz u h s (ks.drop h)).1).flatMap StD.av)=X)→((Cz u h s (ks.drop h)).2=false→K 0 ((l++(Cz u h s (ks.drop h)).1).length:Nat) 16 []=X) →
  Qd N K (Av ks) ks.length i j o u.av fuel l.length (h:Int) (l.flatMap StD.av) s.av=X:=by
 intro m
 induction m with
 | zero =>
  intro h fuel s l T U G D F _
  obtain⟨fuel,rfl⟩:∃ k,fuel=k+1:=⟨fuel - 1,by omega⟩
  rw[Qd];unfold FW
  rw[Kn (by omega),cf,show l.length=ks.length by omega]
  rw[Dz (by omega)] at F
  simpa[Cz] using F rfl
 | succ m V =>
  intro h fuel s l T U G D F I
  obtain⟨fuel,rfl⟩:∃ k,fuel=k+1:=⟨fuel - 1,by omega⟩
  rw[Qd];unfold FW
  have C:h<ks.length:=by omega
  rw[Iz C,ct,Cl,ct,eh,ct,Aa C,ct,Ct C,Bg,Agr]
  rw[Bs C,Cz] at F I
  refine Bcv hs D S hN (fun hn=>?_) (fun t M=>?_)
  ·rw[hn] at I
   rw[Bk6,ct]
   simpa[G] using I rfl
  ·rw[M] at F I
   rw[Adv,ct,show(!true)=false from rfl,cf,Bgm,eh,ct,Agr,Bk5,ct,Bfg (by omega),ct,ct,show ∀ t:StD,((Nat.beq (List.length t.av) 2)&&(true&&(!false)))=true from fun _=>rfl,ct,Bgm,Agr,Axv,VG,wS (by omega)]
   have:=V (h+1) fuel t (l++[t]) (by omega) (by omega) (by simp;omega) (j_ hs D M).1
    (fun L=>by have:=F L;simpa using this) (fun L=>by have:=I L;simpa using this)
   simpa using this
theorem Ad4 {N:Nat} {X:O R} {K:Nat→Int→Int→LA→O R} {u:UnitD} {ks:List Int} {n:Nat} {i j o:Bool} (hN:1100≤N) (hs:Cq u=true) (k:u.away.l.length≤1000) (C:ks.length≤1000) (hn:n=ks.length)
  (D:(Cz u 0 (Br u) ks).2=true→K ks.length ks.length 0 ((Cz u 0 (Br u) ks).1.flatMap StD.av)=X) (F:(Cz u 0 (Br u) ks).2=false→K 0 ((Cz u 0 (Br u) ks).1.length:Nat) 16 []=X) :
  KU N u.av o (Av ks) n i j K=X:=by
 subst hn
 rw[vt];unfold lL
 rw[Cl,ct,Bg,Lh,hs,show(!true)=false from rfl,cf,ct,Rm hs,Adv,ct,Bgm]
 exact Auf hN hs C k ks.length 0 N (Br u) [] (by omega) (by omega) rfl (Rl hs) (by simpa using D) (by simpa using F)
def Rz (u:UnitD) (s t:StD):Int:=cond (s.k==0&&!(t.k==0)) (cond (decide (s.h≤u.hotHours)) u.hotCost u.coldCost) 0
theorem Big {N:Nat} {s t:StD} {d b:Bool} {K:Bool→O R}:N3 N s.av d b t.av K=K ((s.k==t.k)&&((s.h==t.h)&&true)):=by
 rw[EM];unfold Yw
 simp only[eh,Agr,VH,A17,ct,d8,KN]
theorem Bm6 {s t:StD} (e:¬ s=t):((s.k==t.k)&&((s.h==t.h)&&true))=false:=by
 cases C:((s.k==t.k)&&((s.h==t.h)&&true)) with
 | false=>rfl
 | true=>exact absurd ((Axw _ _).1 C) e
theorem Ax1 {N:Nat} {X:O R} {K:Int→O R} {L:List StD} {a b c:Bool} {t:StD} (hL:L.length≤1000) (hX:∀ i:Nat,K (i:Int)=X):∀ (m j fuel:Nat),j+m=L.length→m<fuel→t ∈ L.drop j →
  A4 N K (L.flatMap StD.av) L.length a b c t.av fuel (L.length:Int) (j:Int)=X
 | 0,j,fuel+1,C,_,k=>by rw[Dz (by omega)] at k;simp at k
 | m+1,j,fuel+1,C,D,k=>by
  rw[A4];unfold B4
  have h:j<L.length:=by omega
  rw[Iz h,ct,Aa h,ct,Bct h,KO,ct,KP,VH,ct,Big]
  by_cases e:L[j]=t
  ·rw[(Axw _ _).2 e,ct];exact hX j
  ·rw[Bm6 e,cf,wS (by omega)]
   rw[Bs h] at k
   exact Ax1 hL hX m (j+1) fuel (by omega) (by omega) (by
    rcases List.mem_cons.1 k with k | k
    ·exact absurd k.symm e
    ·exact k)
theorem Aqn {N:Nat} {K:Int→O R} {u:UnitD} {s t:StD} {o d f:Bool} (hN:1100≤N) (hs:Cq u=true) (D:Sa u s) (G:t ∈ Gv u s):Wz N u.av o s.av d t.av f K=K (Rz u s t):=by
 rw[VI];unfold Q_
 rw[d8,d8]
 unfold Rz
 by_cases C:s.k=0
 ·rw[show((s.k != 0)==false)=true by simp[C],ct,show(s.k==0)=true by simpa using C]
  by_cases F:t.k=0
  ·rw[show(t.k==0)=true by simpa using F];rfl
  ·rw[show(t.k==0)=false by simpa using F,show((cond false true false)==false)=true from rfl,ct,Cl,ct,eh,ct,Agr,VH,ct,Bg,vd (by omega) hs D]
   rw[Dj];unfold Ci
   rw[Dh];unfold Bj
   have:=VF (u:=u) (s:=s)
   refine Ax1 (by omega) (fun i=>?_) (Gv u s).length 0 N (by omega) (by omega) G
   rw[show decide ((i:Int)≥0)=true by simp]
   dsimp only
   rw[show(cond false true (!true))=false from rfl,cf,KN,Bmo,Bni,Bnj]
   cases decide (s.h≤u.hotHours)<;>rfl
 ·rw[show((s.k != 0)==false)=false by simp[C],cf,show(s.k==0)=false by simpa using C];rfl
theorem A6r {N:Nat} {K:Bool→O R} {L:List StD} {t:StD} {c:Bool} (hL:L.length≤10000):∀ (m j fuel:Nat),j+m=L.length→m<fuel→t ∈ L.drop j→Lo N K L.length c t.av (L.flatMap StD.av) fuel (j:Int)=K true
 | 0,j,fuel+1,F,_,C=>by rw[Dz (by omega)] at C;simp at C
 | m+1,j,fuel+1,F,I,C=>by
  have h:j<L.length:=by omega
  rw[Lo];unfold CP
  simp only[Iz h,ct,Aa h,j9 h,KO,KP,eh,Agr,VH,A17,d8,KN]
  by_cases e:L[j]=t
  ·rw[(Axw _ _).2 e,ct]
  ·have:((L[j].k==t.k)&&((L[j].h==t.h)&&true))=false:=by
    cases G:((L[j].k==t.k)&&((L[j].h==t.h)&&true)) with
    | false=>rfl
    | true=>exact absurd ((Axw _ _).1 G) e
   rw[this,cf,wS (by omega)]
   rw[Bs h] at C
   exact A6r hL m (j+1) fuel (by omega) (by omega) (by
    rcases List.mem_cons.1 C with D | D
    ·exact absurd D.symm e
    ·exact D)
theorem Agx {N:Nat} {K:Int→O R} {u:UnitD} {s t:StD} {o d f:Bool} (hN:1100≤N) (hs:Cq u=true) (D:Sa u s) (F:t ∈ Gv u s):Tb N u.av o s.av d t.av f K=K (Rz u s t):=by
 rw[PJ];unfold KV
 rw[Cl,ct,eh,ct,Agr,VH,ct,eh,ct,Agr,VH,ct,Bg,dw];unfold FX
 rw[Cl,ct,eh,ct,Agr,VH,ct,Bg,QY hN hs D]
 have:=VF (u:=u) (s:=s)
 have e:=A6r (N:=N) (c:=false) (K:=fun i=>(cond ((!i)==false) (Ao .i64 s.av fun j=>(cond ((cond false true (j != (0:Int)))==false) (Ao .i64 t.av fun l=>(cond (cond false true (l==(0:Int))) (K 0) (Ao .i64 (List.drop 1 s.av) fun m=>(Ao .i64 (List.drop 15 u.av) fun n=>(cond (decide (m≤n)) (Ao .i64 (List.drop 13 u.av) fun o=>(K o)) (Ao .i64 (List.drop 14 u.av) fun p=>(K p))))))) (K 0))) (K 0))) (L:=Gv u s) (t:=t) (by omega) (Gv u s).length 0 N (by omega) (by omega) F
 refine Eq.trans e ?_
 simp only[d8,KN,Bni,Bnj,Bmo]
 unfold Rz
 by_cases C:s.k=0
 ·rw[show(s.k != 0)=false by simp[C],show(s.k==0)=true by simpa using C]
  cases (t.k==0)<;>cases decide (s.h≤u.hotHours)<;>rfl
 ·rw[show(s.k != 0)=true by simp[C],show(s.k==0)=false by simpa using C];rfl
end
end Gx

namespace Gx
open Go Go.Proofs
section
variable {R:Type}
structure PD where
 lo:Int
 hi:Int
def PD.av (p:PD):LA:=[.int .i64 p.lo,.int .i64 p.hi]
def tb (n:Nat) (g:Nat→PD):LA:=((List.range n).map g).flatMap PD.av
def A7y (g:Nat→PD) (i:Nat) (v:PD):Nat→PD:=fun j=>if j=i then v else g j
theorem BU {n:Nat} {g g':Nat→PD} (h:∀ i,i<n→g i=g' i):tb n g=tb n g':=by
 unfold tb;rw[List.map_congr_left (fun i hi=>h i (by simpa using hi))]
theorem Bl7 (n:Nat) (g:Nat→PD):(tb n g).length=n*2:=by
 unfold tb
 induction n with
 | zero=>rfl
 | succ n k=>rw[List.range_succ,List.map_append,List.flatMap_append,List.length_append,k];simp[PD.av];omega
theorem Bk7 {n j:Nat} {g:Nat→PD} (h:j<n):List.drop (j*2) (tb n g)=(g j).av++(((List.range n).map g).drop (j+1)).flatMap PD.av:=by
 unfold tb
 rw[Bo (e:=PD.av) (sz:=2) (fun _=>rfl) _ j (by simpa using h)];simp
theorem vz {n j:Nat} {g:Nat→PD} (h:j<n) {f:Int→O R}:Ao .i64 (List.drop (0+(Int.toNat (j:Int))*2) (tb n g)) f=f (g j).lo:=by
 rw[Int.toNat_natCast,Nat.zero_add,Bk7 h];exact A1
theorem wB {n j:Nat} {g:Nat→PD} (h:j<n) {f:Int→O R}:Ao .i64 (List.drop ((0+(Int.toNat (j:Int))*2)+1) (tb n g)) f=f (g j).hi:=by
 rw[Int.toNat_natCast,Nat.zero_add,←List.drop_drop,Bk7 h];exact A1
theorem Bih {n j:Nat} {g:Nat→PD} (h:j<n):((Nat.beq 2 2)&&((Nat.ble ((0+(Int.toNat (j:Int))*2)+2) (List.length (tb n g)))&&(!false)))=true:=by
 rw[Int.toNat_natCast,Bl7];simp;omega
theorem Bl8 {n j:Nat} {g:Nat→PD} {p:PD} (h:j<n):((Nat.beq (List.length p.av) 2)&&((Nat.ble ((0+(Int.toNat (j:Int))*2)+2) (List.length (tb n g)))&&(!false)))=true:=Bih h
theorem jg {α:Type} {e:α→LA} {sz:Nat} (k:∀ a,(e a).length=sz):∀ (l:List α) (j:Nat) (v:α),j<l.length→C3 (l.flatMap e) (j*sz) (e v)=(l.set j v).flatMap e
 | a::r,0,v,_=>by
  unfold C3
  rw[Nat.zero_mul,List.take_zero,List.nil_append,Nat.zero_add,k,List.flatMap_cons,List.drop_append,k,Nat.sub_self,List.drop_eq_nil_of_le (by rw[k];exact Nat.le_refl _)];simp
 | a::r,j+1,v,h=>by
  have C:=jg k r j v (by simpa using h)
  unfold C3 at C ⊢
  rw[List.flatMap_cons,List.take_append,List.drop_append,k,k,List.take_of_length_le (by rw[k,Nat.add_mul];omega),List.drop_eq_nil_of_le (by rw[k,Nat.add_mul];omega),show(j+1)*sz - sz=j*sz by rw[Nat.add_mul];omega,show(j+1)*sz+sz - sz=j*sz+sz by rw[Nat.add_mul];omega]
  rw[k] at C
  rw[List.set_cons_succ,List.flatMap_cons,←C];simp
theorem Ba8 {n j:Nat} {g:Nat→PD} {v:PD} (h:j<n):C3 (tb n g) (0+(Int.toNat (j:Int))*2) v.av=tb n (A7y g j v):=by
 rw[Int.toNat_natCast,Nat.zero_add]
 unfold tb
 rw[jg (e:=PD.av) (sz:=2) (fun _=>rfl) _ j v (by simpa using h)]
 congr 1
 refine List.ext_getElem (by simp) fun i k C=>?_
 rw[List.getElem_set]
 simp only[List.getElem_map,List.getElem_range,A7y]
 by_cases e:j=i
 ·subst e;simp
 ·rw[if_neg e,if_neg (fun h=>e h.symm)]
theorem Bj4 (n:Nat):List.flatten (List.replicate n ([(.int .i64 0),(.int .i64 0)]:LA))=tb n fun _=>⟨0,0⟩:=by
 unfold tb
 induction n with
 | zero=>rfl
 | succ n k =>
  rw[List.replicate_succ',List.flatten_append,k,List.range_succ,List.map_append,List.flatMap_append];rfl
theorem Bj5 {n j:Nat} {g:Nat→PD} {v:PD} (h:j<n):setCells (tb n g) (0+(Int.toNat (j:Int))*2) v.av=tb n (A7y g j v):=Ba8 h
def Ei (ks:List Int) (h:Nat):Bool:=ks.getD h 0==2
theorem Ro {ks:List Int} {h:Nat} (k:h<ks.length):Ei ks h=(ks[h]==2):=by unfold Ei;rw[List.getD_eq_getElem?_getD,List.getElem?_eq_getElem k];rfl
section
variable (u:UnitD) (ks:List Int)
def Tc:Nat→Bool
 | 0=>u.state==2
 | h+1=>Ei ks h
def ei:Nat→PD
 | 0=>cond (Ei ks 0) (cond (u.state==2) ⟨Ix u.min (u.output - u.rampDown),By u.max (u.output+u.rampUp)⟩ ⟨u.min,u.startRamp⟩) ⟨0,0⟩
 | h+1=>cond (Ei ks (h+1)) (cond (Ei ks h) ⟨Ix u.min ((ei h).lo - u.rampDown),By u.max ((ei h).hi+u.rampUp)⟩ ⟨u.min,u.startRamp⟩) ⟨0,0⟩
def KW (n h:Nat):PD:=cond (Ei ks h&&(decide (h+1<n)&&!Ei ks (h+1))) ⟨(ei u ks h).lo,By (ei u ks h).hi u.stopRamp⟩ (ei u ks h)
def Bnp (n:Nat):Nat→PD
 | 0=>KW u ks n (n - 1)
 | i+1=>cond (Ei ks (n - 2 - i)&&Ei ks (n - 1 - i)) ⟨Ix (KW u ks n (n - 2 - i)).lo ((Bnp n i).lo - u.rampUp),By (KW u ks n (n - 2 - i)).hi ((Bnp n i).hi+u.rampDown)⟩ (KW u ks n (n - 2 - i))
def Q' (n h:Nat):PD:=Bnp u ks n (n - 1 - h)
theorem wC {n:Nat} (hn:0<n):Q' u ks n (n - 1)=KW u ks n (n - 1):=by unfold Q';rw[Nat.sub_self];rfl
theorem jh {n h:Nat} (k:h+1<n):Q' u ks n h=cond (Ei ks h&&Ei ks (h+1)) ⟨Ix (KW u ks n h).lo ((Q' u ks n (h+1)).lo - u.rampUp),By (KW u ks n h).hi ((Q' u ks n (h+1)).hi+u.rampDown)⟩ (KW u ks n h):=by
 unfold Q'
 rw[show n - 1 - h=(n - 1 - (h+1))+1 by omega,Bnp,show n - 2 - (n - 1 - (h+1))=h by omega,show n - 1 - (n - 1 - (h+1))=h+1 by omega]
end
section
variable {u:UnitD} {ks:List Int} {n:Nat}
structure UOk (u:UnitD):Prop where
 a:0≤u.min∧u.min≤u.max∧u.max≤1048576
 b:0≤u.rampUp∧u.rampUp≤1048576∧0≤u.rampDown∧u.rampDown≤1048576
 c:u.min≤u.startRamp∧u.startRamp≤u.max∧u.min≤u.stopRamp∧u.stopRamp≤u.max
 d:u.state=2→u.min≤u.output∧u.output≤u.max
theorem A2e (g:UOk u):∀ h,0≤(ei u ks h).lo∧(ei u ks h).lo≤1048576∧0≤(ei u ks h).hi∧(ei u ks h).hi≤1048576∧(Ei ks h=true→u.min≤(ei u ks h).lo∧(ei u ks h).lo≤u.max∧u.min≤(ei u ks h).hi∧(ei u ks h).hi≤u.max)
 | 0=>by
  obtain⟨a,b,c,d⟩:=g
  unfold ei
  cases Ei ks 0 with
  | false=>simp
  | true =>
   by_cases hs:u.state=2
   ·have:=d hs;rw[show(u.state==2)=true by simpa using hs];simp only[cond_true,Jx,Tu];omega
   ·rw[show(u.state==2)=false by simpa using hs];simp only[cond_true,cond_false];omega
 | h+1=>by
  have k:=A2e g h
  obtain⟨a,b,c,d⟩:=g
  rw[ei]
  cases Ei ks (h+1) with
  | false=>simp
  | true =>
   cases C:Ei ks h with
   | true=>have:=k.2.2.2.2 C;simp only[cond_true,Jx,Tu];omega
   | false=>simp only[cond_true,cond_false];omega
theorem A6s (g:UOk u) (h:Nat):(KW u ks n h).lo=(ei u ks h).lo∧(KW u ks n h).hi≤(ei u ks h).hi∧0≤(KW u ks n h).hi∧(Ei ks h=true→u.min≤(KW u ks n h).hi):=by
 have k:=A2e (ks:=ks) g h
 obtain⟨a,b,c,d⟩:=g
 unfold KW
 cases C:Ei ks h<;>cases decide (h+1<n)<;>cases Ei ks (h+1)<;>simp only[Bool.and_true,Bool.true_and,Bool.not_true,Bool.not_false,Bool.and_false,Bool.false_and,cond_true,cond_false,Jx]<;>(have:=k.2.2.2.2;simp[C] at this ⊢;try omega)
theorem Bk8 {h:Nat} (k:Ei ks (h+1)=true):KW u ks n h=ei u ks h:=by unfold KW;rw[k];simp
theorem A2f (g:UOk u):∀ (i h:Nat),h+i+1=n→(KW u ks n h).lo≤(Q' u ks n h).lo∧(Q' u ks n h).hi≤(KW u ks n h).hi∧(Q' u ks n h).lo≤1048576∧0≤(Q' u ks n h).hi
 | 0,h,hi=>by
  rw[show h=n - 1 by omega,wC _ _ (by omega)]
  have:=A6s (ks:=ks) (n:=n) g (n - 1);have:=A2e (ks:=ks) g (n - 1);omega
 | i+1,h,hi=>by
  have k:=A2f g i (h+1) (by omega)
  have:=A6s (ks:=ks) (n:=n) g h;have:=A2e (ks:=ks) g h
  have C:=g.b
  rw[jh u ks (by omega)]
  cases (Ei ks h&&Ei ks (h+1)) with
  | true=>simp only[cond_true,Jx,Tu];omega
  | false=>simp only[cond_false];omega
theorem Bcw (g:UOk u) (C:∀ h,h<n→Ei ks h=true→(KW u ks n h).lo≤(KW u ks n h).hi):∀ (i h:Nat),h+i+1=n→Ei ks h=true→(Q' u ks n h).lo≤(Q' u ks n h).hi
 | 0,h,hi,k=>by
  rw[show h=n - 1 by omega,wC _ _ (by omega)]
  exact C _ (by omega) (by rw[show n - 1=h by omega];exact k)
 | i+1,h,hi,k=>by
  rw[jh u ks (n:=n) (h:=h) (by omega),k,Bool.true_and]
  have F:=C h (by omega) k
  cases D:Ei ks (h+1) with
  | false=>exact F
  | true =>
   have G:=Bcw g C i (h+1) (by omega) D
   have r:=A2f (ks:=ks) (n:=n) g i (h+1) (by omega)
   have e:=A6s (ks:=ks) (n:=n) g (h+1)
   have I:=g.b
   rw[Bk8 D] at F ⊢
   have f:ei u ks (h+1)=⟨Ix u.min ((ei u ks h).lo - u.rampDown),By u.max ((ei u ks h).hi+u.rampUp)⟩:=by rw[ei,D,k];rfl
   rw[f] at e
   simp only[Jx,Tu] at e
   simp only[cond_true,Jx,Tu];omega
def Oo (u:UnitD) (ks:List Int) (n:Nat):Bool:=(List.range n).any fun h=>Ei ks h&&decide ((KW u ks n h).lo>(KW u ks n h).hi)
theorem Bii (g:UOk u):Oo u ks n=(List.range n).any fun h=>decide ((Q' u ks n h).lo>(Q' u ks n h).hi):=by
 cases k:Oo u ks n with
 | true =>
  symm
  unfold Oo at k
  rw[List.any_eq_true] at k ⊢
  obtain⟨h,C,I⟩:=k
  refine⟨h,C,?_⟩
  simp at I C ⊢
  have:=A2f (ks:=ks) (n:=n) g (n - 1 - h) h (by omega)
  omega
 | false =>
  symm
  rw[List.any_eq_false]
  intro h C
  simp at C
  cases D:Ei ks h with
  | true =>
   have:=Bcw g (ks:=ks) (n:=n) (fun h' F G=>by
    unfold Oo at k
    rw[List.any_eq_false] at k
    have:=k h' (by simpa using F)
    simp[G] at this;omega) (n - 1 - h) h (by omega) D
   simp;omega
  | false =>
   have e:KW u ks n h=⟨0,0⟩:=by
    unfold KW;rw[D];simp only[Bool.false_and,cond_false]
    cases h<;>(rw[ei,D];rfl)
   have:Q' u ks n h=⟨0,0⟩:=by
    by_cases L:h+1<n
    ·rw[jh u ks L,D];exact e
    ·rw[show h=n - 1 by omega] at e ⊢
     rw[wC _ _ (by omega)];exact e
   rw[this];simp
end
end
end Gx

namespace Gx
open Go Go.Proofs
section
variable {R:Type}
structure PlanD where
 st:Sl Int
 en:Sl RatD
 re:Sl RatD
def PlanD.av (p:PlanD):LA:=[p.st.av 1 JM,p.en.av 3 RatD.av,p.re.av 3 RatD.av]
theorem p0 {p:PlanD} {f:LA→Nat→O R}:B9 1 p.av f=f (Av p.st.l) p.st.l.length:=by rw[←F2];exact Ii
theorem p1 {p:PlanD} {f:LA→Nat→O R}:B9 3 (List.drop 1 p.av) f=f (p.en.l.flatMap RatD.av) p.en.l.length:=Ii
theorem p2 {p:PlanD} {f:LA→Nat→O R}:B9 3 (List.drop 2 p.av) f=f (p.re.l.flatMap RatD.av) p.re.l.length:=Ii
theorem Bgn (p:PlanD):Nat.ble 3 (List.length p.av)=true:=rfl
theorem Bgo (p:PlanD):List.take 3 p.av=p.av:=rfl
theorem ji (x:RatD) (r:LA):Nat.ble 3 (List.length (x.av++r))=true:=rfl
theorem KX (x:RatD) (r:LA):List.take 3 (x.av++r)=x.av:=rfl
def okR (l:List RatD):Prop:=∀ x ∈ l,x.is x.q 4
theorem okR.at {l:List RatD} (h:okR l) {i:Nat} (hi:i<l.length):(l[i]).is (l[i]).q 4:=h _ (List.getElem_mem hi)
def uR (u:UnitD):Prop:=(0≤u.min∧u.min≤1048576)∧(0≤u.max∧u.max≤1048576)∧(0≤u.rampUp∧u.rampUp≤1048576)∧(0≤u.rampDown∧u.rampDown≤1048576)∧(0≤u.reserve∧u.reserve≤1048576)∧(0≤u.startRamp∧u.startRamp≤1048576)∧(0≤u.stopRamp∧u.stopRamp≤1048576)∧(0≤u.noLoad∧u.noLoad≤1048576)∧(0≤u.hotCost∧u.hotCost≤1048576)∧(0≤u.coldCost∧u.coldCost≤1048576)∧(0≤u.reservePrice∧u.reservePrice≤1048576)∧(0≤u.output∧u.output≤1048576)
theorem Ng {u:UnitD} {h:Int} (C:C7 u h=true):Cq u=true∧uR u∧(1≤h∧h≤24):=by
 simp only[C7,Bool.and_eq_true,Ft,decide_eq_true_eq] at C
 obtain⟨U,F,V,Y,h5,h6,h7,h8,h9,G,I,L,M,S,k,T⟩:=C
 refine⟨F,?_,by omega⟩
 have ho:0≤u.output∧u.output≤1048576:=by
  unfold A96 at k
  cases D:(u.state==2) with
  | true=>rw[D] at k;simp[Ft] at k;omega
  | false=>rw[D] at k;simp at k;omega
 unfold uR;omega
def CQ (u:UnitD) (on:Bool) (e r:Rat):Bool:=cond on (decide ((u.min:Rat)≤e)&&(Bcr r 0 u.reserve&&decide (e+r≤(u.max:Rat)))) (decide (e=0)&&decide (r=0))
def jj (u:UnitD) (was on:Bool) (v e r:Rat):Bool:=cond (on&&was) (decide (e+r - v≤(u.rampUp:Rat))&&decide (v - e≤(u.rampDown:Rat))) (cond on (decide (e+r≤(u.startRamp:Rat))) (cond was (decide (v≤(u.stopRamp:Rat))) true))
theorem lM {q:Rat}:(q.num.sign==0)=decide (q=0):=by
 rw[Bool.eq_iff_iff];simp[Int.sign_eq_zero_iff_zero,Rat.num_eq_zero]
section
variable {N:Nat} {K:Bool→O R} {x y z:RatD} {e r v:Rat} {m:Nat} {o o' o'':Bool} {u:UnitD} {c:Int}
theorem Bm7 (k:x.is e m) (C:fit m N) {K:Int→O R}:Ti N x.av o K=K e.num.sign:=by
 rw[Mm k.1 (C.le k.2.2),k.2.1]
theorem Bm8 (k:x.is e m) (C:fit (8*m+10) N) {K:Int→O R}:AR N x.av o K=K e.num.sign:=by
 rw[Acw k.1 (C.le (by have:=k.2.2;omega)),k.2.1]
theorem BV (D:x.is e m) (k:-9223372036854775808≤c∧c≤9223372036854775807) (C:fit (4*(m+2)+10) N):Rh N x.av o c K=K (decide (e≤(c:Rat))):=by
 rw[pF];unfold rP
 rw[b3,ct,LO]
 refine It k (by have:=C.1;omega) fun a F=>?_
 rw[Bfx D (F.is (qi k)) C,iY]
theorem Ahw {X:O R} {K:LA→O R} {n:Nat} (k:x.is e m) (C:y.is r n) (F:fit (8*(m+n)+40) N) (h:∀ d:RatD,d.can (e+r)→K d.av=X):Ok N x.av o y.av o' K=X:=by
 obtain⟨d,D,e'⟩:=yX (R:=R) (N:=N) (o:=o) (o':=o') k.1 C.1 (F.le (by have:=k.2.2;have:=C.2.2;omega))
 rw[e'];exact h d (by rw[k.2.1,C.2.1] at D;exact D)
theorem A2g {X:O R} {K:LA→O R} {n:Nat} (k:x.is e m) (C:y.is r n) (F:fit (8*(m+n)+40) N) (h:∀ d:RatD,d.can (e*r)→K d.av=X):QK N x.av o y.av o' K=X:=by
 obtain⟨d,D,e'⟩:=Axj (R:=R) (N:=N) (o:=o) (o':=o') k.1 C.1 (F.le (by have:=k.2.2;have:=C.2.2;omega))
 rw[e'];exact h d (by rw[k.2.1,C.2.1] at D;exact D)
theorem Agy {on:Bool} (C:x.is e 4) (D:y.is r 4) (F:uR u) (k:fit 2000 N):Ta N u.av o'' on x.av o y.av o' K=K (CQ u on e r):=by
 unfold uR at F
 have G:=G4 e r
 have:=C.qm;have:=D.qm
 rw[PA];unfold KE CQ
 simp only[b3,LO,ct,u2,u3,Bmx]
 cases on with
 | false =>
  rw[show(!false)=true from rfl,ct,Bm7 C (k.le (by omega)),Bm7 D (k.le (by omega)),lM,lM]
  cases decide (e=0)<;>rfl
 | true =>
  rw[show(!true)=false from rfl,cf]
  refine It (by omega) (by have:=k.1;omega) fun a I=>?_
  rw[Bfx C (I.is (qi (by omega))) (k.le (by omega)),A0t,iZ D (by omega) (by omega) (k.le (by omega)) (by have:=k.1;omega)]
  rw[Ahw (X:=K (decide (e+r≤(u.max:Rat)))) C D (k.le (by omega)) fun d L=>by rw[BV (L.is (m:=12) (by omega)) (by omega) (k.le (by omega))];rfl]
  cases decide ((u.min:Rat)≤e)<;>cases Bcr r 0 u.reserve<;>rfl
theorem Aqo {was on:Bool} (D:z.is v 4) (F:x.is e 4) (G:y.is r 4) (I:uR u) (k:fit 2000 N) {f1 f2 f3:Bool}:Ri N u.av o'' was on z.av f1 x.av f2 y.av f3 K=K (jj u was on v e r):=by
 unfold uR at I
 have L:=G4 e r;have M:=Yl (e+r) v;have S:=Yl v e
 have:=F.qm;have:=G.qm;have:=D.qm
 rw[UZ];unfold Z1
 rw[b3,ct,b3,ct,LO,LO]
 refine Ahw F G (k.le (by omega)) fun d T=>?_
 have C:d.is (e+r) 12:=T.is (by omega)
 rw[c3,ct]
 unfold Ts jj
 simp only[b3,LO,ct,u6,u7,u8,u9]
 rw[BV C (by omega) (k.le (by omega)),BV D (by omega) (k.le (by omega))]
 rw[Ahu (X:=cond (decide (e+r - v≤(u.rampUp:Rat))) (K (decide (v - e≤(u.rampDown:Rat)))) (K false)) C D (k.le (by omega)) fun a U=>by
  rw[BV (U.is (m:=20) (by omega)) (by omega) (k.le (by omega))]
  rw[Ahu (X:=K (decide (v - e≤(u.rampDown:Rat)))) D F (k.le (by omega)) fun b V=>by rw[BV (V.is (m:=20) (by omega)) (by omega) (k.le (by omega))];rfl]
  cases decide (e+r - v≤(u.rampUp:Rat))<;>rfl]
 cases on<;>cases was<;>(try rfl)
 cases decide (e+r - v≤(u.rampUp:Rat))<;>rfl
end
end
end Gx

namespace Gx
open Go Go.Proofs
section
variable {R:Type}
def Ax2 (u:UnitD):Int→StD→Bool→Rat→List Int→List RatD→List RatD→Int×Int
 | h,s,was,v,k::ks,e::es,r::rs=>match Wy u h s k with
  | none=>(h,16)
  | some t=>cond (CQ u (k==2) e.q r.q) (cond (jj u was (k==2) v e.q r.q) (Ax2 u (h+1) t (k==2) e.q ks es rs) (h,64)) (h,3)
 | h,_,_,_,_,_,_=>(h,0)
section
variable {N n:Nat} {K:Int→Int→O R} {u:UnitD} {p:PlanD} {f e:Bool}
theorem Aug {j lf:Int} (hN:1100≤N) (hf:fit 2000 N) (hs:Cq u=true) (hu:uR u) (hk:p.st.l.length=n) (he:p.en.l.length=n) (hr:p.re.l.length=n) (hn:n≤1000) (oe:okR p.en.l) (or:okR p.re.l):∀ (m h fuel:Nat) (s:StD) (was:Bool) (v:Rat) (x:RatD) (g:Bool),h+m=n→m<fuel→Sa u s→x.is v 4 →
  lf=cond (Cz u h s (p.st.l.drop h)).2 0 16→((Cz u h s (p.st.l.drop h)).2=false→j=h+(Cz u h s (p.st.l.drop h)).1.length) →
  L0 N K (n:Int) j lf f u.av e p.av fuel was (h:Int) g x.av=K (Ax2 u h s was v (p.st.l.drop h) (p.en.l.drop h) (p.re.l.drop h)).1 (Ax2 u h s was v (p.st.l.drop h) (p.en.l.drop h) (p.re.l.drop h)).2:=by
 intro m
 induction m with
 | zero =>
  intro h fuel s was v x g hh U _ _ _ _
  obtain⟨fuel,rfl⟩:∃ k,fuel=k+1:=⟨fuel - 1,by omega⟩
  rw[L0];unfold FT
  rw[Kn (by omega),cf,Dz (l:=p.st.l) (by omega),Ax2,show n=h by omega]
  ·intro k ks e es r rs L;cases L
 | succ m ih =>
  intro h fuel s was v x g hh U V hx C F
  obtain⟨fuel,rfl⟩:∃ k,fuel=k+1:=⟨fuel - 1,by omega⟩
  rw[L0];unfold FT
  have L:h<p.st.l.length:=by omega
  have S:h<p.en.l.length:=by omega
  have T:h<p.re.l.length:=by omega
  have e1:=oe.at S
  have r1:=or.at T
  rw[Bs L,Bs S,Bs T,Ax2]
  rw[Bs L,Cz] at C F
  rw[Iz (by omega),ct]
  cases D:Wy u h s p.st.l[h] with
  | none =>
   rw[D] at C F
   have G:=F rfl
   simp only[cond_false] at C
   subst C
   rw[show(((16:Int) != 0)==true)=true from rfl,ct,show(cond true (decide ((h:Int)≥j)) false)=true by rw[A25];simp at G;simp;omega,ct]
  | some t =>
   rw[D] at C F
   dsimp only at C F ⊢
   have hok:=j_ hs V D
   have I:∀ Y:O R,(cond ((lf != (0:Int))==true) (cond (cond true (decide ((h:Int)≥j)) false) (K (h:Int) 16) Y) Y)=Y:=by
    intro Y
    cases M:(Cz u ((h:Int)+1) t (p.st.l.drop (h+1))).2 with
    | true=>rw[M] at C;subst C;rfl
    | false =>
     have G:=F M
     rw[M] at C;subst C
     rw[show(cond true (decide ((h:Int)≥j)) false)=false by rw[A25];simp at G;simp;omega];rfl
   rw[I]
   unfold PC
   simp only[p0,p1,p2,Aa L,Aa S,Aa T,Ct L,Ne S,Ne T,ji,KX,Cl,Bg,b3,LO,ct]
   rw[Agy e1 r1 hu hf,Aqo hx e1 r1 hu hf]
   cases CQ u (p.st.l[h]==2) p.en.l[h].q p.re.l[h].q with
   | false=>rfl
   | true =>
    rw[show(!true)=false from rfl,cf]
    cases jj u was (p.st.l[h]==2) v p.en.l[h].q p.re.l[h].q with
    | false=>rfl
    | true =>
     rw[show(!true)=false from rfl,cf,show ∀ y:RatD,((Nat.beq (List.length y.av) 3)&&(true&&(!false)))=true from fun _=>rfl,ct,rI,wS (by omega)]
     rw[ih (h+1) fuel t (p.st.l[h]==2) p.en.l[h].q p.en.l[h] (g||e) (by omega) (by omega) hok.1 e1 (by simpa using C) (by intro M;have:=F (by simpa using M);simp at this ⊢;omega)]
     rfl
theorem A6t {K:Bool→O R} {h:Nat} (k:fit 2000 N) (hN:4000≤N) (I:uR u) (G:h<p.st.l.length) (D:h<p.en.l.length) (F:h<p.re.l.length) (oe:okR p.en.l) (or:okR p.re.l):KK N u.av f p.av e (h:Int) K=K (CQ u (p.st.l[h]==2) p.en.l[h].q p.re.l[h].q):=by
 unfold uR at I
 have e1:=oe.at D
 have r1:=or.at F
 have L:=G4 p.en.l[h].q p.re.l[h].q
 have:=e1.qm;have:=r1.qm
 rw[j3];unfold j2
 simp only[p0,p1,p2,Aa G,Aa D,Aa F,Ct G,Ne D,Ne F,ji,KX,b3,LO,c3,ct,u2,u3,Bmx]
 unfold CQ
 by_cases C:p.st.l[h]=2
 ·rw[show(p.st.l[h] != 2)=false by simp[C],cf,show(p.st.l[h]==2)=true by simpa using C]
  rw[Ry (by omega) hN,yZ e1 (Bcq (by omega)) (k.le (by omega)),A0t,A5y r1 (by omega) (by omega) (k.le (by omega)) hN,Atk e1 r1 (k.le (by omega)),Ry (by omega) hN,yZ (Km (m:=12) (by omega)) (Bcq (by omega)) (k.le (by omega)),iY]
  cases decide ((u.min:Rat)≤p.en.l[h].q)<;>cases Bcr p.re.l[h].q 0 u.reserve<;>rfl
 ·rw[show(p.st.l[h] != 2)=true by simp[C],ct,show(p.st.l[h]==2)=false by simpa using C]
  rw[Bm8 e1 (k.le (by omega)),Bm8 r1 (k.le (by omega)),lM,lM]
  cases decide (p.en.l[h].q=0)<;>rfl
def wD (u:UnitD) (ks:List Int):Nat→Bool
 | 0=>u.state==2
 | h+1=>(ks[h]?.getD 0)==2
def ZV (u:UnitD) (es:List RatD):Nat→Rat
 | 0=>(u.output:Rat)
 | h+1=>((es[h]?).map RatD.q).getD 0
theorem Bf6 {X:O R} {K:Bool→LA→Bool→O R} {h:Nat} (hN:4000≤N) (D:uR u) (F:h<p.st.l.length) (G:h<p.en.l.length) (hn:h≤1000) (oe:okR p.en.l)
  (hX:∀ (x:RatD) (g:Bool),x.is (ZV u p.en.l h) 4→K (wD u p.st.l h) x.av g=X):KL N u.av f p.av e (h:Int) K=X:=by
 unfold uR at D
 rw[j6];unfold j5
 rcases h with _ | h
 ·rw[show(((0:Nat):Int)==0)=true from rfl,ct,Bff,Bln,Ry (by omega) hN,c3,ct,b3,ct,LO]
  exact hX _ _ (Km (by have:=qi (v:=u.output) (by omega);show qm (u.output:Rat)≤4;omega))
 ·have C:h<p.st.l.length:=by omega
  have k:h<p.en.l.length:=by omega
  rw[show(((h+1:Nat):Int)==0)=false by simp;omega,cf,p0,wP (by omega),Aa C,ct,Ct C,p1,Aa k,ct,Ne k,ji,ct,KX,c3,ct,b3,ct,LO]
  have:=hX p.en.l[h] e (by simp only[ZV,List.getElem?_eq_getElem k,Option.map_some,Option.getD_some];exact oe.at k)
  simpa[wD,C] using this
theorem A6u {K:Bool→O R} {h:Nat} (k:fit 2000 N) (hN:4000≤N) (L:uR u) (F:h<p.st.l.length) (D:h<p.en.l.length) (G:h<p.re.l.length) (hn:h≤1000) (oe:okR p.en.l) (or:okR p.re.l):Yu N u.av f p.av e (h:Int) K=K (jj u (wD u p.st.l h) (p.st.l[h]==2) (ZV u p.en.l h) p.en.l[h].q p.re.l[h].q):=by
 have I:=L
 unfold uR at L
 have e1:=oe.at D
 have r1:=or.at G
 rw[ja];unfold PG
 rw[Cl,ct,Bgn,ct,Bg,Bgo]
 refine Bf6 hN I F D hn oe fun x g C=>?_
 generalize wD u p.st.l h=was
 generalize ZV u p.en.l h=v at C
 have S:=G4 p.en.l[h].q p.re.l[h].q
 have T:=Yl (p.en.l[h].q+p.re.l[h].q) v
 have U:=Yl v p.en.l[h].q
 have:=e1.qm;have:=r1.qm;have:=C.qm
 have M:(TU (p.en.l[h].q+p.re.l[h].q)).is (p.en.l[h].q+p.re.l[h].q) 12:=Km (by omega)
 simp only[p0,p1,p2,Aa F,Aa D,Aa G,Ct F,Ne D,Ne G,ji,KX,b3,LO,c3,ct]
 rw[Atk e1 r1 (k.le (by omega)),c3,ct]
 unfold Z3 jj
 simp only[b3,LO,ct,u6,u7,u8,u9]
 rw[Bh8 M C (k.le (by omega)),Bh8 C e1 (k.le (by omega)),Ry (by omega) hN,Ry (by omega) hN,Ry (by omega) hN,Ry (by omega) hN]
 rw[yZ (Km (m:=20) (by omega)) (Bcq (by omega)) (k.le (by omega)),yZ (Km (m:=20) (by omega)) (Bcq (by omega)) (k.le (by omega)),yZ M (Bcq (by omega)) (k.le (by omega)),yZ C (Bcq (by omega)) (k.le (by omega)),iY,iY,iY,iY]
 cases (p.st.l[h]==2)<;>cases was<;>(try rfl)
 cases decide (p.en.l[h].q+p.re.l[h].q - v≤(u.rampUp:Rat))<;>rfl
theorem Aqp (hN:4000≤N) (M:fit 2000 N) (hs:Cq u=true) (S:uR u) (U:u.away.l.length≤1000) (hk:p.st.l.length=n) (he:p.en.l.length=n) (hr:p.re.l.length=n) (hn:n≤1000) (oe:okR p.en.l) (or:okR p.re.l):∀ (m h fuel:Nat) (s:StD),h+m=n→m<fuel→Sa u s →
  Rn N K (n:Int) f u.av e p.av fuel (h:Int) s.av=K (Ax2 u h s (wD u p.st.l h) (ZV u p.en.l h) (p.st.l.drop h) (p.en.l.drop h) (p.re.l.drop h)).1 (Ax2 u h s (wD u p.st.l h) (ZV u p.en.l h) (p.st.l.drop h) (p.en.l.drop h) (p.re.l.drop h)).2:=by
 intro m
 induction m with
 | zero =>
  intro h fuel s V I _
  obtain⟨fuel,rfl⟩:∃ k,fuel=k+1:=⟨fuel - 1,by omega⟩
  rw[Rn];unfold Z5
  rw[Kn (by omega),cf,Dz (l:=p.st.l) (by omega),Ax2,show n=h by omega]
  ·intro k ks e es r rs C;cases C
 | succ m Y =>
  intro h fuel s V I F
  obtain⟨fuel,rfl⟩:∃ k,fuel=k+1:=⟨fuel - 1,by omega⟩
  rw[Rn];unfold Z5
  have C:h<p.st.l.length:=by omega
  have G:h<p.en.l.length:=by omega
  have L:h<p.re.l.length:=by omega
  rw[Iz (by omega),ct,Cl,ct,eh,ct,p0,Aa C,ct,Ct C,Bg,Agr]
  rw[Bs C,Bs G,Bs L,Ax2]
  refine Bcv hs F U (by omega) (fun D=>?_) (fun t T=>?_)
  ·rw[D,Bk6,ct];rfl
  ·rw[T,Adv,ct,show(!true)=false from rfl,cf,ct,Bgn,ct,Bgo,A6t M hN S C G L oe or,A6u M hN S C G L (by omega) oe or]
   dsimp only
   cases CQ u (p.st.l[h]==2) p.en.l[h].q p.re.l[h].q with
   | false=>rfl
   | true =>
    rw[show(!true)=false from rfl,cf]
    cases jj u (wD u p.st.l h) (p.st.l[h]==2) (ZV u p.en.l h) p.en.l[h].q p.re.l[h].q with
    | false=>rfl
    | true =>
     rw[show(!true)=false from rfl,cf,Bgm,eh,Agr,show ∀ t:StD,((Nat.beq (List.length t.av) 2)&&(true&&(!false)))=true from fun _=>rfl,Axv,wS (by omega),ct,ct,ct,ct]
     rw[Y (h+1) fuel t (by omega) (by omega) (j_ hs F T).1]
     have w1:wD u p.st.l (h+1)=(p.st.l[h]==2):=by simp[wD,C]
     have w2:ZV u p.en.l (h+1)=p.en.l[h].q:=by simp[ZV,G]
     rw[w1,w2];rfl
end
end
end Gx

namespace Gx
open Go Go.Proofs
section
variable {R:Type}
section
variable {u:UnitD} {ks:List Int} {n:Nat}
def Bn7 (u:UnitD) (ks:List Int):Nat→PD
 | 0=>⟨u.output,u.output⟩
 | p+1=>ei u ks p
theorem Bm9 {p:Nat} (h:Ei ks p=true):ei u ks p=cond (Tc u ks p) ⟨Ix u.min ((Bn7 u ks p).lo - u.rampDown),By u.max ((Bn7 u ks p).hi+u.rampUp)⟩ ⟨u.min,u.startRamp⟩:=by
 cases p<;>(rw[ei,h];rfl)
theorem Bl9 {p:Nat} (h:Ei ks p=false):ei u ks p=⟨0,0⟩:=by cases p<;>(rw[ei,h];rfl)
def gB (u:UnitD) (ks:List Int) (n a:Nat):Nat→PD:=fun i=>if i<a then ei u ks i else Q' u ks n i
end
end
end Gx

namespace Gx
open Go Go.Proofs
open IntKind (wrap)
set_option maxRecDepth 100000
noncomputable section
variable {R:Type} (N:Nat)
def PL (r0:LA→Bool→O R) (c:LA) (b:Nat) (i f:Bool) (d:LA) (e:Nat) (l g:Bool) (k0:Int→LA→O R) (m:Int) (o:LA):O R :=
 (cond (decide (m<((b:Nat):Int))) (cond (Nat.ble 3 (o.length)) (cond (Ac m b) (cond (Nat.ble 3 ((c.drop ((m.toNat)*3)).length)) (cond (Ac m e) (cond (Nat.ble 3 ((d.drop ((m.toNat)*3)).length)) (NO N ((c.drop ((m.toNat)*3)).take 3) f ((d.drop ((m.toNat)*3)).take 3) g (fun r=>(Kq N (o.take 3) false r false (fun p=>(cond ((Nat.beq (p.length) 3)&&((Nat.ble 3 (o.length))&&(!false))) (k0 (wrap .i64 (m+1)) (setCells o 0 p)) none))))) none) none) none) none) none) (cond (Nat.ble 3 (o.length)) (cond ((Nat.beq 0 0)&&((Nat.beq ((o.take 3).length) 3)&&(Nat.beq 3 3))) (cond (Nat.ble 3 ((o.take 3).length)) (r0 ((o.take 3).take 3) true) none) none) none))
def Uf (r0:LA→Bool→O R) (c:LA) (b:Nat) (i f:Bool) (d:LA) (e:Nat) (l g:Bool):Nat→Int→LA→O R
 | 0,_,_=>none
 | n+1,m,o=>(PL N r0 c b i f d e l g (Uf r0 c b i f d e l g n) m o)
def wE (r0:LA→Bool→O R) (q0:Int→LA→O R) (c:LA) (b:Nat) (i f:Bool) (d:LA) (e:Nat) (l g:Bool):O R :=
 (cond (((b:Nat):Int) != ((e:Nat):Int)) (r0 [(.bool false),.nsl,.nsl] false) (HN N (fun q=>(cond ((Nat.beq 0 0)&&((Nat.beq (q.length) 3)&&(Nat.beq 3 3))) (q0 0 q) none))))
def ZW:=(Ae (fun (N:Nat) (c:LA) (b:Nat) (i f:Bool) (d:LA) (e:Nat) (l g:Bool) (r0:LA→Bool→O R)=>(wE N r0 (fun m o=>(Uf N r0 c b i f d e l g N m o)) c b i f d e l g))).1
theorem Ad5 (c b i f d e l g r0):(@ZW R N c b i f d e l g r0)=(wE N r0 (fun m o=>(Uf N r0 c b i f d e l g N m o)) c b i f d e l g):=by rw[ZW,(Ae _).2]
def Aqq:Hints:={ H:=(hS hL (hS hL (hS hL (hS (hS hL (hS (hP [0,1,4,6,7] hL) hL)) hL)))),modes:=[(3,0),(0,0)] }
def Ax3:Dg:=[(41,fV N),(35,qv N),(32,Pk N)]
def Ba9 (F:KF R):=Hp Tryz.f129 Aqq (Ax3 N) [] N F
def KY (F:KF R):LA→Bool→O R:=(fun s t=>F (.tup [(.pagg s false),(.bool t)]) [])
def Bba (c:LA) (b:Nat) (i f:Bool) (d:LA) (e:Nat) (l g:Bool) (m:Int) (o:LA):St:=⟨[(0,(.imm c b 3 i f)),(1,(.imm d e 3 l g)),(4,(op 0)),(6,(op 1)),(7,(iv m))],(hq [⟨false,false,false,false,0,[(.bool false),.nsl,.nsl],false⟩,(bQ 0 o)])⟩
def Bbb (F:KF R):=Ba9 N F [1,1,1,0,1,0] []
theorem pX (F:KF R) (c:LA) (b:Nat) (i f:Bool) (d:LA) (e:Nat) (l g:Bool):∀ (n:Nat) (m:Int) (o:LA),Ap (Bbb N F) n (Bba c b i f d e l g m o)=(Uf N (KY F) c b i f d e l g n m o)
 | 0,_,_=>by kernel_rfl
 | n+1,m,o=>Eq.trans (by kernel_rfl) (Bm (PL N (KY F) c b i f d e l g · m o) (funext fun m=>funext fun o=>(pX F c b i f d e l g n m o)):_)
theorem Aqr (c:LA) (b:Nat) (i f:Bool) (d:LA) (e:Nat) (l g:Bool) (F:KF R):Cd (Ax3 N) Aqq N 129 [(.imm c b 3 i f),(.imm d e 3 l g)] [] F=(ZW N c b i f d e l g (KY F)):=by
 rw[Ad5]
 exact Eq.trans (by kernel_rfl) (Bm (wE N (KY F) · c b i f d e l g) (funext fun m=>funext fun o=>(Ai ..).trans (pX N F c b i f d e l g N m o)):_)
def Ad6 (a:LA) (h:Ak) (k:KF R):O R :=
 match a,h with
 | [(.imm c b 3 i f),(.imm d e 3 l g)],[]=>(ZW N c b i f d e l g (KY k))
 | _,_=>none
theorem Aqs:An N 129 @Ad6:=by
 intro R Q a h k j;unfold Ad6;split;exact Ax (Aqr ..) (Aqr ..) ⟨fW N,qw N,Pl N,trivial⟩;exact Az
def Bbc:=Ay (Aqs N)
def Bbd:=Ca (Aqs N)
end
end Gx

namespace Gx
open Go Go.Proofs
open IntKind (wrap)
set_option maxRecDepth 100000
noncomputable section
variable {R:Type} (N:Nat)
def Nh (r0:Int→O R) (f:Nat) (c:Bool) (b e:LA) (k0:Int→Int→LA→O R) (i d:Int) (g:LA):O R :=
 (cond (decide (d<((f:Nat):Int))) (cond (Nat.ble 22 (b.length)) (cond (Nat.ble 2 (g.length)) (cond (Ac d f) (cond (Nat.ble 2 ((e.drop (0+((d.toNat)*2))).length)) (Tb N (b.take 22) c (g.take 2) false ((e.drop (0+((d.toNat)*2))).take 2) false (fun r=>(cond (Ac d f) (cond (Nat.ble 2 ((e.drop (0+((d.toNat)*2))).length)) (cond ((Nat.beq (((e.drop (0+((d.toNat)*2))).take 2).length) 2)&&((Nat.ble 2 (g.length))&&(!false))) (k0 (wrap .i64 (i+r)) (wrap .i64 (d+1)) (setCells g 0 ((e.drop (0+((d.toNat)*2))).take 2))) none) none) none))) none) none) none) none) (r0 i))
def Fg (r0:Int→O R) (f:Nat) (c:Bool) (b e:LA):Nat→Int→Int→LA→O R
 | 0,_,_,_=>none
 | n+1,i,d,g=>(Nh N r0 f c b e (Fg r0 f c b e n) i d g)
def Tv (r0:Int→O R) (q0:Nat→LA→Int→Int→LA→O R) (b:LA) (c:Bool) (l:LA) (m:Nat) (p o:Bool):O R :=
 (cond (Nat.ble 22 (b.length)) (KU N (b.take 22) c l m false o (fun f t u e=>(cond (Nat.ble 22 (b.length)) (L5 N (b.take 22) c (fun q=>(cond ((Nat.beq (q.length) 2)&&((Nat.ble 2 2)&&(!false))) (q0 f e 0 0 (setCells [(.int .i64 0),(.int .i64 0)] 0 q)) none))) none))) none)
def Lp:=(Ae (fun (N:Nat) (b:LA) (c:Bool) (l:LA) (m:Nat) (p o:Bool) (r0:Int→O R)=>(Tv N r0 (fun f e i d g=>(Fg N r0 f c b e N i d g)) b c l m p o))).1
theorem KZ (b c l m p o r0):(@Lp R N b c l m p o r0)=(Tv N r0 (fun f e i d g=>(Fg N r0 f c b e N i d g)) b c l m p o):=by rw[Lp,(Ae _).2]
def PM:Hints:={ H:=(hS hL (hS hL (hS hL (hS (hS hL (hS (hP [2,5,8,9,10] hL) hL)) hL)))) }
def VN:Dg:=[(67,Ad2 N),(113,Ws N),(170,yy N)]
def wF (F:KF R):=Hp Tryz.f128 PM (VN N) [] N F
def Jy (F:KF R):Int→O R:=(fun s=>F (iv s) [])
def wG (f:Nat) (c:Bool) (b e:LA) (i d:Int) (g:LA):St:=⟨[(2,(op 0)),(5,(.own 300001 0 f)),(8,(op 2)),(9,(iv i)),(10,(iv d))],(hq [(bP c 0 b),(bQ 2 e),(bQ 0 g)])⟩
def wH (F:KF R):=wF N F [1,1,1,0,1,0] []
theorem BW (F:KF R) (f:Nat) (c:Bool) (b e:LA):∀ (n:Nat) (i d:Int) (g:LA),Ap (wH N F) n (wG f c b e i d g)=(Fg N (Jy F) f c b e n i d g)
 | 0,_,_,_=>by kernel_rfl
 | n+1,i,d,g=>Eq.trans (by kernel_rfl) (Bm (Nh N (Jy F) f c b e · i d g) (funext fun i=>funext fun d=>funext fun g=>(BW F f c b e n i d g)):_)
theorem PN (b:LA) (c:Bool) (l:LA) (m:Nat) (p o:Bool) (F:KF R):Cd (VN N) PM N 128 [(.pagg b c),(.imm l m 1 p o)] [] F=(Lp N b c l m p o (Jy F)):=by
 rw[KZ]
 exact Eq.trans (by kernel_rfl) (Bm (Tv N (Jy F) · b c l m p o) (funext fun f=>funext fun e=>funext fun i=>funext fun d=>funext fun g=>(Ai ..).trans (BW N F f c b e N i d g)):_)
def K_ (a:LA) (h:Ak) (k:KF R):O R :=
 match a,h with
 | [(.pagg b c),(.imm l m 1 p o)],[]=>(Lp N b c l m p o (Jy k))
 | _,_=>none
theorem PO:An N 128 @K_:=by
 intro R Q a h k j;unfold K_;split;exact Ax (PN ..) (PN ..) ⟨Ad3 N,Wt N,yz N,trivial⟩;exact Az
def wI:=Ay (PO N)
def wJ:=Ca (PO N)
def FY (r0:LA→Int→O R) (g:Int) (e:Bool) (b:LA) (d:Bool) (c:LA) (k0:Int→LA→O R) (f:Int) (i:LA):O R :=
 (cond (decide (f<g)) (B9 1 c fun r s=>(cond (Ac f s) (Ao .i64 (r.drop ((f.toNat)*1)) fun t=>(cond (t==2) (cond (Nat.ble 3 (i.length)) (Ao .i64 (b.drop 5) fun u=>(Be N u (fun v=>(Kq N (i.take 3) false v false (fun w=>(cond (Nat.ble 22 (b.length)) (B9 3 (c.drop 1) fun l x=>(cond (Ac f x) (cond (Nat.ble 3 ((l.drop ((f.toNat)*3)).length)) (Vb N (b.take 22) e ((l.drop ((f.toNat)*3)).take 3) d (fun y=>(Ao .i64 (b.drop 17) fun z=>(Be N z (fun aa=>(B9 3 (c.drop 2) fun m ab=>(cond (Ac f ab) (cond (Nat.ble 3 ((m.drop ((f.toNat)*3)).length)) (NO N aa false ((m.drop ((f.toNat)*3)).take 3) d (fun ac=>(Kq N y false ac false (fun ad=>(Kq N w false ad false (fun o=>(cond ((Nat.beq (o.length) 3)&&((Nat.ble 3 (i.length))&&(!false))) (k0 (wrap .i64 (f+1)) (setCells i 0 o)) none))))))) none) none))))))) none) none)) none)))))) none) (k0 (wrap .i64 (f+1)) i))) none)) (cond (Nat.ble 3 (i.length)) (cond ((Nat.beq 0 0)&&((Nat.beq ((i.take 3).length) 3)&&(Nat.beq 3 3))) (cond (Nat.ble 3 ((i.take 3).length)) (r0 ((i.take 3).take 3) 0) none) none) none))
def Qf (r0:LA→Int→O R) (g:Int) (e:Bool) (b:LA) (d:Bool) (c:LA):Nat→Int→LA→O R
 | 0,_,_=>none
 | n+1,f,i=>(FY N r0 g e b d c (Qf r0 g e b d c n) f i)
def lN (r0:LA→Int→O R) (q0:Int→LA→O R) (b:LA) (e:Bool) (g:Int) (c:LA) (d:Bool):O R :=
 (cond (Nat.ble 22 (b.length)) (cond (Nat.ble 3 (c.length)) (Yv N (b.take 22) e g (c.take 3) d (fun aj p=>(cond (p != 0) (r0 [(.bool false),.nsl,.nsl] p) (cond (Nat.ble 22 (b.length)) (B9 1 c fun ae af=>(Lp N (b.take 22) e ae af false d (fun ag=>(Be N ag (fun q=>(cond ((Nat.beq 0 0)&&((Nat.beq (q.length) 3)&&(Nat.beq 3 3))) (q0 0 q) none)))))) none)))) none) none)
def LB:=(Ae (fun (N:Nat) (b:LA) (e:Bool) (g:Int) (c:LA) (d:Bool) (r0:LA→Int→O R)=>(lN N r0 (fun f i=>(Qf N r0 g e b d c N f i)) b e g c d))).1
theorem wK (b e g c d r0):(@LB R N b e g c d r0)=(lN N r0 (fun f i=>(Qf N r0 g e b d c N f i)) b e g c d):=by rw[LB,(Ae _).2]
def Ad7:Hints:={ H:=(hS hL (hS hL (hS hL (hS hL (hS (hS hL (hS (hP [1,3,5,6,10,11] hL) hL)) hL))))),modes:=[(3,0),(0,0)] }
def Aqt:Dg:=[(78,vn N),(128,wI N),(20,Gj N),(32,Pk N),(58,Aow N),(35,qv N)]
def A6v (F:KF R):=Hp Tryz.f79 Ad7 (Aqt N) [] N F
def BX (F:KF R):LA→Int→O R:=(fun ah ai=>F (.tup [(.pagg ah false),(iv ai)]) [])
def A6w (g:Int) (e:Bool) (b:LA) (d:Bool) (c:LA) (f:Int) (i:LA):St:=⟨[(1,(iv g)),(3,(op 0)),(5,(op 1)),(6,(op 2)),(10,(op 3)),(11,(iv f))],(hq [(bP e 0 b),(bP d 0 c),⟨false,false,false,false,0,[(.bool false),.nsl,.nsl],false⟩,(bQ 0 i)])⟩
def A6x (F:KF R):=A6v N F [1,1,1,1,0,1,0] []
theorem jk (F:KF R) (g:Int) (e:Bool) (b:LA) (d:Bool) (c:LA):∀ (n:Nat) (f:Int) (i:LA),Ap (A6x N F) n (A6w g e b d c f i)=(Qf N (BX F) g e b d c n f i)
 | 0,_,_=>by kernel_rfl
 | n+1,f,i=>Eq.trans (by kernel_rfl) (Bm (FY N (BX F) g e b d c · f i) (funext fun f=>funext fun i=>(jk F g e b d c n f i)):_)
theorem Ad8 (b:LA) (e:Bool) (g:Int) (c:LA) (d:Bool) (F:KF R):Cd (Aqt N) Ad7 N 79 [(.pagg b e),(iv g),(.pagg c d)] [] F=(LB N b e g c d (BX F)):=by
 rw[wK]
 exact Eq.trans (by kernel_rfl) (Bm (lN N (BX F) · b e g c d) (funext fun f=>funext fun i=>(Ai ..).trans (jk N F g e b d c N f i)):_)
def wL (a:LA) (h:Ak) (k:KF R):O R :=
 match a,h with
 | [(.pagg b e),(.int .i64 g),(.pagg c d)],[]=>(LB N b e g c d (BX k))
 | _,_=>none
theorem Ad9:An N 79 @wL:=by
 intro R Q a h k j;unfold wL;split;exact Ax (Ad8 ..) (Ad8 ..) ⟨vq N,wJ N,Gk N,Pl N,Aox N,qw N,trivial⟩;exact Az
def Aea:=Ay (Ad9 N)
def Aeb:=Ca (Ad9 N)
def Z6 (r0:LA→Int→O R) (e:LA) (f:Nat) (o l:Bool) (g:LA) (i:Nat) (p m:Bool) (b:Int) (d:Bool) (c q:LA) (k1:Int→LA→O R) (r:Int) (s:LA):O R :=
 (cond (decide (r<b)) (cond (Nat.ble 3 (s.length)) (cond (Ac r f) (cond (Nat.ble 3 ((e.drop ((r.toNat)*3)).length)) (B9 3 (c.drop 1) fun x ac=>(cond (Ac r ac) (cond (Nat.ble 3 ((x.drop ((r.toNat)*3)).length)) (QK N ((e.drop ((r.toNat)*3)).take 3) l ((x.drop ((r.toNat)*3)).take 3) d (fun ad=>(Ok N (s.take 3) false ad false (fun v=>(cond ((Nat.beq (v.length) 3)&&((Nat.ble 3 (s.length))&&(!false))) (cond (Nat.ble 3 ((setCells s 0 v).length)) (cond (Ac r i) (cond (Nat.ble 3 ((g.drop ((r.toNat)*3)).length)) (B9 3 (c.drop 2) fun y ae=>(cond (Ac r ae) (cond (Nat.ble 3 ((y.drop ((r.toNat)*3)).length)) (QK N ((g.drop ((r.toNat)*3)).take 3) m ((y.drop ((r.toNat)*3)).take 3) d (fun af=>(Ok N ((setCells s 0 v).take 3) false af false (fun z=>(cond ((Nat.beq (z.length) 3)&&((Nat.ble 3 ((setCells s 0 v).length))&&(!false))) (k1 (wrap .i64 (r+1)) (setCells (setCells s 0 v) 0 z)) none))))) none) none)) none) none) none) none))))) none) none)) none) none) none) (cond (Nat.ble 3 (s.length)) (cond (Nat.ble 3 (q.length)) (IY N (s.take 3) false (q.take 3) false (fun w=>(cond ((Nat.beq 0 0)&&((Nat.beq (w.length) 3)&&(Nat.beq 3 3))) (cond (Nat.ble 3 (w.length)) (r0 (w.take 3) 0) none) none))) none) none))
def Rp (r0:LA→Int→O R) (e:LA) (f:Nat) (o l:Bool) (g:LA) (i:Nat) (p m:Bool) (b:Int) (d:Bool) (c q:LA):Nat→Int→LA→O R
 | 0,_,_=>none
 | n+1,r,s=>(Z6 N r0 e f o l g i p m b d c q (Rp r0 e f o l g i p m b d c q n) r s)
def RA (r0:LA→Int→O R) (b:Int) (e:LA) (f:Nat) (o l:Bool) (g:LA) (i:Nat) (p m d:Bool) (c q:LA) (q1:Int→LA→O R):O R :=
 (Cb N 0 (fun aa=>(cond ((Nat.beq 0 0)&&((Nat.beq (aa.length) 3)&&(Nat.beq 3 3))) (q1 0 aa) none)))
def FZ (r0:LA→Int→O R) (b:Int) (e:LA) (f:Nat) (o l:Bool) (g:LA) (i:Nat) (p m d:Bool) (c q:LA):O R:=(RA N r0 b e f o l g i p m d c q (fun r s=>(Rp N r0 e f o l g i p m b d c q N r s)))
def ZX (r0:LA→Int→O R) (q0:LA→O R) (t:LA) (u:Bool) (b:Int) (c:LA) (d:Bool) (e:LA) (f:Nat) (o l:Bool) (g:LA) (i:Nat) (p m:Bool):O R :=
 (cond (Nat.ble 22 (t.length)) (cond (Nat.ble 3 (c.length)) (ZU N (t.take 22) u b (c.take 3) d (fun q ab=>(cond ((Nat.beq 0 0)&&((Nat.beq (q.length) 3)&&(Nat.beq 3 3))) (cond (ab != 0) (r0 [(.bool false),.nsl,.nsl] ab) (cond ((((f:Nat):Int) != b)==false) (cond (cond false true (((i:Nat):Int) != b)) (r0 [(.bool false),.nsl,.nsl] 4) (q0 q)) (r0 [(.bool false),.nsl,.nsl] 4))) none))) none) none)
def GU:=(Ae (fun (N:Nat) (t:LA) (u:Bool) (b:Int) (c:LA) (d:Bool) (e:LA) (f:Nat) (o l:Bool) (g:LA) (i:Nat) (p m:Bool) (r0:LA→Int→O R)=>(ZX N r0 (fun q=>(FZ N r0 b e f o l g i p m d c q)) t u b c d e f o l g i p m))).1
theorem pY (t u b c d e f o l g i p m r0):(@GU R N t u b c d e f o l g i p m r0)=(ZX N r0 (fun q=>(FZ N r0 b e f o l g i p m d c q)) t u b c d e f o l g i p m):=by rw[GU,(Ae _).2]
def wN:Hints:={ H:=(hS hL (hS hL (hS hL (hJ [1,3,4,7,10,12] hL (hS hL (hS (hS hL (hS (hP [3,4,7,10,12,14,39,40] hL) hL)) hL)))))),modes:=[(3,0),(0,0)] }
def Aec:Dg:=[(43,Aqf N),(60,Ga N),(82,Awt N),(81,GM N),(83,yJ N)]
def wO (F:KF R):=Hp Tryz.f42 wN (Aec N) [] N F
def Ni (F:KF R):LA→Int→O R:=(fun ag ah=>F (.tup [(.pagg ag false),(iv ah)]) [])
def A2h (e:LA) (f:Nat) (o l:Bool) (g:LA) (i:Nat) (p m:Bool) (b:Int) (d:Bool) (c q:LA) (r:Int) (s:LA):St:=⟨[(3,(.imm e f 3 o l)),(4,(.imm g i 3 p m)),(7,(op 0)),(10,(op 1)),(12,(op 2)),(14,(op 3)),(39,(iv b)),(40,(iv r))],(hq [(bP d 0 c),⟨false,false,false,false,0,[(.bool false),.nsl,.nsl],false⟩,(bQ 0 q),(bQ 0 s)])⟩
def A2i (F:KF R):=wO N F [1,1,1,1,1,0,1,0] []
def A2j (b:Int) (e:LA) (f:Nat) (o l:Bool) (g:LA) (i:Nat) (p m d:Bool) (c q:LA):St:=⟨[(1,(iv b)),(3,(.imm e f 3 o l)),(4,(.imm g i 3 p m)),(7,(op 0)),(10,(op 1)),(12,(op 2))],(hq [(bP d 0 c),⟨false,false,false,false,0,[(.bool false),.nsl,.nsl],false⟩,(bQ 0 q)])⟩
def A2k (F:KF R):=wO N F [1,1,1,1] []
theorem dy (F:KF R) (e:LA) (f:Nat) (o l:Bool) (g:LA) (i:Nat) (p m:Bool) (b:Int) (d:Bool) (c q:LA):∀ (n:Nat) (r:Int) (s:LA),Ap (A2i N F) n (A2h e f o l g i p m b d c q r s)=(Rp N (Ni F) e f o l g i p m b d c q n r s)
 | 0,_,_=>by kernel_rfl
 | n+1,r,s=>Eq.trans (by kernel_rfl) (Bm (Z6 N (Ni F) e f o l g i p m b d c q · r s) (funext fun r=>funext fun s=>(dy F e f o l g i p m b d c q n r s)):_)
theorem Agz (F:KF R) (b:Int) (e:LA) (f:Nat) (o l:Bool) (g:LA) (i:Nat) (p m d:Bool) (c q:LA):A9 (A2k N F) (A2j b e f o l g i p m d c q)=(FZ N (Ni F) b e f o l g i p m d c q):=by
 exact Eq.trans (by kernel_rfl) (Bm (RA N (Ni F) b e f o l g i p m d c q ·) (funext fun r=>funext fun s=>(Ai ..).trans (dy N F e f o l g i p m b d c q N r s)):_)
theorem wQ (t:LA) (u:Bool) (b:Int) (c:LA) (d:Bool) (e:LA) (f:Nat) (o l:Bool) (g:LA) (i:Nat) (p m:Bool) (F:KF R):Cd (Aec N) wN N 42 [(.pagg t u),(iv b),(.pagg c d),(.imm e f 3 o l),(.imm g i 3 p m)] [] F=(GU N t u b c d e f o l g i p m (Ni F)):=by
 rw[pY]
 exact Eq.trans (by kernel_rfl) (Bm (ZX N (Ni F) · t u b c d e f o l g i p m) (funext fun q=>(Aq ..).trans (Agz N F b e f o l g i p m d c q)):_)
def pZ (a:LA) (h:Ak) (k:KF R):O R :=
 match a,h with
 | [(.pagg t u),(.int .i64 b),(.pagg c d),(.imm e f 3 o l),(.imm g i 3 p m)],[]=>(GU N t u b c d e f o l g i p m (Ni k))
 | _,_=>none
theorem wR:An N 42 @pZ:=by
 intro R Q a h k j;unfold pZ;split;exact Ax (wQ ..) (wQ ..) ⟨Aqg N,Gb N,Awu N,GN N,yK N,trivial⟩;exact Az
def A2l:=Ay (wR N)
def A2m:=Ca (wR N)
def Z7 (r0:LA→Int→O R) (f:LA) (d:Nat) (m g:Bool) (i:LA) (e:Nat) (n l c:Bool) (b o:LA):O R :=
 (B9 3 (b.drop 1) fun w x=>(ZW N f d false g w x false c (fun s ad=>(cond ((Nat.beq 0 0)&&((Nat.beq (s.length) 3)&&(Nat.beq 3 3))) (B9 3 (b.drop 2) fun y z=>(ZW N i e false l y z false c (fun t ae=>(cond ((Nat.beq 0 0)&&((Nat.beq (t.length) 3)&&(Nat.beq 3 3))) (cond (Nat.ble 3 (s.length)) (cond (Nat.ble 3 (t.length)) (Kq N (s.take 3) false (t.take 3) false (fun aa=>(cond (Nat.ble 3 (o.length)) (V7 N aa false (o.take 3) false (fun u=>(cond ((Nat.beq 0 0)&&((Nat.beq (u.length) 3)&&(Nat.beq 3 3))) (cond (Nat.ble 3 (u.length)) (r0 (u.take 3) 0) none) none))) none))) none) none) none)))) none))))
def PP (r0:LA→Int→O R) (q0:LA→O R) (q:LA) (r:Bool) (p:Int) (b:LA) (c:Bool) (f:LA) (d:Nat) (m g:Bool) (i:LA) (e:Nat) (n l:Bool):O R :=
 (cond (Nat.ble 22 (q.length)) (cond (Nat.ble 3 (b.length)) (LB N (q.take 22) r p (b.take 3) c (fun o v=>(cond ((Nat.beq 0 0)&&((Nat.beq (o.length) 3)&&(Nat.beq 3 3))) (cond (v != 0) (r0 [(.bool false),.nsl,.nsl] v) (cond ((((d:Nat):Int) != p)==false) (cond (cond false true (((e:Nat):Int) != p)) (r0 [(.bool false),.nsl,.nsl] 4) (q0 o)) (r0 [(.bool false),.nsl,.nsl] 4))) none))) none) none)
def Yx:=(Ae (fun (N:Nat) (q:LA) (r:Bool) (p:Int) (b:LA) (c:Bool) (f:LA) (d:Nat) (m g:Bool) (i:LA) (e:Nat) (n l:Bool) (r0:LA→Int→O R)=>(PP N r0 (fun o=>(Z7 N r0 f d m g i e n l c b o)) q r p b c f d m g i e n l))).1
theorem jl (q r p b c f d m g i e n l r0):(@Yx R N q r p b c f d m g i e n l r0)=(PP N r0 (fun o=>(Z7 N r0 f d m g i e n l c b o)) q r p b c f d m g i e n l):=by rw[Yx,(Ae _).2]
def p8:Hints:={ H:=(hS hL (hS hL (hS hL (hJ [3,4,7,10,12] hL hL)))),modes:=[(3,0),(0,0)] }
def wT:Dg:=[(79,Aea N),(129,Bbc N),(32,Pk N),(33,YA N)]
def Auh (F:KF R):=Hp Tryz.f80 p8 (wT N) [] N F
def Z8 (F:KF R):LA→Int→O R:=(fun ab ac=>F (.tup [(.pagg ab false),(iv ac)]) [])
def Aui (f:LA) (d:Nat) (m g:Bool) (i:LA) (e:Nat) (n l c:Bool) (b o:LA):St:=⟨[(3,(.imm f d 3 m g)),(4,(.imm i e 3 n l)),(7,(op 0)),(10,(op 1)),(12,(op 2))],(hq [(bP c 0 b),⟨false,false,false,false,0,[(.bool false),.nsl,.nsl],false⟩,(bQ 0 o)])⟩
def Auj (F:KF R):=Auh N F [1,1,1,1] []
theorem zB (F:KF R) (f:LA) (d:Nat) (m g:Bool) (i:LA) (e:Nat) (n l c:Bool) (b o:LA):A9 (Auj N F) (Aui f d m g i e n l c b o)=(Z7 N (Z8 F) f d m g i e n l c b o):=by
 kernel_rfl
theorem p9 (q:LA) (r:Bool) (p:Int) (b:LA) (c:Bool) (f:LA) (d:Nat) (m g:Bool) (i:LA) (e:Nat) (n l:Bool) (F:KF R):Cd (wT N) p8 N 80 [(.pagg q r),(iv p),(.pagg b c),(.imm f d 3 m g),(.imm i e 3 n l)] [] F=(Yx N q r p b c f d m g i e n l (Z8 F)):=by
 rw[jl]
 exact Eq.trans (by kernel_rfl) (Bm (PP N (Z8 F) · q r p b c f d m g i e n l) (funext fun o=>(Aq ..).trans (zB N F f d m g i e n l c b o)):_)
def jm (a:LA) (h:Ak) (k:KF R):O R :=
 match a,h with
 | [(.pagg q r),(.int .i64 p),(.pagg b c),(.imm f d 3 m g),(.imm i e 3 n l)],[]=>(Yx N q r p b c f d m g i e n l (Z8 k))
 | _,_=>none
theorem p_:An N 80 @jm:=by
 intro R Q a h k j;unfold jm;split;exact Ax (p9 ..) (p9 ..) ⟨Aeb N,Bbd N,Pl N,YB N,trivial⟩;exact Az
def Auk:=Ay (p_ N)
def Aul:=Ca (p_ N)
def RB (b:LA) (d:Bool) (e:Int) (c:LA) (f:Bool) (g:LA) (i:Nat) (p l:Bool) (m:LA) (n:Nat) (q o:Bool) (r0:Bool→O R):O R :=
 (cond (Nat.ble 22 (b.length)) (cond (Nat.ble 3 (c.length)) (BP N (b.take 22) d e (c.take 3) f (fun v w=>(cond (Nat.ble 22 (b.length)) (cond (Nat.ble 3 (c.length)) (Yv N (b.take 22) d e (c.take 3) f (fun x y=>(cond (Nat.ble 22 (b.length)) (cond (Nat.ble 3 (c.length)) (ZU N (b.take 22) d e (c.take 3) f (fun r z=>(cond ((Nat.beq 0 0)&&((Nat.beq (r.length) 3)&&(Nat.beq 3 3))) (cond (Nat.ble 22 (b.length)) (cond (Nat.ble 3 (c.length)) (LB N (b.take 22) d e (c.take 3) f (fun s aa=>(cond ((Nat.beq 0 0)&&((Nat.beq (s.length) 3)&&(Nat.beq 3 3))) (cond (Nat.ble 22 (b.length)) (cond (Nat.ble 3 (c.length)) (GU N (b.take 22) d e (c.take 3) f g i false l m n false o (fun t ab=>(cond ((Nat.beq 0 0)&&((Nat.beq (t.length) 3)&&(Nat.beq 3 3))) (cond (Nat.ble 22 (b.length)) (cond (Nat.ble 3 (c.length)) (Yx N (b.take 22) d e (c.take 3) f g i false l m n false o (fun u ac=>(cond ((Nat.beq 0 0)&&((Nat.beq (u.length) 3)&&(Nat.beq 3 3))) (cond ((v==x)==true) (cond ((cond true (w==y) false)==true) (cond ((cond true (z==aa) false)==true) (cond ((cond true (ab==ac) false)==true) (cond (Nat.ble 3 (r.length)) (cond (Nat.ble 3 (s.length)) (Cn N (r.take 3) false (s.take 3) false (fun ad=>(cond ((cond true (ad==0) false)==true) (cond (Nat.ble 3 (t.length)) (cond (Nat.ble 3 (u.length)) (Cn N (t.take 3) false (u.take 3) false (fun ae=>(r0 (cond true (ae==0) false)))) none) none) (r0 false)))) none) none) (r0 false)) (r0 false)) (r0 false)) (r0 false)) none))) none) none) none))) none) none) none))) none) none) none))) none) none))) none) none))) none) none)
def Nj:=(Ae (@RB R)).1
theorem VO:@Nj R=@RB R:=(Ae _).2
def Aqu:Dg:=[(38,jK N),(78,vn N),(43,Aqf N),(79,Aea N),(42,A2l N),(80,Auk N),(25,Ld N)]
def dz (F:KF R):Bool→O R:=(fun af=>F (.bool af) [])
theorem eC (b:LA) (d:Bool) (e:Int) (c:LA) (f:Bool) (g:LA) (i:Nat) (p l:Bool) (m:LA) (n:Nat) (q o:Bool) (F:KF R):Cd (Aqu N) C6 N 39 [(.pagg b d),(iv e),(.pagg c f),(.imm g i 3 p l),(.imm m n 3 q o)] [] F=(Nj N b d e c f g i p l m n q o (dz F)):=by
 rw[VO]
 kernel_rfl
def VP (a:LA) (h:Ak) (k:KF R):O R :=
 match a,h with
 | [(.pagg b d),(.int .i64 e),(.pagg c f),(.imm g i 3 p l),(.imm m n 3 q o)],[]=>(Nj N b d e c f g i p l m n q o (dz k))
 | _,_=>none
theorem eD:An N 39 @VP:=by
 intro R Q a h k j;unfold VP;split;exact Ax (eC ..) (eC ..) ⟨jL N,vq N,Aqg N,Aeb N,A2m N,Aul N,Le N,trivial⟩;exact Az
def Ag0:=Ay (eD N)
def Ag1:=Ca (eD N)
def zC (N:Nat) (d:LA) (b:Nat) (e f:Bool) (g:LA) (c:Nat) (i l:Bool) (r0:Bool→O R):O R :=
 (cond ((decide (((b:Nat):Int)≤200))==true) (r0 (cond true (decide (((c:Nat):Int)≤200)) false)) (r0 false))
def jn:=(Ae (@zC R)).1
theorem wU:@jn R=@zC R:=(Ae _).2
def Aed (F:KF R):Bool→O R:=(fun m=>F (.bool m) [])
theorem Aee (d:LA) (b:Nat) (e f:Bool) (g:LA) (c:Nat) (i l:Bool) (F:KF R):Cd [] C6 N 26 [(.imm d b 1 e f),(.imm g c 1 i l)] [] F=(jn N d b e f g c i l (Aed F)):=by
 rw[wU]
 kernel_rfl
def wV (a:LA) (h:Ak) (k:KF R):O R :=
 match a,h with
 | [(.imm d b 1 e f),(.imm g c 1 i l)],[]=>(jn N d b e f g c i l (Aed k))
 | _,_=>none
theorem Aef:An N 26 @wV:=by
 intro R Q a h k j;unfold wV;split;exact Ax (Aee ..) (Aee ..) trivial;exact Az
def A6y:=Ay (Aef N)
def A6z:=Ca (Aef N)
def W0 (k0:Nat→Int→LA→LA→O R) (r0:Nat→LA→O R) (f:Int) (g:LA) (e:Nat) (i l:Bool) (x:Nat) (c:Bool) (b d v:LA) (k2:Nat→Int→Nat→Int→LA→LA→O R) (r:Nat) (u:Int) (m:Nat) (t:Int) (w s:LA):O R :=
 (cond (decide (t<((x:Nat):Int))) (cond (Nat.ble 22 (b.length)) (cond (Ac t x) (Ao .i64 (v.drop (0+((t.toNat)*2))) fun ad=>(Vg N (b.take 22) c u ad (fun ae=>(cond ae (cond (Ac t x) (cond (Nat.ble 2 ((v.drop (0+((t.toNat)*2))).length)) (cond ((Nat.beq (((v.drop (0+((t.toNat)*2))).take 2).length) 2)&&(Nat.ble 2 2)) (cond ((Nat.ble (m+1) 140737488355328)&&(Nat.ble ((m+1)*16) 140737488355328)) (k2 r u (m+1) (wrap .i64 (t+1)) w ((s.take (m*2))++((setCells [(.int .i64 0),(.int .i64 0)] 0 ((v.drop (0+((t.toNat)*2))).take 2)).take 2))) none) none) none) none) (k2 r u m (wrap .i64 (t+1)) w s))))) none) none) (cond (((m:Nat):Int)==0) (r0 r w) (cond (decide (u<((e:Nat):Int))) (cond (Ac u e) (Ao .i64 (g.drop ((u.toNat)*1)) fun ab=>(cond (((m:Nat):Int)==0) none (cond (((m:Nat):Int)==0) none (cond (Ac (Int.tmod (wrap .i64 ((Int.tmod ab ((m:Nat):Int))+((m:Nat):Int))) ((m:Nat):Int)) m) (cond (Nat.ble 2 ((s.drop (0+(((Int.tmod (wrap .i64 ((Int.tmod ab ((m:Nat):Int))+((m:Nat):Int))) ((m:Nat):Int)).toNat)*2))).length)) (cond ((Nat.beq (((s.drop (0+(((Int.tmod (wrap .i64 ((Int.tmod ab ((m:Nat):Int))+((m:Nat):Int))) ((m:Nat):Int)).toNat)*2))).take 2).length) 2)&&((Nat.ble 2 (d.length))&&(!false))) (Ao .i64 (setCells d 0 ((s.drop (0+(((Int.tmod (wrap .i64 ((Int.tmod ab ((m:Nat):Int))+((m:Nat):Int))) ((m:Nat):Int)).toNat)*2))).take 2)) fun af=>(cond ((Nat.ble (r+1) 140737488355328)&&(Nat.ble ((r+1)*8) 140737488355328)) (k0 (r+1) (wrap .i64 (u+1)) ((w.take (r*1))++[(.int .i64 af)]) (setCells d 0 ((s.drop (0+(((Int.tmod (wrap .i64 ((Int.tmod ab ((m:Nat):Int))+((m:Nat):Int))) ((m:Nat):Int)).toNat)*2))).take 2))) none)) none) none) none)))) none) (cond (Ac 0 m) (cond (Nat.ble 2 (s.length)) (cond ((Nat.beq ((s.take 2).length) 2)&&((Nat.ble 2 (d.length))&&(!false))) (Ao .i64 (setCells d 0 (s.take 2)) fun ag=>(cond ((Nat.ble (r+1) 140737488355328)&&(Nat.ble ((r+1)*8) 140737488355328)) (k0 (r+1) (wrap .i64 (u+1)) ((w.take (r*1))++[(.int .i64 ag)]) (setCells d 0 (s.take 2))) none)) none) none) none))))
def Oj (k0:Nat→Int→LA→LA→O R) (r0:Nat→LA→O R) (f:Int) (g:LA) (e:Nat) (i l:Bool) (x:Nat) (c:Bool) (b d v:LA):Nat→Nat→Int→Nat→Int→LA→LA→O R
 | 0,_,_,_,_,_,_=>none
 | n+1,r,u,m,t,w,s=>(W0 N k0 r0 f g e i l x c b d v (Oj k0 r0 f g e i l x c b d v n) r u m t w s)
def LC (k0:Nat→Int→LA→LA→O R) (r0:Nat→LA→O R) (f:Int) (g:LA) (e:Nat) (i l c:Bool) (b d:LA) (q2:Nat→LA→Nat→Int→Nat→Int→LA→LA→O R) (y:Nat) (z:Int) (aa:LA):O R :=
 (cond (Nat.ble 22 (b.length)) (cond (Nat.ble 2 (d.length)) (KI N (b.take 22) c (d.take 2) false (fun x v=>(q2 x v y z 0 0 aa []))) none) none)
def Z9 (k0:Nat→Int→LA→LA→O R) (r0:Nat→LA→O R) (f:Int) (g:LA) (e:Nat) (i l c:Bool) (b d:LA) (y:Nat) (z:Int) (aa:LA):O R:=(LC N k0 r0 f g e i l c b d (fun x v r u m t w s=>(Oj N k0 r0 f g e i l x c b d v N r u m t w s)) y z aa)
def W1 (r0:Nat→LA→O R) (f:Int) (g:LA) (e:Nat) (i l c:Bool) (b:LA) (k0:Nat→Int→LA→LA→O R) (q1:Nat→Int→LA→O R) (o:Nat) (q:Int) (p d:LA):O R :=
 (cond ((decide (q<f))==true) (cond (Nat.ble 22 (b.length)) (Lg N (b.take 22) c (fun ah=>(cond (cond true ah false) (q1 o q p) (r0 o p)))) none) (r0 o p))
def Hn (r0:Nat→LA→O R) (f:Int) (g:LA) (e:Nat) (i l c:Bool) (b:LA):Nat→Nat→Int→LA→LA→O R
 | 0,_,_,_,_=>none
 | n+1,o,q,p,d=>(W1 N r0 f g e i l c b (Hn r0 f g e i l c b n) (fun y z aa=>(Z9 N (Hn r0 f g e i l c b n) r0 f g e i l c b d y z aa)) o q p d)
def PQ (r0:Nat→LA→O R) (q0:Nat→Int→LA→LA→O R) (b:LA) (c:Bool) (f:Int) (g:LA) (e:Nat) (i l:Bool):O R :=
 (cond (Nat.ble 22 (b.length)) (L5 N (b.take 22) c (fun ac=>(cond ((Nat.beq (ac.length) 2)&&((Nat.ble 2 2)&&(!false))) (q0 0 0 [] (setCells [(.int .i64 0),(.int .i64 0)] 0 ac)) none))) none)
def Yy:=(Ae (fun (N:Nat) (b:LA) (c:Bool) (f:Int) (g:LA) (e:Nat) (i l:Bool) (r0:Nat→LA→O R)=>(PQ N r0 (fun o q p d=>(Hn N r0 f g e i l c b N o q p d)) b c f g e i l))).1
theorem jo (b c f g e i l r0):(@Yy R N b c f g e i l r0)=(PQ N r0 (fun o q p d=>(Hn N r0 f g e i l c b N o q p d)) b c f g e i l):=by rw[Yy,(Ae _).2]
def pa:Hints:={ H:=(hS hL (hS hL (hS hL (hS (hS hL (hS (hP [1,2,3,7,8,9] (hJ [1,2,3,7,8,9] hL (hS (hS (hS hL (hS hL (hS (hS hL (hS (hP [1,2,3,7,8,9,10,11,12] hL) hL)) hL))) hL) hL))) hL)) hL)))),nils:=[(6,1),(7,1),(10,2)],modes:=[(2,1)] }
def wW:Dg:=[(113,Ws N),(52,Q6 N),(114,jU N),(115,jZ N)]
def RC (F:KF R):=Hp Tryz.f62 pa (wW N) [] N F
def E6 (F:KF R):Nat→LA→O R:=(fun ai aj=>F (.own 300000 0 ai) (hq [(bQ 1 aj)]))
def Aum (f:Int) (g:LA) (e:Nat) (i l:Bool) (x:Nat) (c:Bool) (b d v:LA) (r:Nat) (u:Int) (m:Nat) (t:Int) (w s:LA):St:=⟨[(1,(iv f)),(2,(.imm g e 1 i l)),(3,(op 0)),(7,(.own 300001 0 r)),(8,(op 2)),(9,(iv u)),(10,(.own 300003 0 m)),(11,(.own 300004 0 x)),(12,(iv t))],(hq [(bP c 0 b),(bQ 1 w),(bQ 0 d),(bQ 2 s),(bQ 2 v)])⟩
def Aun (F:KF R) (Q0:St→O R):=RC N F [1,1,1,0,1,0,0,1,0,0,1,1,0,1,0] [Q0]
def Auo (f:Int) (g:LA) (e:Nat) (i l c:Bool) (b d:LA) (y:Nat) (z:Int) (aa:LA):St:=⟨[(1,(iv f)),(2,(.imm g e 1 i l)),(3,(op 0)),(7,(.own 300001 0 y)),(8,(op 2)),(9,(iv z))],(hq [(bP c 0 b),(bQ 1 aa),(bQ 0 d)])⟩
def Aup (F:KF R) (Q0:St→O R):=RC N F [1,1,1,0,1,0,0,1] [Q0]
def Td (f:Int) (g:LA) (e:Nat) (i l c:Bool) (b:LA) (o:Nat) (q:Int) (p d:LA):St:=⟨[(1,(iv f)),(2,(.imm g e 1 i l)),(3,(op 0)),(7,(.own 300001 0 o)),(8,(op 2)),(9,(iv q))],(hq [(bP c 0 b),(bQ 1 p),(bQ 0 d)])⟩
def pb (F:KF R):=RC N F [1,1,1,0,1,0] []
theorem VQ (Q0:St→O R) (F:KF R) (f:Int) (g:LA) (e:Nat) (i l:Bool) (x:Nat) (c:Bool) (b d v:LA):∀ (n r:Nat) (u:Int) (m:Nat) (t:Int) (w s:LA),Ap (Aun N F Q0) n (Aum f g e i l x c b d v r u m t w s)=(Oj N (fun o q p d=>Q0 (Td f g e i l c b o q p d)) (E6 F) f g e i l x c b d v n r u m t w s)
 | 0,_,_,_,_,_,_=>by kernel_rfl
 | n+1,r,u,m,t,w,s=>Eq.trans (by kernel_rfl) (Bm (W0 N (fun o q p d=>Q0 (Td f g e i l c b o q p d)) (E6 F) f g e i l x c b d v · r u m t w s) (funext fun r=>funext fun u=>funext fun m=>funext fun t=>funext fun w=>funext fun s=>(VQ Q0 F f g e i l x c b d v n r u m t w s)):_)
theorem zD (Q0:St→O R) (F:KF R) (f:Int) (g:LA) (e:Nat) (i l c:Bool) (b d:LA):∀ (y:Nat) (z:Int) (aa:LA),A9 (Aup N F Q0) (Auo f g e i l c b d y z aa)=(Z9 N (fun o q p d=>Q0 (Td f g e i l c b o q p d)) (E6 F) f g e i l c b d y z aa):=by
 intro y z aa
 exact Eq.trans (by kernel_rfl) (Bm (LC N (fun o q p d=>Q0 (Td f g e i l c b o q p d)) (E6 F) f g e i l c b d · y z aa) (funext fun x=>funext fun v=>funext fun r=>funext fun u=>funext fun m=>funext fun t=>funext fun w=>funext fun s=>(Ai ..).trans (VQ N Q0 F f g e i l x c b d v N r u m t w s)):_)
theorem VR (F:KF R) (f:Int) (g:LA) (e:Nat) (i l c:Bool) (b:LA):∀ (n o:Nat) (q:Int) (p d:LA),Ap (pb N F) n (Td f g e i l c b o q p d)=(Hn N (E6 F) f g e i l c b n o q p d)
 | 0,_,_,_,_=>by kernel_rfl
 | n+1,o,q,p,d=>have e0:=(funext fun o=>funext fun q=>funext fun p=>funext fun d=>(VR F f g e i l c b n o q p d))
  Eq.trans (by kernel_rfl) (fQ (W1 N (E6 F) f g e i l c b · · o q p d) e0 (funext fun y=>funext fun z=>funext fun aa=>(Aq ..).trans ((zD N (Ap (pb N F) n) F f g e i l c b d y z aa).trans (Bm (Z9 N · (E6 F) f g e i l c b d y z aa) e0))):_)
theorem pc (b:LA) (c:Bool) (f:Int) (g:LA) (e:Nat) (i l:Bool) (F:KF R):Cd (wW N) pa N 62 [(.pagg b c),(iv f),(.imm g e 1 i l)] [] F=(Yy N b c f g e i l (E6 F)):=by
 rw[jo]
 exact Eq.trans (by kernel_rfl) (Bm (PQ N (E6 F) · b c f g e i l) (funext fun o=>funext fun q=>funext fun p=>funext fun d=>(Ai ..).trans (VR N F f g e i l c b N o q p d)):_)
def jq (a:LA) (h:Ak) (k:KF R):O R :=
 match a,h with
 | [(.pagg b c),(.int .i64 f),(.imm g e 1 i l)],[]=>(Yy N b c f g e i l (E6 k))
 | _,_=>none
theorem pe:An N 62 @jq:=by
 intro R Q a h k j;unfold jq;split;exact Ax (pc ..) (pc ..) ⟨Wt N,Q8 N,jV N,j0 N,trivial⟩;exact Az
def Auq:=Ay (pe N)
def Aur:=Ca (pe N)
end
end Gx

namespace Gx
open Go Go.Proofs
open IntKind (wrap)
set_option maxRecDepth 100000
noncomputable section
variable {R:Type} (N:Nat)
def jr (N:Nat) (r0:LA→O R) (g n:Int) (d:Bool) (b:LA) (o:Bool):O R :=
 (cond o (Ao .i64 (b.drop 21) fun q=>(Ao .i64 (b.drop 7) fun r=>(Ao .i64 (b.drop 21) fun s=>(Ao .i64 (b.drop 6) fun t=>(r0 [(.int .i64 (Ix n (wrap .i64 (q - r)))),(.int .i64 (By g (wrap .i64 (s+t))))]))))) (r0 [(.int .i64 n),(.int .i64 g)]))
def ZY (N:Nat) (r0:LA→O R) (c:Int) (d:Bool) (b:LA) (q2:Int→Bool→O R) (g:Int):O R :=
 (Ao .i64 (b.drop 2) fun n=>(cond ((c==0)==true) (Ao .i64 (b.drop 19) fun u=>(q2 n (cond true (u==2) false))) (q2 n false)))
def PR (r0:LA→O R) (c:Int) (d:Bool) (b:LA) (g:Int):O R:=(ZY N r0 c d b (fun n o=>(jr N r0 g n d b o)) g)
def ZZ (N:Nat) (r0:LA→O R) (f:LA) (e:Nat) (i l:Bool) (c:Int) (d:Bool) (b:LA) (q1:Int→O R) (m:Int):O R :=
 (cond ((decide ((wrap .i64 (c+1))<((e:Nat):Int)))==true) (cond (Ac (wrap .i64 (c+1)) e) (Ao .i64 (f.drop (((wrap .i64 (c+1)).toNat)*1)) fun v=>(cond (cond true (v != 2) false) (Ao .i64 (b.drop 9) fun w=>(q1 (By m w))) (q1 m))) none) (q1 m))
def BY (r0:LA→O R) (f:LA) (e:Nat) (i l:Bool) (c:Int) (d:Bool) (b:LA) (m:Int):O R:=(ZZ N r0 f e i l c d b (fun g=>(PR N r0 c d b g)) m)
def lO (N:Nat) (r0:LA→O R) (q0:Int→O R) (b:LA) (d:Bool) (f:LA) (e:Nat) (i l:Bool) (c:Int):O R :=
 (Ao .i64 (b.drop 3) fun p=>(cond ((c==0)==true) (Ao .i64 (b.drop 19) fun x=>(cond ((cond true (x != 2) false)==false) (cond ((decide (c>0))==true) (cond (Ac (wrap .i64 (c - 1)) e) (Ao .i64 (f.drop (((wrap .i64 (c - 1)).toNat)*1)) fun y=>(cond (cond false true (cond true (y != 2) false)) (Ao .i64 (b.drop 8) fun z=>(q0 (By p z))) (q0 p))) none) (q0 p)) (Ao .i64 (b.drop 8) fun aa=>(q0 (By p aa))))) (cond ((decide (c>0))==true) (cond (Ac (wrap .i64 (c - 1)) e) (Ao .i64 (f.drop (((wrap .i64 (c - 1)).toNat)*1)) fun ab=>(cond (cond false true (cond true (ab != 2) false)) (Ao .i64 (b.drop 8) fun ac=>(q0 (By p ac))) (q0 p))) none) (q0 p))))
def VS:=(Ae (fun (N:Nat) (b:LA) (d:Bool) (f:LA) (e:Nat) (i l:Bool) (c:Int) (r0:LA→O R)=>(lO N r0 (fun m=>(BY N r0 f e i l c d b m)) b d f e i l c))).1
theorem wX (b d f e i l c r0):(@VS R N b d f e i l c r0)=(lO N r0 (fun m=>(BY N r0 f e i l c d b m)) b d f e i l c):=by rw[VS,(Ae _).2]
def Aeg:Hints:={ H:=(hS hL (hS hL (hJ [1,2,3,6,7] hL (hJ [2,3,6,7] hL (hS hL (hS (hJ [3,6,7,8,59] hL hL) hL)))))),modes:=[(3,0)] }
def js (F:KF R):=Hp Tryz.f68 Aeg [] [] N F
def L6 (F:KF R):LA→O R:=(fun ad=>F (.pagg ad false) [])
def A60 (g n:Int) (d:Bool) (b:LA) (o:Bool):St:=⟨[(3,(op 0)),(6,(op 1)),(7,(iv g)),(8,(iv n)),(59,(.bool o))],(hq [(bP d 0 b),(bQ 0 [(iv 0),(iv 0)])])⟩
def A61 (F:KF R):=js N F [1,1,1,1,1,0,1] []
def A62 (c:Int) (d:Bool) (b:LA) (g:Int):St:=⟨[(2,(iv c)),(3,(op 0)),(6,(op 1)),(7,(iv g))],(hq [(bP d 0 b),(bQ 0 [(iv 0),(iv 0)])])⟩
def A63 (F:KF R):=js N F [1,1,1,1] []
def A64 (f:LA) (e:Nat) (i l:Bool) (c:Int) (d:Bool) (b:LA) (m:Int):St:=⟨[(1,(.imm f e 1 i l)),(2,(iv c)),(3,(op 0)),(6,(op 1)),(7,(iv m))],(hq [(bP d 0 b),(bQ 0 [(iv 0),(iv 0)])])⟩
def A65 (F:KF R):=js N F [1,1,1] []
theorem Aqv (F:KF R) (g n:Int) (d:Bool) (b:LA):∀ (o:Bool),A9 (A61 N F) (A60 g n d b o)=(jr N (L6 F) g n d b o):=by
 intro o
 kernel_rfl
theorem Aqw (F:KF R) (c:Int) (d:Bool) (b:LA):∀ (g:Int),A9 (A63 N F) (A62 c d b g)=(PR N (L6 F) c d b g):=by
 intro g
 exact Eq.trans (by kernel_rfl) (Bm (ZY N (L6 F) c d b · g) (funext fun n=>funext fun o=>(Aq ..).trans (Aqv N F g n d b o)):_)
theorem Aqx (F:KF R) (f:LA) (e:Nat) (i l:Bool) (c:Int) (d:Bool) (b:LA):∀ (m:Int),A9 (A65 N F) (A64 f e i l c d b m)=(BY N (L6 F) f e i l c d b m):=by
 intro m
 exact Eq.trans (by kernel_rfl) (Bm (ZZ N (L6 F) f e i l c d b · m) (funext fun g=>(Aq ..).trans (Aqw N F c d b g)):_)
theorem Aeh (b:LA) (d:Bool) (f:LA) (e:Nat) (i l:Bool) (c:Int) (F:KF R):Cd [] Aeg N 68 [(.pagg b d),(.imm f e 1 i l),(iv c)] [] F=(VS N b d f e i l c (L6 F)):=by
 rw[wX]
 exact Eq.trans (by kernel_rfl) (Bm (lO N (L6 F) · b d f e i l c) (funext fun m=>(Aq ..).trans (Aqx N F f e i l c d b m)):_)
def wY (a:LA) (h:Ak) (k:KF R):O R :=
 match a,h with
 | [(.pagg b d),(.imm f e 1 i l),(.int .i64 c)],[]=>(VS N b d f e i l c (L6 k))
 | _,_=>none
theorem Aei:An N 68 @wY:=by
 intro R Q a h k j;unfold wY;split;exact Ax (Aeh ..) (Aeh ..) trivial;exact Az
def A66:=Ay (Aei N)
def A67:=Ca (Aei N)
def CS (N:Nat) (k1:Nat→Int→LA→O R) (r0:Nat→Int→LA→O R) (l:Int) (d:LA) (c:Nat) (g f:Bool) (i:Nat) (m:Int) (e:Bool) (b u:LA):O R :=
 (cond (Ac m i) (Ao .i64 (u.drop (0+((m.toNat)*2))) fun x=>(cond (Ac m i) (Ao .i64 (u.drop ((0+((m.toNat)*2))+1)) fun y=>(cond (decide (x>y)) (r0 0 7 []) (k1 i (wrap .i64 (m+1)) u))) none)) none)
def Yz (N:Nat) (k1:Nat→Int→LA→O R) (r0:Nat→Int→LA→O R) (l:Int) (d:LA) (c:Nat) (g f:Bool) (i:Nat) (m:Int) (e:Bool) (b:LA) (q4:LA→O R) (t:Bool) (q:LA):O R :=
 (cond t (cond (Ac m i) (Ao .i64 (q.drop (0+((m.toNat)*2))) fun z=>(cond (Ac (wrap .i64 (m - 1)) i) (Ao .i64 (q.drop (0+(((wrap .i64 (m - 1)).toNat)*2))) fun aa=>(Ao .i64 (b.drop 7) fun ab=>(cond (Ac m i) (Ao .i64 (q.drop ((0+((m.toNat)*2))+1)) fun ac=>(cond (Ac (wrap .i64 (m - 1)) i) (Ao .i64 (q.drop ((0+(((wrap .i64 (m - 1)).toNat)*2))+1)) fun ad=>(Ao .i64 (b.drop 6) fun ae=>(cond (Ac m i) (cond ((Nat.beq 2 2)&&((Nat.ble ((0+((m.toNat)*2))+2) (q.length))&&(!false))) (q4 (C3 q (0+((m.toNat)*2)) [(.int .i64 (Ix z (wrap .i64 (aa - ab)))),(.int .i64 (By ac (wrap .i64 (ad+ae))))])) none) none))) none)) none))) none)) none) (q4 q))
def Tx (k1:Nat→Int→LA→O R) (r0:Nat→Int→LA→O R) (l:Int) (d:LA) (c:Nat) (g f:Bool) (i:Nat) (m:Int) (e:Bool) (b:LA) (t:Bool) (q:LA):O R:=(Yz N k1 r0 l d c g f i m e b (fun u=>(CS N k1 r0 l d c g f i m e b u)) t q)
def Ty (N:Nat) (k3:Int→LA→O R) (r0:Nat→Int→LA→O R) (d:LA) (c:Nat) (g f:Bool) (i:Nat) (o:Int) (e:Bool) (b:LA) (v:Bool) (s:LA):O R :=
 (cond v (cond (Ac (wrap .i64 (o - 1)) i) (Ao .i64 (s.drop (0+(((wrap .i64 (o - 1)).toNat)*2))) fun af=>(cond (Ac o i) (Ao .i64 (s.drop (0+((o.toNat)*2))) fun ag=>(Ao .i64 (b.drop 6) fun ah=>(cond (Ac (wrap .i64 (o - 1)) i) (Ao .i64 (s.drop ((0+(((wrap .i64 (o - 1)).toNat)*2))+1)) fun ai=>(cond (Ac o i) (Ao .i64 (s.drop ((0+((o.toNat)*2))+1)) fun aj=>(Ao .i64 (b.drop 7) fun ak=>(cond (Ac (wrap .i64 (o - 1)) i) (cond ((Nat.beq 2 2)&&((Nat.ble ((0+(((wrap .i64 (o - 1)).toNat)*2))+2) (s.length))&&(!false))) (k3 (wrap .i64 (o - 1)) (C3 s (0+(((wrap .i64 (o - 1)).toNat)*2)) [(.int .i64 (Ix af (wrap .i64 (ag - ah)))),(.int .i64 (By ai (wrap .i64 (aj+ak))))])) none) none))) none)) none))) none)) none) (k3 (wrap .i64 (o - 1)) s))
def Rq (N:Nat) (r0:Nat→Int→LA→O R) (d:LA) (c:Nat) (g f:Bool) (i:Nat) (e:Bool) (b:LA) (k3:Int→LA→O R) (q5:Bool→LA→O R) (o:Int) (r:LA):O R :=
 (cond (decide (o>0)) (cond (Ac o c) (Ao .i64 (d.drop ((o.toNat)*1)) fun al=>(cond ((al==2)==true) (cond (Ac (wrap .i64 (o - 1)) c) (Ao .i64 (d.drop (((wrap .i64 (o - 1)).toNat)*1)) fun am=>(q5 (cond true (am==2) false) r)) none) (q5 false r))) none) (r0 i 0 r))
def G6 (r0:Nat→Int→LA→O R) (d:LA) (c:Nat) (g f:Bool) (i:Nat) (e:Bool) (b:LA):Nat→Int→LA→O R
 | 0,_,_=>none
 | n+1,o,r=>(Rq N r0 d c g f i e b (G6 r0 d c g f i e b n) (fun v s=>(Ty N (G6 r0 d c g f i e b n) r0 d c g f i o e b v s)) o r)
def Rr (r0:Nat→Int→LA→O R) (l:Int) (d:LA) (c:Nat) (g f e:Bool) (b:LA) (k1:Nat→Int→LA→O R) (q2:Bool→LA→O R) (q3:Int→LA→O R) (i:Nat) (m:Int) (p:LA):O R :=
 (cond (decide (m<l)) (cond (Ac m c) (Ao .i64 (d.drop ((m.toNat)*1)) fun an=>(cond (an != 2) (k1 i (wrap .i64 (m+1)) p) (cond (Nat.ble 22 (b.length)) (VS N (b.take 22) e d c false f m (fun w=>(cond (Ac m i) (cond ((Nat.beq (w.length) 2)&&((Nat.ble ((0+((m.toNat)*2))+2) (p.length))&&(!false))) (cond ((decide (m>0))==true) (cond (Ac (wrap .i64 (m - 1)) c) (Ao .i64 (d.drop (((wrap .i64 (m - 1)).toNat)*1)) fun ao=>(q2 (cond true (ao==2) false) (setCells p (0+((m.toNat)*2)) w))) none) (q2 false (setCells p (0+((m.toNat)*2)) w))) none) none))) none))) none) (q3 (wrap .i64 (l - 1)) p))
def Fr (r0:Nat→Int→LA→O R) (l:Int) (d:LA) (c:Nat) (g f e:Bool) (b:LA):Nat→Nat→Int→LA→O R
 | 0,_,_,_=>none
 | n+1,i,m,p=>(Rr N r0 l d c g f e b (Fr r0 l d c g f e b n) (fun t q=>(Tx N (Fr r0 l d c g f e b n) r0 l d c g f i m e b t q)) (fun o r=>(G6 N r0 d c g f i e b N o r)) i m p)
def Y0 (N:Nat) (r0:Nat→Int→LA→O R) (l:Int) (d:LA) (c:Nat) (g f e:Bool) (b:LA) (q1:Nat→Int→LA→O R):O R :=
 (cond ((decide (0≤l))&&((decide (l≤l))&&((decide (l≤140737488355328))&&(decide ((l*((16:Nat):Int))≤140737488355328))))) (q1 (l.toNat) 0 (List.flatten (List.replicate (l.toNat) ([(.int .i64 0),(.int .i64 0)]:LA)))) none)
def N4 (r0:Nat→Int→LA→O R) (l:Int) (d:LA) (c:Nat) (g f e:Bool) (b:LA):O R:=(Y0 N r0 l d c g f e b (fun i m p=>(Fr N r0 l d c g f e b N i m p)))
def AA (r0:Nat→Int→LA→O R) (q0:O R) (b:LA) (e:Bool) (l:Int) (d:LA) (c:Nat) (g f:Bool):O R :=
 (cond (Nat.ble 22 (b.length)) (Yj N (b.take 22) e l (fun ap=>(cond (!ap) (r0 0 1 []) (cond (((c:Nat):Int) != l) (r0 0 4 []) (cond (Nat.ble 22 (b.length)) (KU N (b.take 22) e d c false f (fun ba bb aq bc=>(cond (aq != 0) (r0 0 16 []) (Ao .i64 (b.drop 19) fun ar=>(cond ((ar==2)==true) (cond (Ac 0 c) (Ao .i64 d fun au=>(cond ((cond true (au != 2) false)==true) (Ao .i64 (b.drop 21) fun av=>(Ao .i64 (b.drop 9) fun aw=>(cond (cond true (decide (av>aw)) false) (r0 0 7 []) q0))) q0)) none) q0))))) none))))) none)
def Rs:=(Ae (fun (N:Nat) (b:LA) (e:Bool) (l:Int) (d:LA) (c:Nat) (g f:Bool) (r0:Nat→Int→LA→O R)=>(AA N r0 (N4 N r0 l d c g f e b) b e l d c g f))).1
theorem VT (b e l d c g f r0):(@Rs R N b e l d c g f r0)=(AA N r0 (N4 N r0 l d c g f e b) b e l d c g f):=by rw[Rs,(Ae _).2]
def eE:Hints:={ H:=(hS hL (hS hL (hS hL (hS hL (hJ [1,2,3] hL (hS hL (hS (hS hL (hS (hP [1,2,3,11,12] (hS hL (hS (hS (hS hL (hS hL (hJ [1,2,3,11,12] (hJ [1,2,3,11,12,75] hL hL) hL))) hL) hL))) hL)) (hS (hS hL (hS (hP [2,3,11,13] (hS hL (hS (hS (hJ [2,3,11,13,139] hL hL) hL) hL))) hL)) hL)))))))),nils:=[(6,2)],modes:=[(2,2),(0,0)] }
def jt:Dg:=[(17,uT N),(67,Ad2 N),(68,A66 N)]
def Jh (F:KF R):=Hp Tryz.f30 eE (jt N) [] N F
def Bv (F:KF R):Nat→Int→LA→O R:=(fun ax ay az=>F (.tup [(.own 300000 0 ax),(iv ay)]) (hq [(bQ 2 az)]))
def Ag2 (l:Int) (d:LA) (c:Nat) (g f:Bool) (i:Nat) (m:Int) (e:Bool) (b u:LA):St:=⟨[(1,(iv l)),(2,(.imm d c 1 g f)),(3,(op 0)),(11,(.own 300001 0 i)),(12,(iv m))],(hq [(bP e 0 b),(bQ 2 u)])⟩
def Ag3 (F:KF R) (Q1:St→O R):=Jh N F [1,1,1,1,1,1,0,1,0,0,1,0,0,1,1,1] [Q1]
def Ag4 (l:Int) (d:LA) (c:Nat) (g f:Bool) (i:Nat) (m:Int) (e:Bool) (b:LA) (t:Bool) (q:LA):St:=⟨[(1,(iv l)),(2,(.imm d c 1 g f)),(3,(op 0)),(11,(.own 300001 0 i)),(12,(iv m)),(75,(.bool t))],(hq [(bP e 0 b),(bQ 2 q)])⟩
def Ag5 (F:KF R) (Q1:St→O R):=Jh N F [1,1,1,1,1,1,0,1,0,0,1,0,0,1,1,0,1] [Q1]
def Ag6 (d:LA) (c:Nat) (g f:Bool) (i:Nat) (o:Int) (e:Bool) (b:LA) (v:Bool) (s:LA):St:=⟨[(2,(.imm d c 1 g f)),(3,(op 0)),(11,(.own 300001 0 i)),(13,(iv o)),(139,(.bool v))],(hq [(bP e 0 b),(bQ 2 s)])⟩
def Ag7 (F:KF R) (Q3:St→O R):=Jh N F [1,1,1,1,1,1,1,0,1,0,0,1,0,0,1] [Q3]
def eF (d:LA) (c:Nat) (g f:Bool) (i:Nat) (e:Bool) (b:LA) (o:Int) (r:LA):St:=⟨[(2,(.imm d c 1 g f)),(3,(op 0)),(11,(.own 300001 0 i)),(13,(iv o))],(hq [(bP e 0 b),(bQ 2 r)])⟩
def eG (F:KF R):=Jh N F [1,1,1,1,1,1,1,0,1,0] []
def Tz (l:Int) (d:LA) (c:Nat) (g f e:Bool) (b:LA) (i:Nat) (m:Int) (p:LA):St:=⟨[(1,(iv l)),(2,(.imm d c 1 g f)),(3,(op 0)),(11,(.own 300001 0 i)),(12,(iv m))],(hq [(bP e 0 b),(bQ 2 p)])⟩
def eH (F:KF R):=Jh N F [1,1,1,1,1,1,0,1,0] []
def Ag8 (l:Int) (d:LA) (c:Nat) (g f e:Bool) (b:LA):St:=⟨[(1,(iv l)),(2,(.imm d c 1 g f)),(3,(op 0))],(hq [(bP e 0 b)])⟩
def Ag9 (F:KF R):=Jh N F [1,1,1,1,1] []
theorem rU (Q1:St→O R) (F:KF R) (l:Int) (d:LA) (c:Nat) (g f:Bool) (i:Nat) (m:Int) (e:Bool) (b:LA):∀ (u:LA),A9 (Ag3 N F Q1) (Ag2 l d c g f i m e b u)=(CS N (fun i m p=>Q1 (Tz l d c g f e b i m p)) (Bv F) l d c g f i m e b u):=by
 intro u
 kernel_rfl
theorem rV (Q1:St→O R) (F:KF R) (l:Int) (d:LA) (c:Nat) (g f:Bool) (i:Nat) (m:Int) (e:Bool) (b:LA):∀ (t:Bool) (q:LA),A9 (Ag5 N F Q1) (Ag4 l d c g f i m e b t q)=(Tx N (fun i m p=>Q1 (Tz l d c g f e b i m p)) (Bv F) l d c g f i m e b t q):=by
 intro t q
 exact Eq.trans (by kernel_rfl) (Bm (Yz N (fun i m p=>Q1 (Tz l d c g f e b i m p)) (Bv F) l d c g f i m e b · t q) (funext fun u=>(Aq ..).trans (rU N Q1 F l d c g f i m e b u)):_)
theorem rW (Q3:St→O R) (F:KF R) (d:LA) (c:Nat) (g f:Bool) (i:Nat) (o:Int) (e:Bool) (b:LA):∀ (v:Bool) (s:LA),A9 (Ag7 N F Q3) (Ag6 d c g f i o e b v s)=(Ty N (fun o r=>Q3 (eF d c g f i e b o r)) (Bv F) d c g f i o e b v s):=by
 intro v s
 kernel_rfl
theorem LD (F:KF R) (d:LA) (c:Nat) (g f:Bool) (i:Nat) (e:Bool) (b:LA):∀ (n:Nat) (o:Int) (r:LA),Ap (eG N F) n (eF d c g f i e b o r)=(G6 N (Bv F) d c g f i e b n o r)
 | 0,_,_=>by kernel_rfl
 | n+1,o,r=>have e0:=(funext fun o=>funext fun r=>(LD F d c g f i e b n o r))
  Eq.trans (by kernel_rfl) (fQ (Rq N (Bv F) d c g f i e b · · o r) e0 (funext fun v=>funext fun s=>(Aq ..).trans ((rW N (Ap (eG N F) n) F d c g f i o e b v s).trans (Bm (Ty N · (Bv F) d c g f i o e b v s) e0))):_)
theorem LE (F:KF R) (l:Int) (d:LA) (c:Nat) (g f e:Bool) (b:LA):∀ (n i:Nat) (m:Int) (p:LA),Ap (eH N F) n (Tz l d c g f e b i m p)=(Fr N (Bv F) l d c g f e b n i m p)
 | 0,_,_,_=>by kernel_rfl
 | n+1,i,m,p=>have e0:=(funext fun i=>funext fun m=>funext fun p=>(LE F l d c g f e b n i m p))
  Eq.trans (by kernel_rfl) (Bmu (Rr N (Bv F) l d c g f e b · · · i m p) e0 (funext fun t=>funext fun q=>(Aq ..).trans ((rV N (Ap (eH N F) n) F l d c g f i m e b t q).trans (Bm (Tx N · (Bv F) l d c g f i m e b t q) e0))) (funext fun o=>funext fun r=>(Ai ..).trans (LD N F d c g f i e b N o r)):_)
theorem rX (F:KF R) (l:Int) (d:LA) (c:Nat) (g f e:Bool) (b:LA):A9 (Ag9 N F) (Ag8 l d c g f e b)=(N4 N (Bv F) l d c g f e b):=by
 exact Eq.trans (by kernel_rfl) (Bm (Y0 N (Bv F) l d c g f e b ·) (funext fun i=>funext fun m=>funext fun p=>(Ai ..).trans (LE N F l d c g f e b N i m p)):_)
theorem eI (b:LA) (e:Bool) (l:Int) (d:LA) (c:Nat) (g f:Bool) (F:KF R):Cd (jt N) eE N 30 [(.pagg b e),(iv l),(.imm d c 1 g f)] [] F=(Rs N b e l d c g f (Bv F)):=by
 rw[VT]
 exact Eq.trans (by kernel_rfl) (Bm (AA N (Bv F) · b e l d c g f) ((Aq ..).trans (rX N F l d c g f e b)):_)
def VU (a:LA) (h:Ak) (k:KF R):O R :=
 match a,h with
 | [(.pagg b e),(.int .i64 l),(.imm d c 1 g f)],[]=>(Rs N b e l d c g f (Bv k))
 | _,_=>none
theorem eJ:An N 30 @VU:=by
 intro R Q a h k j;unfold VU;split;exact Ax (eI ..) (eI ..) ⟨uU N,Ad3 N,A67 N,trivial⟩;exact Az
def Aha:=Ay (eJ N)
def Ahb:=Ca (eJ N)
def VV (e:LA) (c:Nat) (f g:Bool) (b d:Int) (r0:Int→O R):O R :=
 (cond ((decide (b≥((c:Nat):Int)))==false) (cond (cond false true (decide (d≤0))) (r0 0) (cond (Ac b c) (Ao .i64 (e.drop ((b.toNat)*1)) fun i=>(Qw N (wrap .i64 (Int.tdiv i 3)) (wrap .i64 (d+1)) (fun l=>(r0 l)))) none)) (r0 0))
def VW:=(Ae (@VV R)).1
theorem F_:@VW R=@VV R:=(Ae _).2
def Bbe:Dg:=[(12,XL N)]
def Aej (F:KF R):Int→O R:=(fun m=>F (iv m) [])
theorem Aek (e:LA) (c:Nat) (f g:Bool) (b d:Int) (F:KF R):Cd (Bbe N) C6 N 116 [(.imm e c 1 f g),(iv b),(iv d)] [] F=(VW N e c f g b d (Aej F)):=by
 rw[F_]
 kernel_rfl
def wZ (a:LA) (h:Ak) (k:KF R):O R :=
 match a,h with
 | [(.imm e c 1 f g),(.int .i64 b),(.int .i64 d)],[]=>(VW N e c f g b d (Aej k))
 | _,_=>none
theorem Ael:An N 116 @wZ:=by
 intro R Q a h k j;unfold wZ;split;exact Ax (Aek ..) (Aek ..) ⟨XM N,trivial⟩;exact Az
def A68:=Ay (Ael N)
def A69:=Ca (Ael N)
def Gw (k0:Int→Int→Nat→Nat→LA→LA→O R) (r0:LA→O R) (r1:LA→O R) (e:Int) (c:Nat) (f:LA) (g:Nat) (m i:Bool) (o:Nat) (b:LA) (l:Bool) (d p:LA) (ad ab ae:Int) (z aa:Nat) (af ag:LA):O R :=
 (Be N ab (fun ay=>(cond ((Nat.beq (ay.length) 3)&&(Nat.ble 3 3)) (cond ((Nat.ble (z+1) 140737488355328)&&(Nat.ble ((z+1)*56) 140737488355328)) (Be N ae (fun az=>(cond ((Nat.beq (az.length) 3)&&(Nat.ble 3 3)) (cond ((Nat.ble (aa+1) 140737488355328)&&(Nat.ble ((aa+1)*56) 140737488355328)) (k0 ab (wrap .i64 (ad+1)) (z+1) (aa+1) ((af.take (z*3))++((setCells [(.bool false),.nsl,.nsl] 0 ay).take 3)) ((ag.take (aa*3))++((setCells [(.bool false),.nsl,.nsl] 0 az).take 3))) none) none))) none) none)))
def Ug (k0:Int→Int→Nat→Nat→LA→LA→O R) (r0:LA→O R) (r1:LA→O R) (e:Int) (c:Nat) (f:LA) (g:Nat) (m i:Bool) (o:Nat) (b:LA) (l:Bool) (d p:LA) (q2:Int→Int→Int→Nat→Nat→LA→LA→O R) (ah ai ap aq:Int) (ar au:Nat) (av aw:LA):O R :=
 (VW N f g false i (wrap .i64 (2*ah)) (wrap .i64 (ap - ai)) (fun ba=>(Ao .i64 (d.drop 16) fun bb=>(VW N f g false i (wrap .i64 ((wrap .i64 (2*ah))+1)) (By bb (wrap .i64 (aq - (wrap .i64 (ai+ba))))) (fun bc=>(q2 ah (wrap .i64 (ai+ba)) bc ar au av aw))))))
def O9 (k0:Int→Int→Nat→Nat→LA→LA→O R) (r0:LA→O R) (r1:LA→O R) (e:Int) (c:Nat) (f:LA) (g:Nat) (m i:Bool) (o:Nat) (b:LA) (l:Bool) (d p:LA) (ah ai ap aq:Int) (ar au:Nat) (av aw:LA):O R:=(Ug N k0 r0 r1 e c f g m i o b l d p (fun ad ab ae z aa af ag=>(Gw N k0 r0 r1 e c f g m i o b l d p ad ab ae z aa af ag)) ah ai ap aq ar au av aw)
def Uh (N:Nat) (k0:Int→Int→Nat→Nat→LA→LA→O R) (r0:LA→O R) (r1:LA→O R) (e:Int) (c:Nat) (f:LA) (g:Nat) (m i:Bool) (o:Nat) (w x y:Int) (b:LA) (l:Bool) (d p:LA) (q3:Int→Int→Int→Int→Nat→Nat→LA→LA→O R) (ac aj:Int) (ao:Bool) (ak al:Nat) (am an:LA):O R :=
 (cond ao (Ao .i64 (d.drop 7) fun bd=>(Ao .i64 (d.drop 6) fun be=>(Ao .i64 (d.drop 6) fun bf=>(q3 aj (Ix w (wrap .i64 (ac - bd))) (By x (wrap .i64 (ac+be))) (By y (wrap .i64 (ac+bf))) ak al am an)))) (Ao .i64 (d.drop 8) fun bg=>(q3 aj w x (By y bg) ak al am an)))
def Jz (k0:Int→Int→Nat→Nat→LA→LA→O R) (r0:LA→O R) (r1:LA→O R) (e:Int) (c:Nat) (f:LA) (g:Nat) (m i:Bool) (o:Nat) (w x y:Int) (b:LA) (l:Bool) (d p:LA) (ac aj:Int) (ao:Bool) (ak al:Nat) (am an:LA):O R:=(Uh N k0 r0 r1 e c f g m i o w x y b l d p (fun ah ai ap aq ar au av aw=>(O9 N k0 r0 r1 e c f g m i o b l d p ah ai ap aq ar au av aw)) ac aj ao ak al am an)
def Nk (N:Nat) (r0:LA→O R) (r1:LA→O R) (e:Int) (c:Nat) (f:LA) (g:Nat) (m i:Bool) (o:Nat) (b:LA) (l:Bool) (d p:LA) (k0:Int→Int→Nat→Nat→LA→LA→O R) (q1:Int→Int→Int→Int→Int→Bool→Nat→Nat→LA→LA→O R) (q2:Int→Int→Int→Nat→Nat→LA→LA→O R) (v q:Int) (r s:Nat) (t u:LA):O R :=
 (cond (decide (q<e)) (cond (Ac q c) (Ao .i64 (b.drop (0+((q.toNat)*1))) fun bh=>(cond (bh==2) (cond (Ac q o) (Ao .i64 (p.drop (0+((q.toNat)*2))) fun w=>(cond (Ac q o) (Ao .i64 (p.drop ((0+((q.toNat)*2))+1)) fun x=>(Ao .i64 (d.drop 3) fun y=>(cond ((q==0)==true) (Ao .i64 (d.drop 19) fun bi=>(cond ((cond true (bi==2) false)==false) (cond ((decide (q>0))==true) (cond (Ac (wrap .i64 (q - 1)) c) (Ao .i64 (b.drop (0+(((wrap .i64 (q - 1)).toNat)*1))) fun bj=>(q1 w x y v q (cond false true (cond true (bj==2) false)) r s t u)) none) (q1 w x y v q false r s t u)) (q1 w x y v q true r s t u))) (cond ((decide (q>0))==true) (cond (Ac (wrap .i64 (q - 1)) c) (Ao .i64 (b.drop (0+(((wrap .i64 (q - 1)).toNat)*1))) fun bk=>(q1 w x y v q (cond false true (cond true (bk==2) false)) r s t u)) none) (q1 w x y v q false r s t u))))) none)) none) (q2 q 0 0 r s t u))) none) (r1 [(.imm (b.take (c*1)) c 1 false false),(.imm (t.take (r*3)) r 3 false false),(.imm (u.take (s*3)) s 3 false false)]))
def Co (r0:LA→O R) (r1:LA→O R) (e:Int) (c:Nat) (f:LA) (g:Nat) (m i:Bool) (o:Nat) (b:LA) (l:Bool) (d p:LA):Nat→Int→Int→Nat→Nat→LA→LA→O R
 | 0,_,_,_,_,_,_=>none
 | n+1,v,q,r,s,t,u=>(Nk N r0 r1 e c f g m i o b l d p (Co r0 r1 e c f g m i o b l d p n) (fun w x y ac aj ao ak al am an=>(Jz N (Co r0 r1 e c f g m i o b l d p n) r0 r1 e c f g m i o w x y b l d p ac aj ao ak al am an)) (fun ad ab ae z aa af ag=>(Gw N (Co r0 r1 e c f g m i o b l d p n) r0 r1 e c f g m i o b l d p ad ab ae z aa af ag)) v q r s t u)
def T0 (r0:LA→O R) (r1:LA→O R) (q0:Nat→LA→Int→Int→Nat→Nat→LA→LA→O R) (d:LA) (l:Bool) (e:Int) (c:Nat) (f:LA) (g:Nat) (m i:Bool) (b:LA):O R :=
 (cond (Nat.ble 22 (d.length)) (Rs N (d.take 22) l e (b.take (c*1)) c false true (fun o bl p=>(cond (bl != 0) (r0 [(.imm [] 0 1 false false),(.imm [] 0 3 false false),(.imm [] 0 3 false false)]) (Ao .i64 (d.drop 21) fun bm=>(q0 o p bm 0 0 0 [] []))))) none)
def Lq:=(Ae (fun (N:Nat) (d:LA) (l:Bool) (e:Int) (c:Nat) (f:LA) (g:Nat) (m i:Bool) (b:LA) (r0:LA→O R) (r1:LA→O R)=>(T0 N r0 r1 (fun o p v q r s t u=>(Co N r0 r1 e c f g m i o b l d p N v q r s t u)) d l e c f g m i b))).1
theorem LF (d l e c f g m i b r0 r1):(@Lq R N d l e c f g m i b r0 r1)=(T0 N r0 r1 (fun o p v q r s t u=>(Co N r0 r1 e c f g m i o b l d p N v q r s t u)) d l e c f g m i b):=by rw[Lq,(Ae _).2]
def PS:Hints:={ H:=(hS hL (hS hL (hS hL (hS hL (hS hL (hS (hS hL (hS (hP [1,2,3,4,8,10,12,13,14] (hS hL (hS (hS (hS hL (hJ [1,2,3,4,8,10,12,14,15,16] (hS hL (hS (hS hL (hJ [1,2,3,4,8,10,12,14,17,18,19] (hJ [1,2,3,4,8,10,12,13,14,17,18,19,74] hL hL) hL)) hL)) hL)) hL) hL))) hL)) hL)))))),modes:=[(3,0),(0,0)],cob:=[29,31] }
def VX:Dg:=[(30,Aha N),(20,Gj N),(116,A68 N)]
def Pa (F:KF R):=Hp Tryz.f63 PS (VX N) [100000] N F
def B7 (b:LA) (F:KF R):LA→O R:=(fun ax=>F (.tup [(.pagg ax false),(.bool false)]) [(100000,(bQ 1 b))])
def B8 (b:LA) (F:KF R):LA→O R:=(fun ax=>F (.tup [(.pagg ax false),(.bool true)]) [(100000,(bT 1 b))])
def w8 (e:Int) (c:Nat) (f:LA) (g:Nat) (m i:Bool) (o:Nat) (b:LA) (l:Bool) (d p:LA) (ad ab ae:Int) (z aa:Nat) (af ag:LA):St:=⟨[(1,(iv e)),(2,(.own 100000 0 c)),(3,(.imm f g 1 m i)),(4,(op 0)),(8,(op 1)),(10,(.own 300002 0 o)),(12,(op 3)),(14,(iv ad)),(15,(iv ab)),(16,(iv ae))],[(100000,(bQ 1 b)),(300000,(bP l 0 d)),(300001,⟨false,false,false,false,0,[.nsl,.nsl,.nsl],false⟩),(300002,(bQ 2 p)),(300003,⟨false,false,false,false,0,[(.own 100000 0 c),(.own 300004 0 z),(.own 300005 0 aa)],false⟩),(300004,(bQ 3 af)),(300005,(bQ 3 ag))]⟩
def w9 (F:KF R) (Q0:St→O R):=Pa N F [1,1,1,1,1,0,1,0,0,1,0,0,1,1] [Q0]
def w_ (e:Int) (c:Nat) (f:LA) (g:Nat) (m i:Bool) (o:Nat) (b:LA) (l:Bool) (d p:LA) (ah ai ap aq:Int) (ar au:Nat) (av aw:LA):St:=⟨[(1,(iv e)),(2,(.own 100000 0 c)),(3,(.imm f g 1 m i)),(4,(op 0)),(8,(op 1)),(10,(.own 300002 0 o)),(12,(op 3)),(14,(iv ah)),(17,(iv ai)),(18,(iv ap)),(19,(iv aq))],[(100000,(bQ 1 b)),(300000,(bP l 0 d)),(300001,⟨false,false,false,false,0,[.nsl,.nsl,.nsl],false⟩),(300002,(bQ 2 p)),(300003,⟨false,false,false,false,0,[(.own 100000 0 c),(.own 300004 0 ar),(.own 300005 0 au)],false⟩),(300004,(bQ 3 av)),(300005,(bQ 3 aw))]⟩
def wc (F:KF R) (Q0:St→O R):=Pa N F [1,1,1,1,1,0,1,0,0,1,0,0,1,0,1,0,1,1] [Q0]
def wg (e:Int) (c:Nat) (f:LA) (g:Nat) (m i:Bool) (o:Nat) (w x y:Int) (b:LA) (l:Bool) (d p:LA) (ac aj:Int) (ao:Bool) (ak al:Nat) (am an:LA):St:=⟨[(1,(iv e)),(2,(.own 100000 0 c)),(3,(.imm f g 1 m i)),(4,(op 0)),(8,(op 1)),(10,(.own 300002 0 o)),(12,(op 3)),(13,(iv ac)),(14,(iv aj)),(17,(iv w)),(18,(iv x)),(19,(iv y)),(74,(.bool ao))],[(100000,(bQ 1 b)),(300000,(bP l 0 d)),(300001,⟨false,false,false,false,0,[.nsl,.nsl,.nsl],false⟩),(300002,(bQ 2 p)),(300003,⟨false,false,false,false,0,[(.own 100000 0 c),(.own 300004 0 ak),(.own 300005 0 al)],false⟩),(300004,(bQ 3 am)),(300005,(bQ 3 an))]⟩
def wi (F:KF R) (Q0:St→O R):=Pa N F [1,1,1,1,1,0,1,0,0,1,0,0,1,0,1,0,1,0,1] [Q0]
def Gy (e:Int) (c:Nat) (f:LA) (g:Nat) (m i:Bool) (o:Nat) (b:LA) (l:Bool) (d p:LA) (v q:Int) (r s:Nat) (t u:LA):St:=⟨[(1,(iv e)),(2,(.own 100000 0 c)),(3,(.imm f g 1 m i)),(4,(op 0)),(8,(op 1)),(10,(.own 300002 0 o)),(12,(op 3)),(13,(iv v)),(14,(iv q))],[(100000,(bQ 1 b)),(300000,(bP l 0 d)),(300001,⟨false,false,false,false,0,[.nsl,.nsl,.nsl],false⟩),(300002,(bQ 2 p)),(300003,⟨false,false,false,false,0,[(.own 100000 0 c),(.own 300004 0 r),(.own 300005 0 s)],false⟩),(300004,(bQ 3 t)),(300005,(bQ 3 u))]⟩
def W2 (F:KF R):=Pa N F [1,1,1,1,1,0,1,0] []
theorem BZ (Q0:St→O R) (F:KF R) (e:Int) (c:Nat) (f:LA) (g:Nat) (m i:Bool) (o:Nat) (b:LA) (l:Bool) (d p:LA):∀ (ad ab ae:Int) (z aa:Nat) (af ag:LA),A9 (w9 N F Q0) (w8 e c f g m i o b l d p ad ab ae z aa af ag)=(Gw N (fun v q r s t u=>Q0 (Gy e c f g m i o b l d p v q r s t u)) (B7 b F) (B8 b F) e c f g m i o b l d p ad ab ae z aa af ag):=by
 intro ad ab ae z aa af ag
 kernel_rfl
theorem ju (Q0:St→O R) (F:KF R) (e:Int) (c:Nat) (f:LA) (g:Nat) (m i:Bool) (o:Nat) (b:LA) (l:Bool) (d p:LA):∀ (ah ai ap aq:Int) (ar au:Nat) (av aw:LA),A9 (wc N F Q0) (w_ e c f g m i o b l d p ah ai ap aq ar au av aw)=(O9 N (fun v q r s t u=>Q0 (Gy e c f g m i o b l d p v q r s t u)) (B7 b F) (B8 b F) e c f g m i o b l d p ah ai ap aq ar au av aw):=by
 intro ah ai ap aq ar au av aw
 exact Eq.trans (by kernel_rfl) (Bm (Ug N (fun v q r s t u=>Q0 (Gy e c f g m i o b l d p v q r s t u)) (B7 b F) (B8 b F) e c f g m i o b l d p · ah ai ap aq ar au av aw) (funext fun ad=>funext fun ab=>funext fun ae=>funext fun z=>funext fun aa=>funext fun af=>funext fun ag=>(Aq ..).trans (BZ N Q0 F e c f g m i o b l d p ad ab ae z aa af ag)):_)
theorem jv (Q0:St→O R) (F:KF R) (e:Int) (c:Nat) (f:LA) (g:Nat) (m i:Bool) (o:Nat) (w x y:Int) (b:LA) (l:Bool) (d p:LA):∀ (ac aj:Int) (ao:Bool) (ak al:Nat) (am an:LA),A9 (wi N F Q0) (wg e c f g m i o w x y b l d p ac aj ao ak al am an)=(Jz N (fun v q r s t u=>Q0 (Gy e c f g m i o b l d p v q r s t u)) (B7 b F) (B8 b F) e c f g m i o w x y b l d p ac aj ao ak al am an):=by
 intro ac aj ao ak al am an
 exact Eq.trans (by kernel_rfl) (Bm (Uh N (fun v q r s t u=>Q0 (Gy e c f g m i o b l d p v q r s t u)) (B7 b F) (B8 b F) e c f g m i o w x y b l d p · ac aj ao ak al am an) (funext fun ah=>funext fun ai=>funext fun ap=>funext fun aq=>funext fun ar=>funext fun au=>funext fun av=>funext fun aw=>(Aq ..).trans (ju N Q0 F e c f g m i o b l d p ah ai ap aq ar au av aw)):_)
theorem B_ (F:KF R) (e:Int) (c:Nat) (f:LA) (g:Nat) (m i:Bool) (o:Nat) (b:LA) (l:Bool) (d p:LA):∀ (n:Nat) (v q:Int) (r s:Nat) (t u:LA),Ap (W2 N F) n (Gy e c f g m i o b l d p v q r s t u)=(Co N (B7 b F) (B8 b F) e c f g m i o b l d p n v q r s t u)
 | 0,_,_,_,_,_,_=>by kernel_rfl
 | n+1,v,q,r,s,t,u=>have e0:=(funext fun v=>funext fun q=>funext fun r=>funext fun s=>funext fun t=>funext fun u=>(B_ F e c f g m i o b l d p n v q r s t u))
  Eq.trans (by kernel_rfl) (Bmu (Nk N (B7 b F) (B8 b F) e c f g m i o b l d p · · · v q r s t u) e0 (funext fun w=>funext fun x=>funext fun y=>funext fun ac=>funext fun aj=>funext fun ao=>funext fun ak=>funext fun al=>funext fun am=>funext fun an=>(Aq ..).trans ((jv N (Ap (W2 N F) n) F e c f g m i o w x y b l d p ac aj ao ak al am an).trans (Bm (Jz N · (B7 b F) (B8 b F) e c f g m i o w x y b l d p ac aj ao ak al am an) e0))) (funext fun ad=>funext fun ab=>funext fun ae=>funext fun z=>funext fun aa=>funext fun af=>funext fun ag=>(Aq ..).trans ((BZ N (Ap (W2 N F) n) F e c f g m i o b l d p ad ab ae z aa af ag).trans (Bm (Gw N · (B7 b F) (B8 b F) e c f g m i o b l d p ad ab ae z aa af ag) e0))):_)
theorem PT (d:LA) (l:Bool) (e:Int) (c:Nat) (f:LA) (g:Nat) (m i:Bool) (b:LA) (F:KF R):Cd (VX N) PS N 63 [(.pagg d l),(iv e),(.own 100000 0 c),(.imm f g 1 m i)] [(100000,(bQ 1 b))] F=(Lq N d l e c f g m i b (B7 b F) (B8 b F)):=by
 rw[LF]
 exact Eq.trans (by kernel_rfl) (Bm (T0 N (B7 b F) (B8 b F) · d l e c f g m i b) (funext fun o=>funext fun p=>funext fun v=>funext fun q=>funext fun r=>funext fun s=>funext fun t=>funext fun u=>(Ai ..).trans (B_ N F e c f g m i o b l d p N v q r s t u)):_)
def LG (a:LA) (h:Ak) (k:KF R):O R :=
 match a,h with
 | [(.pagg d l),(.int .i64 e),(.own 100000 0 c),(.imm f g 1 m i)],[(100000,⟨false,false,true,false,1,b,false⟩)]=>(Lq N d l e c f g m i b (B7 b k) (B8 b k))
 | _,_=>none
theorem PU:An N 63 @LG:=by
 intro R Q a h k j;unfold LG;split;exact Ax (PT ..) (PT ..) ⟨Ahb N,Gk N,A69 N,trivial⟩;exact Az
def wk:=Ay (PU N)
def wl:=Ca (PU N)
def zE (b:LA) (c:Bool) (d:Int) (e:LA) (f:Nat) (i g:Bool) (r0:LA→Bool→O R):O R :=
 (cond (Nat.ble 22 (b.length)) (Yy N (b.take 22) c d e f false g (fun n o=>(cond (Nat.ble 22 (b.length)) (Lq N (b.take 22) c d n e f false g o (fun l=>(cond ((Nat.beq 0 0)&&((Nat.beq (l.length) 3)&&(Nat.beq 3 3))) (cond (Nat.ble 3 (l.length)) (r0 (l.take 3) false) none) none)) (fun m=>(cond ((Nat.beq 0 0)&&((Nat.beq (m.length) 3)&&(Nat.beq 3 3))) (cond (Nat.ble 3 (m.length)) (r0 (m.take 3) true) none) none))) none))) none)
def jw:=(Ae (@zE R)).1
theorem wm:@jw R=@zE R:=(Ae _).2
def Bbf:Dg:=[(62,Auq N),(63,wk N)]
def Aem (F:KF R):LA→Bool→O R:=(fun p q=>F (.tup [(.pagg p false),(.bool q)]) [])
theorem Aen (b:LA) (c:Bool) (d:Int) (e:LA) (f:Nat) (i g:Bool) (F:KF R):Cd (Bbf N) Bg8 N 28 [(.pagg b c),(iv d),(.imm e f 1 i g)] [] F=(jw N b c d e f i g (Aem F)):=by
 rw[wm]
 kernel_rfl
def wo (a:LA) (h:Ak) (k:KF R):O R :=
 match a,h with
 | [(.pagg b c),(.int .i64 d),(.imm e f 1 i g)],[]=>(jw N b c d e f i g (Aem k))
 | _,_=>none
theorem Aeo:An N 28 @wo:=by
 intro R Q a h k j;unfold wo;split;exact Ax (Aen ..) (Aen ..) ⟨Aur N,wl N,trivial⟩;exact Az
def A7a:=Ay (Aeo N)
def A7b:=Ca (Aeo N)
end
end Gx

namespace Gx
open Go Go.Proofs
section
variable {R:Type}
section
variable {u:UnitD} {ks:List Int} {n:Nat}
def Bij (u:UnitD) (ks:List Int) (n h:Nat):PD :=
 cond (h==0&&u.state==2) ⟨Ix u.min (u.output - u.rampDown),By (cond (decide (h+1<n)&&!Ei ks (h+1)) (By (cond (Tc u ks h) u.max (By u.max u.startRamp)) u.stopRamp) (cond (Tc u ks h) u.max (By u.max u.startRamp))) (u.output+u.rampUp)⟩
  ⟨u.min,cond (decide (h+1<n)&&!Ei ks (h+1)) (By (cond (Tc u ks h) u.max (By u.max u.startRamp)) u.stopRamp) (cond (Tc u ks h) u.max (By u.max u.startRamp))⟩
theorem Bf7 {N:Nat} {K:LA→O R} {c g i:Bool} {h:Nat} (C:uR u) (G:ks.length=n) (hn:n≤1000) (I:h<n):VS N u.av c (Av ks) n g i (h:Int) K=K (Bij u ks n h).av:=by
 unfold uR at C
 rw[wX];unfold lO
 have D:∀ f:Int,PR N K (h:Int) c u.av f=K (cond (h==0&&u.state==2) (PD.mk (Ix u.min (u.output - u.rampDown)) (By f (u.output+u.rampUp))) (PD.mk u.min f)).av:=by
  intro f
  unfold PR ZY jr
  simp only[u2,u6,u7,Bff,Bln]
  rw[i64 (a:=u.output - u.rampDown) (by omega),i64 (a:=u.output+u.rampUp) (by omega)]
  cases h with
  | zero=>rw[show(((0:Nat):Int)==0)=true from rfl];cases (u.state==2)<;>rfl
  | succ h=>rw[show(((h+1:Nat):Int)==0)=false by simp;omega,show(h+1==0)=false from rfl];rfl
 have F:∀ l:Int,BY N K (Av ks) n g i (h:Int) c u.av l=K (cond (h==0&&u.state==2) (PD.mk (Ix u.min (u.output - u.rampDown)) (By (cond (decide (h+1<n)&&!Ei ks (h+1)) (By l u.stopRamp) l) (u.output+u.rampUp))) (PD.mk u.min (cond (decide (h+1<n)&&!Ei ks (h+1)) (By l u.stopRamp) l))).av:=by
  intro l
  unfold BY ZZ
  simp only[D,u9]
  rw[wS (by omega)]
  by_cases k:h+1<n
  ·rw[Iz k,show(true==true)=true from rfl,ct,Aa k,ct,Ct (by omega),show decide (h+1<n)=true by simpa using k,Ro (by omega),Bool.true_and,show(ks[h+1] != 2)=(!(ks[h+1]==2)) from rfl]
   cases (ks[h+1]==2)<;>rfl
  ·rw[Kn (by omega),show decide (h+1<n)=false by simpa using k];rfl
 simp only[F,u3,u8,Bff]
 unfold Bij
 cases h with
 | zero =>
  rw[show(((0:Nat):Int)==0)=true from rfl,show Tc u ks 0=(u.state==2) from rfl,show(u.state != 2)=(!(u.state==2)) from rfl]
  cases (u.state==2)<;>rfl
 | succ h =>
  rw[show(((h+1:Nat):Int)==0)=false by simp;omega,show Tc u ks (h+1)=Ei ks h from rfl,show(false==true)=false from rfl,cf,show(decide (((h+1:Nat):Int)>0)==true)=true by simp,ct]
  rw[show IntKind.wrap .i64 (((h+1:Nat):Int) - 1)=(h:Int) by rw[i64 (by omega)];omega,Aa (by omega),ct,Ct (by omega),Ro (ks:=ks) (h:=h) (by omega),show(ks[h] != 2)=(!(ks[h]==2)) from rfl]
  cases (ks[h]==2)<;>rfl
theorem Bna (ok:UOk u) {h:Nat} (k:Ei ks h=true):KW u ks n h=cond (decide (0<h)&&Tc u ks h) ⟨Ix (Bij u ks n h).lo ((KW u ks n (h - 1)).lo - u.rampDown),By (Bij u ks n h).hi ((KW u ks n (h - 1)).hi+u.rampUp)⟩ (Bij u ks n h):=by
 obtain⟨a,b,c,d⟩:=ok
 cases h with
 | zero =>
  unfold KW Bij
  rw[ei,k,show Tc u ks 0=(u.state==2) from rfl]
  cases (u.state==2)<;>cases (decide (0+1<n)&&!Ei ks (0+1))<;>simp[Jx,Tu]<;>omega
 | succ h =>
  rw[Nat.add_sub_cancel,Bk8 k]
  unfold KW Bij
  rw[ei,k,show Tc u ks (h+1)=Ei ks h from rfl]
  cases Ei ks h<;>cases (decide (h+1+1<n)&&!Ei ks (h+1+1))<;>simp[Jx,Tu]<;>omega
def gE (u:UnitD) (ks:List Int) (n p:Nat):Nat→PD:=fun i=>if i<p then KW u ks n i else ⟨0,0⟩
def gC (u:UnitD) (ks:List Int) (n p:Nat):Nat→PD:=fun i=>if i<p then KW u ks n i else Q' u ks n i
theorem Bma {h:Nat} (k:Ei ks h=false):KW u ks n h=⟨0,0⟩:=by unfold KW;rw[k];exact Bl9 k
theorem A7c {N:Nat} {K:Nat→Int→LA→O R} {f e d:Bool} (ok:UOk u) (T:uR u) (hn:n≤1000) (U:ks.length=n):∀ (m fuel:Nat),m<n→m<fuel →
  G6 N K (Av ks) n f e n d u.av fuel (m:Int) (tb n (gC u ks n m))=K n 0 (tb n (Q' u ks n))
 | 0,fuel+1,_,_=>by
  rw[G6];unfold Rq
  rw[show decide (((0:Nat):Int)>0)=false from rfl,cf,BU fun i _=>by unfold gC;rw[if_neg (by omega)]]
 | m+1,fuel+1,F,hf=>by
  rw[G6];unfold Rq Ty
  have h:m<n:=by omega
  have k:m<ks.length:=by omega
  have C:m+1<ks.length:=by omega
  have I:=A7c (N:=N) (K:=K) (f:=f) (e:=e) (d:=d) ok T hn U m fuel (by omega) (by omega)
  have hb:=ok.b;have ha:=ok.a
  have r1:=A2f (ks:=ks) (n:=n) ok (n - 1 - (m+1)) (m+1) (by omega)
  have r2:=A6s (ks:=ks) (n:=n) ok (m+1)
  have f1:=A2e (ks:=ks) ok (m+1)
  have V:IntKind.wrap .i64 (((m+1:Nat):Int) - 1)=(m:Int):=by rw[i64 (by omega)];omega
  have L:gC u ks n (m+1) m=KW u ks n m:=by unfold gC;rw[if_pos (by omega)]
  have Y:gC u ks n (m+1) (m+1)=Q' u ks n (m+1):=by unfold gC;rw[if_neg (by omega)]
  have up:∀ v:PD,v=Q' u ks n m→tb n (A7y (gC u ks n (m+1)) m v)=tb n (gC u ks n m):=fun v hv=>BU fun i _=>by
   subst hv
   unfold A7y gC
   by_cases G:i=m
   ·subst G;rw[if_pos rfl,if_neg (by omega)]
   ·rw[if_neg G]
    by_cases M:i<m
    ·rw[if_pos (by omega),if_pos M]
    ·rw[if_neg (by omega),if_neg M]
  have same:Q' u ks n m=KW u ks n m→tb n (gC u ks n (m+1))=tb n (gC u ks n m):=fun hs=>by
   rw[←up _ rfl,hs,←L]
   exact BU fun i _=>by unfold A7y;by_cases G:i=m<;>simp[G]
  have s1:∀ (a b:Int),[(AV.int .i64 a),(.int .i64 b)]=(PD.mk a b).av:=fun _ _=>rfl
  have st:=jh u ks (n:=n) (h:=m) (by omega)
  rw[show decide (((m+1:Nat):Int)>0)=true by simp,ct,Aa F,ct,Ct C,V]
  cases S:(ks[m+1]==2) with
  | false =>
   have o:Ei ks (m+1)=false:=by rw[Ro C];exact S
   rw[show(false==true)=false from rfl,cf]
   dsimp only
   rw[cf,same (by rw[st,o,Bool.and_false,cond_false])]
   exact I
  | true =>
   have o:Ei ks (m+1)=true:=by rw[Ro C];exact S
   rw[show(true==true)=true from rfl,ct,Aa h,ct,Ct k]
   dsimp only
   cases D:(ks[m]==2) with
   | false =>
    have o2:Ei ks m=false:=by rw[Ro k];exact D
    rw[show(cond true false false)=false from rfl,cf,same (by rw[st,o2,Bool.false_and,cond_false])]
    exact I
   | true =>
    have o2:Ei ks m=true:=by rw[Ro k];exact D
    rw[show(cond true true false)=true from rfl,ct]
    simp only[Aa h,Aa F,ct,vz h,vz F,wB h,wB F,u6,u7,L,Y,s1]
    rw[Bih h,ct,Ba8 h,i64 (a:=(Q' u ks n (m+1)).lo - u.rampUp) (by omega),i64 (a:=(Q' u ks n (m+1)).hi+u.rampDown) (by omega),up _ (by rw[st,o,o2];rfl)]
    exact I
theorem A7d {N:Nat} {X:O R} {K:Nat→Int→LA→O R} {f e d:Bool} (ok:UOk u) (L:uR u) (hn:n≤1000) (T:0<n) (M:ks.length=n) (hN:1100≤N) (C:Oo u ks n=true→K 0 7 []=X) (D:Oo u ks n=false→K n 0 (tb n (Q' u ks n))=X):∀ (m p fuel:Nat),p+m=n→m<fuel →
  (∀ h,h<p→Ei ks h=true→(KW u ks n h).lo≤(KW u ks n h).hi)→Fr N K (n:Int) (Av ks) n f e d u.av fuel n (p:Int) (tb n (gE u ks n p))=X
 | 0,p,fuel+1,hp,_,G=>by
  rw[Fr];unfold Rr
  have:Oo u ks n=false:=by
   unfold Oo
   rw[List.any_eq_false]
   intro h hm
   simp at hm
   cases I:Ei ks h with
   | true=>have:=G h (by omega) I;simp;omega
   | false=>simp
  rw[Kn (by omega),cf,i64 (by omega),show(n:Int) - 1=((n - 1:Nat):Int) by omega]
  have e:=A7c (N:=N) (K:=K) (f:=f) (e:=e) (d:=d) (ks:=ks) ok L hn M (n - 1) N (by omega) (by omega)
  dsimp only
  rw[BU (g:=gE u ks n p) (g':=gC u ks n (n - 1)) fun i hi=>by
   unfold gE gC
   rw[if_pos (by omega)]
   by_cases h:i<n - 1
   ·rw[if_pos h]
   ·rw[if_neg h,show i=n - 1 by omega,wC _ _ T],e]
  exact D this
 | m+1,p,fuel+1,hp,hf,G=>by
  rw[Fr];unfold Rr Tx Yz CS
  have h:p<n:=by omega
  have F:p<ks.length:=by omega
  have hb:=ok.b;have ha:=ok.a
  have U:=A7d (N:=N) (K:=K) (f:=f) (e:=e) (d:=d) ok L hn T M hN C D m (p+1) fuel (by omega) (by omega)
  rw[Iz h,ct,Aa h,ct,Ct F,wS (by omega)]
  cases I:(ks[p] != 2) with
  | true =>
   have o:Ei ks p=false:=by rw[Ro F];simpa using I
   rw[ct,BU (g:=gE u ks n p) (g':=gE u ks n (p+1)) fun i _=>by
    unfold gE
    by_cases C:i<p
    ·rw[if_pos C,if_pos (by omega)]
    ·rw[if_neg C]
     by_cases D:i=p
     ·subst D;rw[if_pos (by omega),Bma o]
     ·rw[if_neg (by omega)]]
   exact U fun h' S k=>by
    by_cases e:h'=p
    ·subst e;rw[o] at k;cases k
    ·exact G h' (by omega) k
  | false =>
   have o:Ei ks p=true:=by rw[Ro F];simpa using I
   have en:=Bna (n:=n) ok o
   rw[cf,Cl,ct,Bg,Bf7 L M hn h,ct,Bl8 h,ct,Bj5 h]
   have s1:∀ (a b:Int),[(AV.int .i64 a),(.int .i64 b)]=(PD.mk a b).av:=fun _ _=>rfl
   have up:tb n (A7y (gE u ks n p) p (KW u ks n p))=tb n (gE u ks n (p+1)):=BU fun i _=>by
    unfold A7y gE
    by_cases C:i=p
    ·subst C;simp
    ·rw[if_neg C]
     by_cases D:i<p
     ·rw[if_pos D,if_pos (by omega)]
     ·rw[if_neg D,if_neg (by omega)]
   have fin:cond (Ac (p:Int) n) (Ao .i64 (List.drop (0+((p:Int).toNat*2)) (tb n (gE u ks n (p+1)))) fun w=>(cond (Ac (p:Int) n) (Ao .i64 (List.drop ((0+((p:Int).toNat*2))+1) (tb n (gE u ks n (p+1)))) fun x=>(cond (decide (w>x)) (K 0 7 []) (Fr N K (n:Int) (Av ks) n f e d u.av fuel n ((p+1:Nat):Int) (tb n (gE u ks n (p+1)))))) none)) none=X:=by
    rw[Aa h,ct,vz h,ct,wB h,show gE u ks n (p+1) p=KW u ks n p by unfold gE;rw[if_pos (by omega)]]
    by_cases V:(KW u ks n p).lo>(KW u ks n p).hi
    ·rw[decide_eq_true V,ct]
     refine C ?_
     unfold Oo
     rw[List.any_eq_true]
     exact⟨p,by simpa using h,by simp[o];omega⟩
    ·rw[decide_eq_false V,cf]
     exact U fun h' S k=>by
      by_cases e:h'=p
      ·subst e;omega
      ·exact G h' (by omega) k
   cases p with
   | zero =>
    rw[show(decide (((0:Nat):Int)>0)==true)=false from rfl,cf]
    dsimp only
    rw[cf]
    rw[show(decide ((0:Nat)<0))=false from rfl,Bool.false_and,cond_false] at en
    rw[←en,up]
    simpa only[Aa h,ct,vz h,wB h] using fin
   | succ q =>
    have r0:=A6s (ks:=ks) (n:=n) ok q
    have r1:=A2e (ks:=ks) ok q
    have ge0:A7y (gE u ks n (q+1)) (q+1) (Bij u ks n (q+1)) (q+1)=Bij u ks n (q+1):=by simp[A7y]
    have ge1:A7y (gE u ks n (q+1)) (q+1) (Bij u ks n (q+1)) q=KW u ks n q:=by unfold A7y gE;rw[if_neg (by omega),if_pos (by omega)]
    have hq:q<n:=by omega
    rw[show(decide (((q+1:Nat):Int)>0)==true)=true by simp,ct,show IntKind.wrap .i64 (((q+1:Nat):Int) - 1)=(q:Int) by rw[i64 (by omega)];omega,Aa hq,ct,Ct (by omega)]
    rw[show decide (0<q+1)=true by simp,Bool.true_and,show Tc u ks (q+1)=Ei ks q from rfl,Nat.add_sub_cancel] at en
    rw[←Ro (by omega)]
    dsimp only
    cases Y:Ei ks q with
    | false =>
     rw[Y,cond_false] at en
     rw[show(cond true false false)=false from rfl,cf,←en,up]
     simpa only[Aa h,ct,vz h,wB h] using fin
    | true =>
     rw[Y,cond_true] at en
     rw[show(cond true true false)=true from rfl,ct]
     simp only[Aa h,Aa hq,ct,vz h,vz hq,wB h,wB hq,u6,u7,ge0,ge1,s1]
     rw[Bih h,ct,Ba8 h,i64 (a:=(KW u ks n q).lo - u.rampDown) (by omega),i64 (a:=(KW u ks n q).hi+u.rampUp) (by omega),←en]
     rw[BU (g:=A7y (A7y (gE u ks n (q+1)) (q+1) (Bij u ks n (q+1))) (q+1) (KW u ks n (q+1))) (g':=A7y (gE u ks n (q+1)) (q+1) (KW u ks n (q+1))) fun i _=>by
      unfold A7y;by_cases C:i=q+1<;>simp[C],up]
     simpa only[Aa h,ct,vz h,wB h] using fin
end
end
end Gx

namespace Gx
open Go Go.Proofs
section
variable {R:Type}
theorem jx {u:UnitD} {h:Int} (C:C7 u h=true):UOk u:=by
 simp only[C7,Bool.and_eq_true,Ft,decide_eq_true_eq] at C
 obtain⟨S,T,U,V,Y,h6,h7,h8,h9,D,F,G,I,L,k,M⟩:=C
 refine⟨by omega,by omega,by omega,fun hs=>?_⟩
 unfold A96 at k
 rw[show(u.state==2)=true by simpa using hs] at k
 simpa[Ft] using k
def rY (u:UnitD) (h:Int) (ks:List Int):Int :=
 cond (!C7 u h) 1 (cond ((ks.length:Int) != h) 4 (cond (!(Cz u 0 (Br u) ks).2) 16 (cond ((u.state==2&&!Ei ks 0)&&decide (u.output>u.stopRamp)) 7 (cond (Oo u ks ks.length) 7 0))))
section
variable {u:UnitD} {ks:List Int} {n:Nat}
theorem Bnb {f:Int→O R} (h:0<ks.length):Ao .i64 (Av ks) f=f ks[0]:=by
 have:=TQ (l:=ks) (i:=0) h (f:=f)
 rwa [List.drop_zero] at this
theorem Ahc {N:Nat} {X:O R} {K:Nat→Int→LA→O R} {h:Int} {g i o:Bool} (hl:u.away.l.length≤1000) (V:ks.length≤1000) (hN:4096≤N) (hn:n=ks.length)
  (C:rY u h ks=0→K n 0 (tb n (Q' u ks n))=X) (k:rY u h ks≠0→K 0 (rY u h ks) []=X):Rs N u.av o h (Av ks) n g i K=X:=by
 subst hn
 rw[VT];unfold AA
 rw[Cl,ct,Bg,iP (by omega) (by omega) (by omega)]
 unfold rY at C k
 cases M:C7 u h with
 | false=>rw[M] at k;exact k (by simp)
 | true =>
  rw[M] at C k
  have ok:=jx M
  obtain⟨hs,hu,hh⟩:=Ng M
  simp only[Bool.not_true,cond_false] at C k ⊢
  cases F:((ks.length:Int) != h) with
  | true=>rw[F] at k;exact k (by simp)
  | false =>
   rw[F] at C k
   have G:(ks.length:Int)=h:=by simpa using F
   have S:0<ks.length:=by omega
   rw[cf,ct]
   simp only[cond_false] at C k
   refine Ad4 (by omega) hs hl V rfl (fun T=>?_) (fun T=>?_)
   ·rw[T] at C k
    simp only[Bool.not_true,cond_false] at C k
    rw[show((0:Int) != 0)=false from rfl,cf,Bff,show Ac 0 ks.length=true by simp[Ac];omega,ct,Bnb S,Bln,u9]
    have D:cond ((u.state==2&&!Ei ks 0)&&decide (u.output>u.stopRamp)) 7 (cond (Oo u ks ks.length) 7 0)=cond (Oo u ks ks.length) 7 (0:Int)→N4 N K h (Av ks) ks.length g i o u.av=X:=by
     intro hc
     rw[hc] at C k
     unfold N4 Y0
     rw[←G,show((decide (0≤(ks.length:Int)))&&((decide ((ks.length:Int)≤(ks.length:Int)))&&((decide ((ks.length:Int)≤140737488355328))&&(decide (((ks.length:Int)*((16:Nat):Int))≤140737488355328)))))=true by simp;omega,ct,Int.toNat_natCast,Bj4]
     have:=A7d (N:=N) (K:=K) (f:=g) (e:=i) (d:=o) (X:=X) ok hu V S rfl (by omega) (fun U=>by rw[U] at k;exact k (by simp)) (fun U=>by rw[U] at C;exact C rfl) ks.length 0 N (by omega) (by omega) (by omega)
     rw[BU (g:=gE u ks ks.length 0) (g':=fun _=>⟨0,0⟩) fun i _=>by unfold gE;rw[if_neg (by omega)]] at this
     exact this
    rw[Ro S] at D k
    have e:(ks[0] != 2)=!(ks[0]==2):=rfl
    rw[e]
    cases I:(u.state==2) with
    | false=>rw[I] at D;exact D rfl
    | true =>
     rw[I] at D k
     cases L:(ks[0]==2) with
     | true=>rw[L] at D;exact D rfl
     | false =>
      rw[L] at D k
      cases Y:decide (u.output>u.stopRamp) with
      | false=>rw[Y] at D;exact D rfl
      | true=>rw[Y] at k;exact k (by simp)
   ·rw[T] at k
    exact k (by simp)
end
end
end Gx

namespace Gx
open Go Go.Proofs
section
variable {R:Type}
theorem zF {N:Nat} {X:O R} {k0:Nat→Int→LA→LA→O R} {K:Nat→LA→O R} {h:Int} {raw ks:List Int} {L:List StD} {u:UnitD} {s:StD} {g i b:Bool} {p:Nat} (S:u.away.l.length≤1000) (hN:1100≤N) (hL:L.length≤1000) (G:∀ t ∈ L,Sa u t) (hs:Cq u=true) (Y:p≤1000) (I:ks.length≤1000)
  (T:K ks.length (Av ks)=X) (U:∀ t:StD,Sa u t→k0 (ks.length+1) ((p+1:Nat):Int) (Av (ks++[t.k])) t.av=X):∀ (m j fuel:Nat) (C:List StD),j+m=L.length→m<fuel→C.length≤j→(∀ t ∈ C,Sa u t) →
  Oj N k0 K h (Av raw) raw.length g i L.length b u.av s.av (L.flatMap StD.av) fuel ks.length (p:Int) C.length (j:Int) (Av ks) (C.flatMap StD.av)=X
 | 0,j,fuel+1,C,hj,_,hC,M=>by
  rw[Oj];unfold W0
  rw[Kn (by omega),cf]
  by_cases h0:C.length=0
  ·rw[show(((C.length:Nat):Int)==0)=true by simpa using h0,ct];exact T
  ·rw[show(((C.length:Nat):Int)==0)=false by simpa using h0,cf]
   have pick:∀ (k:Nat) (G:k<C.length),(cond (Nat.ble 2 (List.length (List.drop (0+(Int.toNat (k:Int))*2) (C.flatMap StD.av)))) (cond ((Nat.beq (List.length (List.take 2 (List.drop (0+(Int.toNat (k:Int))*2) (C.flatMap StD.av)))) 2)&&((Nat.ble 2 (List.length s.av))&&(!false))) (Ao .i64 (setCells s.av 0 (List.take 2 (List.drop (0+(Int.toNat (k:Int))*2) (C.flatMap StD.av)))) fun ae=>(cond ((Nat.ble (ks.length+1) 140737488355328)&&(Nat.ble ((ks.length+1)*8) 140737488355328)) (k0 (ks.length+1) (IntKind.wrap .i64 ((p:Int)+1)) ((List.take (ks.length*1) (Av ks))++[(.int .i64 ae)]) (setCells s.av 0 (List.take 2 (List.drop (0+(Int.toNat (k:Int))*2) (C.flatMap StD.av))))) none)) none) none)=X:=by
    intro k G
    rw[j9 G,KO,ct,KP,Bk4,ct,Axv,d8,show((Nat.ble (ks.length+1) 140737488355328)&&(Nat.ble ((ks.length+1)*8) 140737488355328))=true by rw[Bool.and_eq_true,Nat.ble_eq,Nat.ble_eq];omega,ct,wS (by omega),Bfh]
    exact U _ (M _ (List.getElem_mem G))
   by_cases hr:p<raw.length
   ·rw[Iz hr,ct,Aa hr,ct,Ct hr]
    have F:(0:Int)<(C.length:Int):=by omega
    have e:Int.tmod (IntKind.wrap .i64 (Int.tmod raw[p] (C.length:Int)+(C.length:Int))) (C.length:Int)=(((raw[p]%(C.length:Int)).toNat:Nat):Int):=by
     rw[Aw8 F (by omega),Aoc F]
     have:=Int.emod_nonneg raw[p] (show(C.length:Int)≠0 by omega)
     omega
    have D:(raw[p]%(C.length:Int)).toNat<C.length:=by
     have:=Int.emod_lt_of_pos raw[p] F
     have:=Int.emod_nonneg raw[p] (show(C.length:Int)≠0 by omega)
     omega
    rw[cf,cf]
    simp only[e]
    rw[Aa D,ct]
    exact pick _ D
   ·rw[Kn (by omega),cf,show Ac 0 C.length=true by simp[Ac];omega,ct]
    exact pick 0 (by omega)
 | m+1,j,fuel+1,C,hj,hf,hC,M=>by
  rw[Oj];unfold W0
  have D:j<L.length:=by omega
  have ho:=G L[j] (List.getElem_mem D)
  rw[Iz D,ct,Cl,ct,Aa D,ct,j9 D,Bie,Bg,vw S hN (yu hs ho).2.2,wS (by omega)]
  cases rR u p L[j].k with
  | false=>rw[cf];exact zF S hN hL G hs Y I T U m (j+1) fuel C (by omega) (by omega) (by omega) M
  | true =>
   rw[ct,ct,KO,ct,KP,show ∀ t:StD,((Nat.beq (List.length t.av) 2)&&(Nat.ble 2 2))=true from fun _=>rfl,ct,Bfg (by omega),ct,Bgm,Agr,VG]
   have:=zF (N:=N) (k0:=k0) (h:=h) (raw:=raw) (g:=g) (i:=i) (b:=b) (s:=s) S hN hL G hs Y I T U m (j+1) fuel (C++[L[j]]) (by omega) (by omega) (by simp;omega) (fun t ht=>by
    rcases List.mem_append.1 ht with V | V
    ·exact M t V
    ·rw[List.mem_singleton.1 V];exact ho)
   rw[List.length_append] at this
   exact this
theorem Aep {N:Nat} {X:O R} {K:Nat→LA→O R} {h:Int} {raw:List Int} {u:UnitD} {g i b:Bool} (F:u.away.l.length≤1000) (hN:1100≤N) (hs:Cq u=true) (I:h≤1000) (H:∀ ks:List Int,ks.length≤h→K ks.length (Av ks)=X):∀ (m fuel:Nat) (ks:List Int) (s:StD),ks.length+m=h→m<fuel→Sa u s →
  Hn N K h (Av raw) raw.length g i b u.av fuel ks.length (ks.length:Int) (Av ks) s.av=X
 | 0,fuel+1,ks,s,M,_,_=>by
  rw[Hn];unfold W1
  rw[show decide ((ks.length:Int)<h)=false by simp;omega,show(false==true)=false from rfl,cf]
  exact H ks (by omega)
 | m+1,fuel+1,ks,s,M,T,D=>by
  rw[Hn];unfold W1
  rw[show decide ((ks.length:Int)<h)=true by simp;omega,show(true==true)=true from rfl,ct,Cl,ct,Bg,Lh,hs,show(cond true true false)=true from rfl]
  dsimp only
  rw[ct]
  unfold Z9 LC
  rw[Cl,ct,eh,ct,Bg,Agr,QY hN hs D]
  have:=VF (u:=u) (s:=s)
  refine zF (L:=Gv u s) (C:=[]) F hN (by omega) (j8 hs D) hs (by omega) (by omega) (H ks (by omega)) (fun t S=>?_) (Gv u s).length 0 N (by omega) (by omega) (by simp) (by simp)
  have G:=Aep (N:=N) (K:=K) (raw:=raw) (g:=g) (i:=i) (b:=b) F hN hs I H m fuel (ks++[t.k]) t (by simp;omega) (by omega) S
  rw[List.length_append] at G
  exact G
theorem Bf8 {N:Nat} {X:O R} {K:Nat→LA→O R} {h:Int} {raw:List Int} {u:UnitD} {g i b:Bool} {n:Nat} (hn:n=raw.length) (k:u.away.l.length≤1000) (hN:1100≤N) (hs:Cq u=true) (C:0≤h∧h≤1000) (H:∀ ks:List Int,ks.length≤h→K ks.length (Av ks)=X):Yy N u.av b h (Av raw) n g i K=X:=by
 subst hn
 rw[jo];unfold PQ
 rw[Cl,ct,Bg,Rm hs,show ∀ t:StD,((Nat.beq (List.length t.av) 2)&&((Nat.ble 2 2)&&(!false)))=true from fun _=>rfl,ct,Bgm]
 exact Aep k hN hs C.2 H h.toNat N [] (Br u) (by simp;omega) (by omega) (Rl hs)
theorem Ax4 {N:Nat} {K:Int→O R} {raw:List Int} {g i:Bool} {n:Nat} {a c:Int} (hn:n=raw.length) (D:0≤a) (F:c≤1000000000):∃ v:Int,0≤v∧(v=0∨v≤c)∧∀ K:Int→O R,VW N (Av raw) n g i a c K=K v:=by
 subst hn
 by_cases k:a≥(raw.length:Int)
 ·refine⟨0,by omega,.inl rfl,fun K=>?_⟩
  rw[F_];unfold VV
  rw[decide_eq_true k];rfl
 ·by_cases C:c≤0
  ·refine⟨0,by omega,.inl rfl,fun K=>?_⟩
   rw[F_];unfold VV
   rw[decide_eq_false k,decide_eq_true C];rfl
  ·have hi:a.toNat<raw.length:=by omega
   obtain⟨j,rfl⟩:∃ j:Nat,a=j:=⟨a.toNat,by omega⟩
   rw[Int.toNat_natCast] at hi
   refine⟨IntKind.wrap .i64 (Int.tdiv raw[j] 3)%(c+1),Int.emod_nonneg _ (by omega),.inr (by have:=Int.emod_lt_of_pos (IntKind.wrap .i64 (Int.tdiv raw[j] 3)) (show 0<c+1 by omega);omega),fun K=>?_⟩
   rw[F_];unfold VV
   rw[decide_eq_false k,decide_eq_false C,show(false==false)=true from rfl,ct,show(cond false true false)=false from rfl,cf,Aa hi,ct,Ct hi,i64 (a:=c+1) (by omega),Bhg (by omega) (by omega)]
end
end Gx

namespace Gx
open Go Go.Proofs
section
variable {R:Type}
def Aeq (p:PlanD) (c:Int):Bool:=decide ((p.st.l.length:Int)=c)&&(decide ((p.en.l.length:Int)=c)&&decide ((p.re.l.length:Int)=c))
def ej (u:UnitD) (c:Int) (p:PlanD):Int×Int:=cond (C7 u c) (cond (Aeq p c) (Ax2 u 0 (Br u) (u.state==2) (u.output:Rat) p.st.l p.en.l p.re.l) (0,4)) (0,1)
theorem CT (a b:Int):(a != b)=!decide (a=b):=by by_cases h:a=b<;>simp[h]
theorem wq {u:UnitD}:∀ {ks:List Int} {es rs:List RatD} {h:Int} {s:StD} {was:Bool} {v:Rat},es.length=ks.length→rs.length=ks.length→(Ax2 u h s was v ks es rs).2=0→(Cz u h s ks).2=true
 | [],_,_,_,_,_,_,_,_,_=>rfl
 | k::ks,e::es,r::rs,h,s,was,v,F,G,C=>by
  rw[Ax2] at C
  rw[Cz]
  cases D:Wy u h s k with
  | none=>rw[D] at C;simp at C
  | some t =>
   rw[D] at C
   dsimp only at C ⊢
   cases hr:CQ u (k==2) e.q r.q with
   | false=>rw[hr] at C;simp at C
   | true =>
    cases hq:jj u was (k==2) v e.q r.q with
    | false=>rw[hr,hq] at C;simp at C
    | true =>
     rw[hr,hq] at C
     exact wq (by simpa using F) (by simpa using G) C
 | k::ks,[],_,_,_,_,_,F,_,_=>by simp at F
 | k::ks,e::es,[],_,_,_,_,_,G,_=>by simp at G
theorem Bcx {u:UnitD}:∀ {ks:List Int} {es rs:List RatD} {h:Int} {s:StD} {was:Bool} {v:Rat},es.length=ks.length→rs.length=ks.length→(Ax2 u h s was v ks es rs).2=0→∀ i (F:i<ks.length) (G:i<es.length),ks[i]=2→(u.min:Rat)≤es[i].q
 | [],_,_,_,_,_,_,_,_,_,i,h,_,_=>by simp at h
 | k::ks,e::es,r::rs,h,s,was,v,F,G,C,i,hi,I,L=>by
  rw[Ax2] at C
  cases D:Wy u h s k with
  | none=>rw[D] at C;simp at C
  | some t =>
   rw[D] at C
   dsimp only at C
   cases hr:CQ u (k==2) e.q r.q with
   | false=>rw[hr] at C;simp at C
   | true =>
    cases hq:jj u was (k==2) v e.q r.q with
    | false=>rw[hr,hq] at C;simp at C
    | true =>
     rw[hr,hq] at C
     rcases i with _ | i
     ·simp only[List.getElem_cons_zero] at L ⊢
      unfold CQ at hr
      rw[show(k==2)=true by simpa using L] at hr
      simp only[cond_true,Bool.and_eq_true,decide_eq_true_eq] at hr
      exact hr.1
     ·exact Bcx (by simpa using F) (by simpa using G) C i (by simpa using hi) (by simpa using I) (by simpa using L)
 | k::ks,[],_,_,_,_,_,F,_,_,_,_,_,_=>by simp at F
 | k::ks,e::es,[],_,_,_,_,_,G,_,_,_,_,_=>by simp at G
def A2n (u:UnitD):StD→List StD→Prop
 | _,[]=>True
 | s,t::r=>t ∈ Gv u s∧A2n u t r
theorem rZ {u:UnitD} (hs:Cq u=true):∀ {ks:List Int} {h:Int} {s:StD},Sa u s→A2n u s (Cz u h s ks).1
 | [],_,_,_=>trivial
 | k::ks,h,s,D=>by
  rw[Cz]
  cases C:Wy u h s k with
  | none=>trivial
  | some t =>
   have:=j_ hs D C
   exact⟨this.2.2.1,rZ hs this.1⟩
theorem jy {u:UnitD}:∀ {ks:List Int} {h:Int} {s:StD},(Cz u h s ks).2=true→(Cz u h s ks).1.length=ks.length
 | [],_,_,_=>rfl
 | k::ks,h,s,D=>by
  rw[Cz] at D ⊢
  cases C:Wy u h s k with
  | none=>rw[C] at D;cases D
  | some t =>
   rw[C] at D
   dsimp only at D ⊢
   rw[List.length_cons,jy D,List.length_cons]
section
variable {N:Nat} {u:UnitD} {p:PlanD} {f e:Bool} {c:Int}
theorem RD {K:Int→Int→O R} (hN:4000≤N) (L:fit 2000 N) (M:u.away.l.length≤1000) (oe:okR p.en.l) (or:okR p.re.l):BP N u.av f c p.av e K=K (ej u c p).1 (ej u c p).2:=by
 rw[vY];unfold lJ ej
 rw[Cl,ct,Bg,Zf (by omega) (by omega) (by omega)]
 cases S:C7 u c with
 | false=>rfl
 | true =>
  obtain⟨hs,G,Y⟩:=Ng S
  rw[show(!true)=false from rfl,cf,p0,p1,p2,CT,CT,CT]
  unfold Aeq
  by_cases k:(p.st.l.length:Int)=c
  ·by_cases D:(p.en.l.length:Int)=c
   ·by_cases I:(p.re.l.length:Int)=c
    ·simp only[k,D,I,decide_true,Bool.not_true,beq_self_eq_true,Bmw,cf,Bool.and_self,cond_true]
     unfold PE ZO
     rw[Cl,ct,p0,Bg]
     have F:=G
     unfold uR at F
     have fin:∀ (j lf:Int),lf=cond (Cz u 0 (Br u) p.st.l).2 0 16→((Cz u 0 (Br u) p.st.l).2=false→j=(Cz u 0 (Br u) p.st.l).1.length)→(Ao .i64 (List.drop 19 u.av) fun ak=>(Ao .i64 (List.drop 21 u.av) fun al=>(Cb N al (fun x=>(cond ((Nat.beq 0 0)&&((Nat.beq (List.length x) 3)&&(Nat.beq 3 3))) (L0 N K c j lf f u.av e p.av N (ak==(2:Int)) 0 false x) none)))))=K (Ax2 u 0 (Br u) (u.state==2) (u.output:Rat) p.st.l p.en.l p.re.l).1 (Ax2 u 0 (Br u) (u.state==2) (u.output:Rat) p.st.l p.en.l p.re.l).2:=by
      intro j lf T U
      rw[Bff,Bln]
      refine It (by omega) (by omega) fun x V=>?_
      rw[c3,ct]
      have:=Aug (R:=R) (N:=N) (n:=p.st.l.length) (K:=K) (f:=f) (e:=e) (j:=j) (lf:=lf) (by omega) L hs G rfl (by omega) (by omega) (by omega) oe or p.st.l.length 0 N (Br u) (u.state==2) (u.output:Rat) x false (by omega) (by omega) (Rl hs) (V.is (by have:=qi (v:=u.output) (by omega);omega)) (by simpa using T) (by simpa using U)
      rw[k] at this
      exact this
     refine Aqa (by omega) hs M (by omega) rfl (fun C=>?_) (fun C=>?_)
     ·exact fin _ _ (by rw[C];rfl) (fun h=>by rw[C] at h;cases h)
     ·exact fin _ _ (by rw[C];rfl) (fun _=>rfl)
    ·simp[k,D,I]
   ·simp[k,D]
  ·simp[k]
theorem jz {K:Int→Int→O R} (hN:4000≤N) (F:fit 2000 N) (G:u.away.l.length≤1000) (oe:okR p.en.l) (or:okR p.re.l):Yv N u.av f c p.av e K=K (ej u c p).1 (ej u c p).2:=by
 rw[pT];unfold ZT ej
 rw[Cl,ct,Bg,iP (by omega) (by omega) (by omega)]
 cases I:C7 u c with
 | false=>rfl
 | true =>
  obtain⟨hs,L,M⟩:=Ng I
  rw[show(!true)=false from rfl,cf,p0,p1,p2,CT,CT,CT]
  unfold Aeq
  by_cases k:(p.st.l.length:Int)=c
  ·by_cases C:(p.en.l.length:Int)=c
   ·by_cases D:(p.re.l.length:Int)=c
    ·simp only[k,C,D,decide_true,Bool.not_true,beq_self_eq_true,Bmw,cf,Bool.and_self,cond_true]
     unfold FV QZ
     rw[Cl,ct,Bg,Rm hs,Adv,ct,Bgm]
     have:=Aqp (R:=R) (N:=N) (n:=p.st.l.length) (K:=K) (f:=f) (e:=e) hN F hs L G rfl (by omega) (by omega) (by omega) oe or p.st.l.length 0 N (Br u) (by omega) (by omega) (Rl hs)
     rw[k] at this
     exact this
    ·simp[k,C,D]
   ·simp[k,C]
  ·simp[k]
end
end
end Gx

namespace Gx
open Go Go.Proofs
set_option maxRecDepth 100000
section
variable {R:Type}
def Bj6 (u:UnitD) (e r:Rat):Rat:=(u.noLoad:Rat)+Rx (e - (u.min:Rat)) u.segs.l+(u.reservePrice:Rat)*r
def N5 (u:UnitD):StD→List StD→List Int→List RatD→List RatD→Rat
 | s,t::ts,k::ks,e::es,r::rs=>((Rz u s t:Int):Rat)+cond (k==2) (Bj6 u e.q r.q) 0+N5 u t ts ks es rs
 | _,_,_,_,_=>0
def Ui (u:UnitD):StD→List StD→Int
 | _,[]=>0
 | s,t::ts=>Rz u s t+Ui u t ts
def A7e (u:UnitD):List Int→List RatD→List RatD→Rat
 | k::ks,e::es,r::rs=>cond (k==2) (Bj6 u e.q r.q) 0+A7e u ks es rs
 | _,_,_=>0
theorem A7f {u:UnitD}:∀ {ts:List StD} {s:StD} {ks:List Int} {es rs:List RatD},ks.length=ts.length→es.length=ts.length→rs.length=ts.length→N5 u s ts ks es rs=((Ui u s ts:Int):Rat)+A7e u ks es rs
 | [],x,[],[],[],_,_,_=>by
  have C:N5 u x [] [] [] []=0:=by rw[N5];intros;simp_all
  have D:A7e u [] [] []=0:=by rw[A7e];intros;simp_all
  rw[C,D,Ui,Rat.add_zero];rfl
 | t::ts,s,k::ks,e::es,r::rs,C,D,F=>by
  rw[N5,Ui,A7e,A7f (by simpa using C) (by simpa using D) (by simpa using F),Rat.intCast_add]
  grind
theorem Ahx {u:UnitD} (C:uR u) (s t:StD):0≤Rz u s t∧Rz u s t≤1048576:=by
 unfold uR at C;unfold Rz
 cases (s.k==0&&!(t.k==0))<;>cases decide (s.h≤u.hotHours)<;>simp<;>omega
theorem A2o {u:UnitD} {c:Int} {e:Rat} (k:C7 u c=true) (D:qm e≤5):qm (Rx (e - (u.min:Rat)) u.segs.l)≤600:=by
 have F:=lG k
 have C:=Pw k
 have hq:qm (e - (u.min:Rat))≤8:=by have:=Yl e (u.min:Rat);have:=qi (v:=u.min) (by omega);omega
 have:=Aoz (A:=8) u.segs.l _ (GR k) (by omega) hq
 have G:u.segs.l.length*(8+3*u.segs.l.length+31)≤8*(8+24+31):=Nat.mul_le_mul C.1 (by omega)
 omega
theorem Bik (s:StD):((Nat.beq (List.length s.av) 2)&&(true&&(!false)))=true:=rfl
section
variable {N n:Nat} {u:UnitD} {p:PlanD} {f e:Bool} {c:Int}
theorem A2p {X:O R} {K:LA→Int→O R} {ts:List StD} (hN:4000≤N) (G:fit 1000000 N) (M:C7 u c=true) (hc:c=n) (hk:p.st.l.length=n) (he:p.en.l.length=n) (hr:p.re.l.length=n) (ht:ts.length=n) (oe:okR p.en.l) (or:okR p.re.l):∀ (m h fuel:Nat) (s:StD) (x:RatD) (q:Rat),h+m=n→m<fuel→Sa u s→A2n u s (ts.drop h)→x.can q→qm q≤2+h*700 →
  (∀ d:RatD,d.can (q+N5 u s (ts.drop h) (p.st.l.drop h) (p.en.l.drop h) (p.re.l.drop h))→K d.av 0=X) →
  Ue N K n c f u.av e p.av (ts.flatMap StD.av) fuel (h:Int) x.av s.av=X:=by
 obtain⟨hs,hu,hc24⟩:=Ng M
 intro m
 induction m with
 | zero =>
  intro h fuel s x q hh U _ _ V _ hX
  obtain⟨fuel,rfl⟩:∃ k,fuel=k+1:=⟨fuel - 1,by omega⟩
  rw[Ue];unfold PH
  rw[show decide ((h:Int)<c)=false by simp;omega,cf]
  refine hX x ?_
  rw[Dz (l:=ts) (by omega),N5,Rat.add_zero]
  ·exact V
  ·intro t ts k ks e es r rs I;cases I
 | succ m ih =>
  intro h fuel s x q hh U L C V hq hX
  obtain⟨fuel,rfl⟩:∃ k,fuel=k+1:=⟨fuel - 1,by omega⟩
  rw[Ue];unfold PH
  have I:h<p.st.l.length:=by omega
  have S:h<p.en.l.length:=by omega
  have T:h<p.re.l.length:=by omega
  have h4:h<ts.length:=by omega
  have e1:=oe.at S
  have r1:=or.at T
  have hsr:=Ahx hu s ts[h]
  have Y:=hu
  unfold uR at Y
  rw[Bs h4] at C hX
  rw[Bs I,Bs S,Bs T,N5] at hX
  have F:Sa u ts[h]:=j8 hs L _ C.1
  have hhn:h*700≤24*700:=Nat.mul_le_mul_right _ (by omega)
  rw[show decide ((h:Int)<c)=true by simp;omega,ct,b3,ct,Cl,ct,eh,ct,Aa (show h<n by omega),ct,j9 h4,KO,ct,Bg,Agr,KP,Aqn (by omega) hs L C.1]
  refine It (by omega) (by omega) fun a ha=>?_
  rw[LO]
  refine Aor V ha (G.le (by have:=qi (v:=Rz u s ts[h]) (by omega);omega)) fun y hy=>?_
  have hqy:qm (q+((Rz u s ts[h]:Int):Rat))≤2+h*700+3:=by have:=G4 q ((Rz u s ts[h]:Int):Rat);have:=qi (v:=Rz u s ts[h]) (by omega);omega
  simp only[Bfw,b3,LO,ct,rI,Axv,Bik]
  rw[p0,Aa I,ct,Ct I,wS (by omega)]
  by_cases D:p.st.l[h]=2
  ·rw[show(p.st.l[h] != 2)=false by simp[D],cf,u5]
   rw[show(p.st.l[h]==2)=true by simpa using D] at hX
   refine It (by omega) (by omega) fun b hb=>?_
   refine Aor hy hb (G.le (by have:=qi (v:=u.noLoad) (by omega);omega)) fun y2 hy2=>?_
   have hq2:qm (q+((Rz u s ts[h]:Int):Rat)+(u.noLoad:Rat))≤2+h*700+6:=by have:=G4 (q+((Rz u s ts[h]:Int):Rat)) (u.noLoad:Rat);have:=qi (v:=u.noLoad) (by omega);omega
   simp only[Bfw,b3,LO,ct,rI]
   rw[p1,Aa S,ct,Ne S,ji,ct,KX]
   refine Aos e1 (GR M) (Pw M).1 (by omega) (G.le (by omega)) fun sc hsc=>?_
   have hqs:=A2o (e:=p.en.l[h].q) M (by have:=e1.qm;omega)
   refine Aor hy2 hsc (G.le (by omega)) fun y3 hy3=>?_
   have hq3:=G4 (q+((Rz u s ts[h]:Int):Rat)+(u.noLoad:Rat)) (Rx (p.en.l[h].q - (u.min:Rat)) u.segs.l)
   simp only[Bfw,b3,LO,ct,rI]
   rw[Bnk,p2,Aa T,ct,Ne T,ji,ct,KX]
   rw[YG];unfold lA
   refine It (by omega) (by omega) fun rp hrp=>?_
   rw[b3,ct,LO]
   refine A2g (hrp.is (qi (by omega))) r1 (G.le (by omega)) fun mu hmu=>?_
   have hqm:=QS ((u.reservePrice:Int):Rat) p.re.l[h].q
   have hqr:=r1.qm
   have hqp:=qi (v:=u.reservePrice) (by omega)
   simp only[c3,b3,LO,ct]
   refine Aor hy3 hmu (G.le (by omega)) fun y4 hy4=>?_
   have hq4:=G4 (q+((Rz u s ts[h]:Int):Rat)+(u.noLoad:Rat)+Rx (p.en.l[h].q - (u.min:Rat)) u.segs.l) ((u.reservePrice:Rat)*p.re.l[h].q)
   simp only[Bfw,ct,rI]
   refine ih (h+1) fuel ts[h] y4 _ (by omega) (by omega) F C.2 hy4 (by rw[Nat.add_mul];omega) fun d hd=>hX d ?_
   have:q+(((Rz u s ts[h]:Int):Rat)+cond true (Bj6 u p.en.l[h].q p.re.l[h].q) 0+N5 u ts[h] (ts.drop (h+1)) (p.st.l.drop (h+1)) (p.en.l.drop (h+1)) (p.re.l.drop (h+1)))=q+((Rz u s ts[h]:Int):Rat)+(u.noLoad:Rat)+Rx (p.en.l[h].q - (u.min:Rat)) u.segs.l+(u.reservePrice:Rat)*p.re.l[h].q+N5 u ts[h] (ts.drop (h+1)) (p.st.l.drop (h+1)) (p.en.l.drop (h+1)) (p.re.l.drop (h+1)):=by
    rw[cond_true,Bj6];grind
   rw[this];exact hd
  ·rw[show(p.st.l[h] != 2)=true by simp[D],ct]
   rw[show(p.st.l[h]==2)=false by simpa using D] at hX
   refine ih (h+1) fuel ts[h] y _ (by omega) (by omega) F C.2 hy (by rw[Nat.add_mul];omega) fun d hd=>hX d ?_
   rw[cond_false,Rat.add_zero,←Rat.add_assoc];exact hd
theorem Bil {K:Int→O R} {ts:List StD} (hN:1100≤N) (hs:Cq u=true) (L:uR u) (U:ts.length≤1000):∀ (m h fuel:Nat) (s:StD) (g:Int),h+m=ts.length→m<fuel→Sa u s→A2n u s (ts.drop h)→(0≤g∧g≤1048576*(h:Int)) →
  Fg N K ts.length f u.av (ts.flatMap StD.av) fuel g (h:Int) s.av=K (g+Ui u s (ts.drop h)):=by
 intro m
 induction m with
 | zero =>
  intro h fuel s g M I _ _ _
  obtain⟨fuel,rfl⟩:∃ k,fuel=k+1:=⟨fuel - 1,by omega⟩
  rw[Fg];unfold Nh
  rw[Kn (by omega),cf,Dz (l:=ts) (by omega),Ui,Int.add_zero]
 | succ m S =>
  intro h fuel s g M I D C V
  obtain⟨fuel,rfl⟩:∃ k,fuel=k+1:=⟨fuel - 1,by omega⟩
  rw[Fg];unfold Nh
  have F:h<ts.length:=by omega
  have T:=Ahx L s ts[h]
  rw[Bs F] at C
  have G:Sa u ts[h]:=j8 hs D _ C.1
  rw[Iz F,ct,Cl,ct,eh,ct,Aa F,ct,j9 F,KO,ct,Bg,Agr,KP,Agx hN hs D C.1]
  simp only[ct,Bik,Axv]
  rw[i64 (by omega),wS (by omega),S (h+1) fuel ts[h] _ (by omega) (by omega) G C.2 (by omega),Bs F,Ui,Int.add_assoc]
theorem Ahd {K:Int→O R} {ks:List Int} {i j:Bool} (hN:1100≤N) (hs:Cq u=true) (C:uR u) (D:u.away.l.length≤1000) (F:ks.length≤1000) (k:(Cz u 0 (Br u) ks).2=true):Lp N u.av f (Av ks) ks.length i j K=K (Ui u (Br u) (Cz u 0 (Br u) ks).1):=by
 rw[KZ];unfold Tv
 rw[Cl,ct,Bg]
 refine Ad4 hN hs D F rfl (fun _=>?_) (fun h=>by rw[k] at h;cases h)
 rw[ct,Rm hs,Adv,ct,Bgm]
 have G:=jy k
 have:=Bil (R:=R) (N:=N) (K:=K) (f:=f) (ts:=(Cz u 0 (Br u) ks).1) hN hs C (by omega) (Cz u 0 (Br u) ks).1.length 0 N (Br u) 0 (by omega) (by omega) (Rl hs) (by rw[List.drop_zero];exact rZ hs (Rl hs)) (by omega)
 rw[List.drop_zero,Int.zero_add,G] at this
 exact this
theorem Aus {K:LA→Int→O R} (hN:4000≤N) (G:fit 1000000 N) (I:C7 u c=true) (hc:c=n) (hk:p.st.l.length=n) (he:p.en.l.length=n) (hr:p.re.l.length=n) (oe:okR p.en.l) (or:okR p.re.l) (L:∀ i (C:i<p.st.l.length) (F:i<p.en.l.length),p.st.l[i]=2→(u.min:Rat)≤p.en.l[i].q):∀ (m h fuel:Nat) (q:Rat),h+m=n→m<fuel→qm q≤2+h*700 →
  Qf N K c f u.av e p.av fuel (h:Int) (TU q).av=K (TU (q+A7e u (p.st.l.drop h) (p.en.l.drop h) (p.re.l.drop h))).av 0:=by
 obtain⟨hs,hu,hc24⟩:=Ng I
 intro m
 induction m with
 | zero =>
  intro h fuel q hh S _
  obtain⟨fuel,rfl⟩:∃ k,fuel=k+1:=⟨fuel - 1,by omega⟩
  rw[Qf];unfold FY
  rw[show decide ((h:Int)<c)=false by simp;omega,cf,Dz (l:=p.st.l) (by omega),A7e,Rat.add_zero]
  ·rfl
  ·intro k ks e es r rs C;cases C
 | succ m ih =>
  intro h fuel q hh S hq
  obtain⟨fuel,rfl⟩:∃ k,fuel=k+1:=⟨fuel - 1,by omega⟩
  rw[Qf];unfold FY
  have C:h<p.st.l.length:=by omega
  have F:h<p.en.l.length:=by omega
  have M:h<p.re.l.length:=by omega
  have e1:=oe.at F
  have r1:=or.at M
  have T:=hu
  unfold uR at T
  have hhn:h*700≤24*700:=Nat.mul_le_mul_right _ (by omega)
  rw[show decide ((h:Int)<c)=true by simp;omega,ct,p0,Aa C,ct,Ct C,wS (by omega)]
  rw[Bs C,Bs F,Bs M,A7e]
  by_cases D:p.st.l[h]=2
  ·rw[show(p.st.l[h]==2)=true by simpa using D,ct,cond_true]
   simp only[b3,LO,ct,Cl,Bg,u5,Bnk,p1,p2,Aa F,Aa M,Ne F,Ne M,ji,KX]
   have U:=qi (v:=u.noLoad) (by omega)
   have V:=qi (v:=u.reservePrice) (by omega)
   have hq1:=G4 q (u.noLoad:Rat)
   rw[Ry (by omega) hN,Atk (Km hq) (Km U) (G.le (by omega)),A0u e1 (GR I) (Pw I).1 (by omega) (G.le (by omega)) hN,Ry (by omega) hN]
   have hp:0≤p.en.l[h].q - (u.min:Rat):=(Rat.le_iff_sub_nonneg _ _).1 (L h C F D)
   rw[A5z (fun s hs=>by have:=A0v (Pw I).2.1 s hs;omega) hp]
   have Y:=A2o (e:=p.en.l[h].q) I (by have:=e1.qm;omega)
   have hqm:=QS ((u.reservePrice:Int):Rat) p.re.l[h].q
   have hqr:=r1.qm
   rw[Blz (Km V) r1 (G.le (by omega))]
   have hq2:=G4 (Rx (p.en.l[h].q - (u.min:Rat)) u.segs.l) ((u.reservePrice:Rat)*p.re.l[h].q)
   rw[Atk (Km Y) (Km (m:=7) (by omega)) (G.le (by omega))]
   rw[Atk (Km (m:=2+h*700+3) (by omega)) (Km (m:=608) (by omega)) (G.le (by omega))]
   have hq3:=G4 (q+(u.noLoad:Rat)) (Rx (p.en.l[h].q - (u.min:Rat)) u.segs.l+(u.reservePrice:Rat)*p.re.l[h].q)
   simp only[Bfw,ct,rI]
   rw[ih (h+1) fuel _ (by omega) (by omega) (by rw[Nat.add_mul];omega)]
   congr 2
   unfold Bj6
   grind
  ·rw[show(p.st.l[h]==2)=false by simpa using D,cf,cond_false,Rat.zero_add,ih (h+1) fuel q (by omega) (by omega) (by rw[Nat.add_mul];omega)]
theorem A7g (h:(ej u c p).2=0):C7 u c=true∧Aeq p c=true∧(Ax2 u 0 (Br u) (u.state==2) (u.output:Rat) p.st.l p.en.l p.re.l).2=0:=by
 unfold ej at h
 cases k:C7 u c with
 | false=>rw[k] at h;simp at h
 | true =>
  cases C:Aeq p c with
  | false=>rw[k,C] at h;simp at h
  | true=>rw[k,C] at h;exact⟨rfl,rfl,h⟩
theorem Aqy (h:Aeq p c=true):(p.st.l.length:Int)=c∧(p.en.l.length:Int)=c∧(p.re.l.length:Int)=c:=by
 simpa[Aeq] using h
def Aqz (u:UnitD) (c:Int) (p:PlanD):Rat:=cond ((ej u c p).2==0) (N5 u (Br u) (Cz u 0 (Br u) p.st.l).1 p.st.l p.en.l p.re.l) 0
theorem Aq0 {X:O R} {K:LA→Int→O R} (hN:4000≤N) (G:fit 1000000 N) (I:u.away.l.length≤1000) (oe:okR p.en.l) (or:okR p.re.l) (h:∀ d:RatD,d.is (Aqz u c p) (qm (Aqz u c p))→K d.av (ej u c p).2=X):ZU N u.av f c p.av e K=X:=by
 rw[Adx];unfold vr
 rw[Cl,ct,Bgn,ct,Bg,Bgo,RD hN (G.le (by omega)) I oe or]
 by_cases k:(ej u c p).2=0
 ·obtain⟨L,S,C⟩:=A7g k
  obtain⟨hs,U,V⟩:=Ng L
  obtain⟨l1,l2,l3⟩:=Aqy S
  have M:=wq (by omega) (by omega) C
  have D:=jy M
  rw[show((ej u c p).2 != 0)=false by simp[k],cf,ct,p0]
  refine Aqa (by omega) hs I (by omega) rfl (fun _=>?_) (fun h=>by rw[M] at h;cases h)
  rw[show((0:Int) != 0)=false from rfl,cf]
  refine It (by omega) (by omega) fun x T=>?_
  rw[c3,ct,ct,d9 (by omega) hs,Adv,ct,Bgm]
  refine A2p (n:=p.st.l.length) hN G L (by omega) rfl (by omega) (by omega) D oe or p.st.l.length 0 N (Br u) x ((0:Int):Rat) (by omega) (by omega) (Rl hs) (by rw[List.drop_zero];exact rZ hs (Rl hs)) T (by have:=qi (v:=0) (by omega);omega) fun d F=>?_
  simp only[List.drop_zero] at F
  rw[show(((0:Int):Rat))=0 from rfl,Rat.zero_add] at F
  have e:Aqz u c p=N5 u (Br u) (Cz u 0 (Br u) p.st.l).1 p.st.l p.en.l p.re.l:=by unfold Aqz;rw[k];rfl
  have:=h d (by rw[e];exact F.is (Nat.le_refl _))
  rw[k] at this;exact this
 ·rw[show((ej u c p).2 != 0)=true by simp[k],ct]
  have e:Aqz u c p=0:=by unfold Aqz;rw[show((ej u c p).2==0)=false by simpa using k];rfl
  exact h TV (by rw[e];exact Ks)
theorem Aer {X:O R} {K:LA→Int→O R} (hN:4000≤N) (F:fit 1000000 N) (G:u.away.l.length≤1000) (oe:okR p.en.l) (or:okR p.re.l) (h:∀ d:RatD,d.is (Aqz u c p) (qm (Aqz u c p))→K d.av (ej u c p).2=X):LB N u.av f c p.av e K=X:=by
 rw[wK];unfold lN
 rw[Cl,ct,Bgn,ct,Bg,Bgo,jz hN (F.le (by omega)) G oe or]
 by_cases k:(ej u c p).2=0
 ·obtain⟨I,T,C⟩:=A7g k
  obtain⟨hs,L,Y⟩:=Ng I
  obtain⟨l1,l2,l3⟩:=Aqy T
  have M:=wq (by omega) (by omega) C
  have U:=jy M
  rw[show((ej u c p).2 != 0)=false by simp[k],cf,ct,p0,Ahd (by omega) hs L G (by omega) M]
  have D:∀ (ts:List StD) (s:StD),ts.length≤24→-9223372036854775808≤Ui u s ts∧Ui u s ts≤9223372036854775807:=by
   have key:∀ (ts:List StD) (s:StD),0≤Ui u s ts∧Ui u s ts≤1048576*(ts.length:Int):=by
    intro ts
    induction ts with
    | nil=>intro s;simp[Ui]
    | cons t ts V=>intro s;have:=V t;have:=Ahx L s t;simp only[Ui,List.length_cons];omega
   intro ts s ht
   have:=key ts s;omega
  have S:=D (Cz u 0 (Br u) p.st.l).1 (Br u) (by omega)
  rw[Ry S hN,c3,ct]
  have:=Aus (R:=R) (N:=N) (n:=p.st.l.length) (K:=K) (f:=f) (e:=e) hN F I (by omega) rfl (by omega) (by omega) oe or (Bcx (by omega) (by omega) C) p.st.l.length 0 N ((Ui u (Br u) (Cz u 0 (Br u) p.st.l).1:Int):Rat) (by omega) (by omega) (by have:=qi S;omega)
  simp only[List.drop_zero] at this
  refine Eq.trans this ?_
  rw[←A7f (by omega) (by omega) (by omega)]
  have e:Aqz u c p=N5 u (Br u) (Cz u 0 (Br u) p.st.l).1 p.st.l p.en.l p.re.l:=by unfold Aqz;rw[k];rfl
  have:=h (TU (Aqz u c p)) (Km (Nat.le_refl _))
  rw[k,e] at this;exact this
 ·rw[show((ej u c p).2 != 0)=true by simp[k],ct]
  have e:Aqz u c p=0:=by unfold Aqz;rw[show((ej u c p).2==0)=false by simpa using k];rfl
  exact h TV (by rw[e];exact Ks)
end
end
end Gx

namespace Gx
open Go Go.Proofs
set_option maxRecDepth 100000
section
variable {R:Type}
def Uj:List RatD→List RatD→Rat
 | a::az9',b::bs=>a.q*b.q+Uj az9' bs
 | _,_=>0
def Aq1:List RatD→List RatD→List RatD→List RatD→Rat
 | a::az9',e::es,b::bs,r::rs=>a.q*e.q+b.q*r.q+Aq1 az9' es bs rs
 | _,_,_,_=>0
theorem Bcy:∀ {a e b r:List RatD},e.length=a.length→b.length=a.length→r.length=a.length→Aq1 a e b r=Uj a e+Uj b r
 | [],[],[],[],_,_,_=>by
  have k:Aq1 [] [] [] []=0:=by rw[Aq1];intros;simp_all
  have C:Uj [] []=0:=by rw[Uj];intros;simp_all
  rw[k,C,Rat.add_zero]
 | a::az9',e::es,b::bs,r::rs,k,C,D=>by
  rw[Aq1,Uj,Uj,Bcy (by simpa using k) (by simpa using C) (by simpa using D)]
  grind
theorem AB:qm (0:Rat)≤2:=qi (v:=0) (by omega)
def okP (l:List RatD):Prop:=∀ x ∈ l,x.is x.q 12
theorem okR.okP {l:List RatD} (h:okR l):okP l:=fun x k=>⟨(h x k).1,rfl,Nat.le_trans (h x k).2.2 (by omega)⟩
theorem okP.at {l:List RatD} (h:okP l) {i:Nat} (hi:i<l.length):(l[i]).is (l[i]).q 12:=h _ (List.getElem_mem hi)
theorem ws:∀ {a b:List RatD},okP a→okR b→qm (Uj a b)≤2+a.length*20
 | [],b,_,_=>by rw[show Uj [] b=0 by rw[Uj];intros;simp_all];have:=AB;omega
 | a::az9',[],_,_=>by rw[show Uj (a::az9') []=0 by rw[Uj];intros;simp_all];have:=AB;omega
 | a::az9',b::bs,C,D=>by
  have F:=ws (a:=az9') (b:=bs) (fun x k=>C x (by simp[k])) (fun x k=>D x (by simp[k]))
  have G:=(C a (by simp)).qm
  have I:=(D b (by simp)).qm
  have L:=QS a.q b.q
  have M:=G4 (a.q*b.q) (Uj az9' bs)
  rw[Uj,List.length_cons,Nat.add_mul];omega
theorem A7h {u:UnitD} {c:Int} (C:C7 u c=true):∀ {ts:List StD} {s:StD} {ks:List Int} {es rs:List RatD},okR es→okR rs→qm (N5 u s ts ks es rs)≤2+ts.length*620
 | [],s,ks,es,rs,_,_=>by rw[show N5 u s [] ks es rs=0 by rw[N5];intros;simp_all];have:=AB;omega
 | t::ts,s,[],es,rs,_,_=>by rw[show N5 u s (t::ts) [] es rs=0 by rw[N5];intros;simp_all];have:=AB;omega
 | t::ts,s,k::ks,[],rs,_,_=>by rw[show N5 u s (t::ts) (k::ks) [] rs=0 by rw[N5];intros;simp_all];have:=AB;omega
 | t::ts,s,k::ks,e::es,[],_,_=>by rw[show N5 u s (t::ts) (k::ks) (e::es) []=0 by rw[N5];intros;simp_all];have:=AB;omega
 | t::ts,s,k::ks,e::es,r::rs,G,I=>by
  obtain⟨hs,L,M⟩:=Ng C
  have T:=Ahx L s t
  have D:=L
  unfold uR at D
  have h3:=A7h C (ts:=ts) (s:=t) (ks:=ks) (es:=es) (rs:=rs) (fun x F=>G x (by simp[F])) (fun x F=>I x (by simp[F]))
  have h4:=(G e (by simp)).qm
  have h5:=(I r (by simp)).qm
  have U:=qi (v:=Rz u s t) (by omega)
  have V:=qi (v:=u.noLoad) (by omega)
  have Y:=qi (v:=u.reservePrice) (by omega)
  have hq4:=A2o (e:=e.q) C (by omega)
  have hq5:=QS ((u.reservePrice:Int):Rat) r.q
  have hq6:=G4 (u.noLoad:Rat) (Rx (e.q - (u.min:Rat)) u.segs.l)
  have hq7:=G4 ((u.noLoad:Rat)+Rx (e.q - (u.min:Rat)) u.segs.l) ((u.reservePrice:Rat)*r.q)
  have hq8:qm (cond (k==2) (Bj6 u e.q r.q) 0)≤612:=by
   cases (k==2) with
   | true=>rw[cond_true,Bj6];omega
   | false=>rw[cond_false];have:=AB;omega
  have hq9:=G4 ((Rz u s t:Int):Rat) (cond (k==2) (Bj6 u e.q r.q) 0)
  have S:=G4 (((Rz u s t:Int):Rat)+cond (k==2) (Bj6 u e.q r.q) 0) (N5 u t ts ks es rs)
  rw[N5,List.length_cons,Nat.add_mul];omega
section
variable {N n:Nat} {u:UnitD} {p:PlanD} {f e:Bool} {c:Int}
theorem A2q (oe:okR p.en.l) (or:okR p.re.l):qm (Aqz u c p)≤15000:=by
 by_cases k:(ej u c p).2=0
 ·obtain⟨D,F,C⟩:=A7g k
  obtain⟨hs,I,L⟩:=Ng D
  obtain⟨l1,l2,l3⟩:=Aqy F
  have G:=jy (wq (by omega) (by omega) C)
  have e:Aqz u c p=N5 u (Br u) (Cz u 0 (Br u) p.st.l).1 p.st.l p.en.l p.re.l:=by unfold Aqz;rw[k];rfl
  have:=A7h D (ts:=(Cz u 0 (Br u) p.st.l).1) (s:=Br u) (ks:=p.st.l) oe or
  rw[e];omega
 ·have e:Aqz u c p=0:=by unfold Aqz;rw[show((ej u c p).2==0)=false by simpa using k];rfl
  rw[e];have:=AB;omega
theorem Aq2 {X:O R} {K:LA→Int→O R} {A B:List RatD} {f1 f2 f3 f4:Bool} {z:RatD} {w:Rat} (hN:4000≤N) (C:fit 1000000 N) (hc:c=n) (hn:n≤24) (hA:A.length=n) (hB:B.length=n) (he:p.en.l.length=n) (hr:p.re.l.length=n) (oA:okP A) (oB:okP B) (oe:okR p.en.l) (or:okR p.re.l) (hz:z.is w 15000):∀ (m h fuel:Nat) (x:RatD) (q:Rat),h+m=n→m<fuel→x.can q→qm q≤2+h*60 →
  (∀ d:RatD,d.can (q+Aq1 (A.drop h) (p.en.l.drop h) (B.drop h) (p.re.l.drop h) - w)→K d.av 0=X) →
  Rp N K (A.flatMap RatD.av) n f1 f2 (B.flatMap RatD.av) n f3 f4 c e p.av z.av fuel (h:Int) x.av=X:=by
 intro m
 induction m with
 | zero =>
  intro h fuel x q hh G I hq hX
  obtain⟨fuel,rfl⟩:∃ k,fuel=k+1:=⟨fuel - 1,by omega⟩
  have L:h*60≤24*60:=Nat.mul_le_mul_right _ (by omega)
  rw[Rp];unfold Z6
  rw[show decide ((h:Int)<c)=false by simp;omega,cf,b3,ct,b3,ct,LO,LO]
  refine Ahu (I.is hq) hz (C.le (by omega)) fun d M=>?_
  rw[c3,ct,b3,ct,LO]
  refine hX d ?_
  rw[Dz (l:=A) (by omega),show Aq1 [] (p.en.l.drop h) (B.drop h) (p.re.l.drop h)=0 by rw[Aq1];intros;simp_all,Rat.add_zero]
  exact M
 | succ m ih =>
  intro h fuel x q hh G I hq hX
  obtain⟨fuel,rfl⟩:∃ k,fuel=k+1:=⟨fuel - 1,by omega⟩
  have L:h*60≤24*60:=Nat.mul_le_mul_right _ (by omega)
  rw[Rp];unfold Z6
  have S:h<A.length:=by omega
  have D:h<p.en.l.length:=by omega
  have F:h<p.re.l.length:=by omega
  have T:h<B.length:=by omega
  have a1:=oA.at S
  have b1:=oB.at T
  have e1:=oe.at D
  have r1:=or.at F
  have q1:=a1.qm;have q2:=b1.qm;have q3:=e1.qm;have q4:=r1.qm
  have q5:=QS A[h].q p.en.l[h].q
  have q6:=QS B[h].q p.re.l[h].q
  rw[Bs S,Bs D,Bs F,Bs T,Aq1] at hX
  rw[show decide ((h:Int)<c)=true by simp;omega,ct]
  simp only[b3,LO,ct,Aa (show h<n by omega),Ne S,Ne D,Ne F,Ne T,ji,KX,p1,p2,Aa D,Aa F]
  refine A2g a1 e1 (C.le (by omega)) fun m1 U=>?_
  refine Ahw (I.is hq) (U.is (m:=20) (by omega)) (C.le (by omega)) fun s1 V=>?_
  have q7:=G4 q (A[h].q*p.en.l[h].q)
  simp only[Bfw,b3,LO,ct,rI]
  refine A2g b1 r1 (C.le (by omega)) fun m2 Y=>?_
  refine Ahw (V.is (m:=2+h*60+25) (by omega)) (Y.is (m:=20) (by omega)) (C.le (by omega)) fun s2 hs2=>?_
  have q8:=G4 (q+A[h].q*p.en.l[h].q) (B[h].q*p.re.l[h].q)
  simp only[Bfw,ct,rI]
  rw[wS (by omega)]
  refine ih (h+1) fuel s2 _ (by omega) (by omega) hs2 (by rw[Nat.add_mul];omega) fun d M=>hX d ?_
  have:q+(A[h].q*p.en.l[h].q+B[h].q*p.re.l[h].q+Aq1 (A.drop (h+1)) (p.en.l.drop (h+1)) (B.drop (h+1)) (p.re.l.drop (h+1))) - w=q+A[h].q*p.en.l[h].q+B[h].q*p.re.l[h].q+Aq1 (A.drop (h+1)) (p.en.l.drop (h+1)) (B.drop (h+1)) (p.re.l.drop (h+1)) - w:=by grind
  rw[this];exact M
theorem Bim {K:LA→Bool→O R} {A B:List RatD} {f1 f2 f3 f4:Bool} (hN:4000≤N) (G:fit 1000000 N) (hn:n≤24) (hA:A.length=n) (hB:B.length=n) (oA:okR A) (oB:okR B):∀ (m h fuel:Nat) (q:Rat),h+m=n→m<fuel→qm q≤2+h*30 →
  Uf N K (A.flatMap RatD.av) n f1 f2 (B.flatMap RatD.av) n f3 f4 fuel (h:Int) (TU q).av=K (TU (q+Uj (A.drop h) (B.drop h))).av true:=by
 intro m
 induction m with
 | zero =>
  intro h fuel q L C hq
  obtain⟨fuel,rfl⟩:∃ k,fuel=k+1:=⟨fuel - 1,by omega⟩
  rw[Uf];unfold PL
  rw[Kn (by omega),cf,Dz (l:=A) (by omega),show Uj [] (B.drop h)=0 by rw[Uj];intros;simp_all,Rat.add_zero];rfl
 | succ m M =>
  intro h fuel q L C hq
  obtain⟨fuel,rfl⟩:∃ k,fuel=k+1:=⟨fuel - 1,by omega⟩
  have S:h*30≤24*30:=Nat.mul_le_mul_right _ (by omega)
  rw[Uf];unfold PL
  have D:h<A.length:=by omega
  have F:h<B.length:=by omega
  have a1:=oA.at D
  have I:=oB.at F
  have T:=a1.qm;have U:=I.qm
  have V:=QS A[h].q B[h].q
  rw[Iz (show h<n by omega),ct]
  simp only[b3,LO,ct,Aa (show h<n by omega),Ne D,Ne F,ji,KX]
  rw[Blz a1 I (G.le (by omega)),Atk (Km hq) (Km (m:=10) (by omega)) (G.le (by omega))]
  have Y:=G4 q (A[h].q*B[h].q)
  simp only[Bfw,ct,rI]
  rw[wS (by omega),M (h+1) fuel _ (by omega) (by omega) (by rw[Nat.add_mul];omega),Bs D,Bs F,Uj,Rat.add_assoc]
theorem A7i {K:LA→Bool→O R} {A B:List RatD} {f1 f2 f3 f4:Bool} (hN:4000≤N) (k:fit 1000000 N) (hn:A.length≤24) (hB:B.length=A.length) (oA:okR A) (oB:okR B):ZW N (A.flatMap RatD.av) A.length f1 f2 (B.flatMap RatD.av) B.length f3 f4 K=K (TU (Uj A B)).av true:=by
 rw[Ad5];unfold wE
 rw[hB,show((A.length:Int) != (A.length:Int))=false by simp,cf,rH,show cq 0=(TU 0).av from rfl,c3,ct]
 have:=Bim (R:=R) (N:=N) (n:=A.length) (K:=K) (f1:=f1) (f2:=f2) (f3:=f3) (f4:=f4) hN k hn rfl hB oA oB A.length 0 N 0 (by omega) (by omega) (by have:=AB;omega)
 simp only[List.drop_zero,Rat.zero_add] at this
 exact this
def Bmb (A B:List RatD) (c:Int):Bool:=decide ((A.length:Int)=c)&&decide ((B.length:Int)=c)
def Bmr (u:UnitD) (c:Int) (p:PlanD) (A B:List RatD):Int:=cond ((ej u c p).2==0) (cond (Bmb A B c) 0 4) (ej u c p).2
def Bgp (u:UnitD) (c:Int) (p:PlanD) (A B:List RatD):Rat:=cond ((ej u c p).2==0&&Bmb A B c) (Uj A p.en.l+Uj B p.re.l - Aqz u c p) 0
theorem Bin {A B:List RatD} (oA:okP A) (oB:okP B) (oe:okR p.en.l) (or:okR p.re.l) (hA:A.length≤30) (hB:B.length≤30):qm (Bgp u c p A B)≤20000:=by
 have k:=ws oA oe
 have C:=ws oB or
 have D:=A2q (u:=u) (c:=c) oe or
 have F:=G4 (Uj A p.en.l) (Uj B p.re.l)
 have G:=Yl (Uj A p.en.l+Uj B p.re.l) (Aqz u c p)
 have I:=AB
 unfold Bgp
 cases ((ej u c p).2==0&&Bmb A B c) with
 | true=>rw[cond_true];omega
 | false=>rw[cond_false];omega
theorem A2r {X:O R} {K:LA→Int→O R} {A B:List RatD} {f1 f2 f3 f4:Bool} (hN:4000≤N) (L:fit 1000000 N) (M:u.away.l.length≤1000) (hA:A.length≤30) (hB:B.length≤30) (oA:okP A) (oB:okP B) (oe:okR p.en.l) (or:okR p.re.l)
  (h:∀ d:RatD,d.is (Bgp u c p A B) 20000→K d.av (Bmr u c p A B)=X):GU N u.av f c p.av e (A.flatMap RatD.av) A.length f1 f2 (B.flatMap RatD.av) B.length f3 f4 K=X:=by
 have C:=Bin (u:=u) (c:=c) (p:=p) oA oB oe or hA hB
 rw[pY];unfold ZX
 rw[Cl,ct,Bgn,ct,Bg,Bgo]
 refine Aq0 hN L M oe or fun z F=>?_
 rw[c3,ct,CT,CT,CT]
 by_cases k:(ej u c p).2=0
 ·obtain⟨S,T,U⟩:=A7g k
  obtain⟨hs,Y,hc⟩:=Ng S
  obtain⟨l1,l2,l3⟩:=Aqy T
  rw[decide_eq_true k,show(!true)=false from rfl,cf]
  unfold Bmr Bgp Bmb at h
  rw[show((ej u c p).2==0)=true by simpa using k] at h
  by_cases D:(A.length:Int)=c
  ·by_cases G:(B.length:Int)=c
   ·rw[decide_eq_true D,decide_eq_true G] at h ⊢
    rw[show((!true)==false)=true from rfl,ct,show(cond false true (!true))=false from rfl,cf]
    unfold FZ RA
    refine It (by omega) (by omega) fun x V=>?_
    rw[c3,ct]
    have hlB:B.length=A.length:=by omega
    rw[hlB]
    refine Aq2 (n:=A.length) hN L (by omega) (by omega) rfl (by omega) (by omega) (by omega) oA oB oe or (⟨F.1,F.2.1,Nat.le_trans F.2.2 (A2q oe or)⟩) A.length 0 N x ((0:Int):Rat) (by omega) (by omega) V (by have:=qi (v:=0) (by omega);omega) fun d I=>?_
    simp only[List.drop_zero] at I
    rw[show(((0:Int):Rat))=0 from rfl,Rat.zero_add,Bcy (by omega) (by omega) (by omega)] at I
    refine h d ?_
    have e:Bgp u c p A B=Uj A p.en.l+Uj B p.re.l - Aqz u c p:=by unfold Bgp Bmb;rw[show((ej u c p).2==0)=true by simpa using k,decide_eq_true D,decide_eq_true G];rfl
    rw[e] at C
    exact I.is C
   ·rw[decide_eq_true D,decide_eq_false G] at h ⊢
    exact h TV Ks
  ·rw[decide_eq_false D] at h ⊢
   exact h TV Ks
 ·rw[decide_eq_false k,show(!false)=true from rfl,ct]
  unfold Bmr Bgp at h
  rw[show((ej u c p).2==0)=false by simpa using k] at h
  exact h TV Ks
theorem Aut {X:O R} {K:LA→Int→O R} {A B:List RatD} {f1 f2 f3 f4:Bool} (hN:4000≤N) (C:fit 1000000 N) (L:u.away.l.length≤1000) (hA:A.length≤30) (hB:B.length≤30) (oA:okR A) (oB:okR B) (oe:okR p.en.l) (or:okR p.re.l)
  (h:∀ d:RatD,d.is (Bgp u c p A B) 20000→K d.av (Bmr u c p A B)=X):Yx N u.av f c p.av e (A.flatMap RatD.av) A.length f1 f2 (B.flatMap RatD.av) B.length f3 f4 K=X:=by
 have D:=Bin (u:=u) (c:=c) (p:=p) oA.okP oB.okP oe or hA hB
 rw[jl];unfold PP
 rw[Cl,ct,Bgn,ct,Bg,Bgo]
 refine Aer hN C L oe or fun z G=>?_
 rw[c3,ct,CT,CT,CT]
 by_cases k:(ej u c p).2=0
 ·obtain⟨M,S,T⟩:=A7g k
  obtain⟨hs,V,Y⟩:=Ng M
  obtain⟨l1,l2,l3⟩:=Aqy S
  rw[decide_eq_true k,show(!true)=false from rfl,cf]
  unfold Bmr Bgp Bmb at h
  rw[show((ej u c p).2==0)=true by simpa using k] at h
  by_cases F:(A.length:Int)=c
  ·by_cases I:(B.length:Int)=c
   ·rw[decide_eq_true F,decide_eq_true I] at h ⊢
    rw[show((!true)==false)=true from rfl,ct,show(cond false true (!true))=false from rfl,cf]
    unfold Z7
    dsimp only
    have d1:=ws oA.okP oe
    have d2:=ws oB.okP or
    have d3:=G4 (Uj A p.en.l) (Uj B p.re.l)
    have U:=A2q (u:=u) (c:=c) oe or
    rw[p1,A7i hN C (by omega) (by omega) oA oe,c3,ct,p2,A7i hN C (by omega) (by omega) oB or,c3,ct]
    simp only[b3,LO,ct]
    rw[Atk (Km (m:=500) (by omega)) (Km (m:=500) (by omega)) (C.le (by omega)),Bh8 (Km (m:=1001) (by omega)) (show z.is (Aqz u c p) 15000 from⟨G.1,G.2.1,Nat.le_trans G.2.2 U⟩) (C.le (by omega)),c3,ct,b3,ct,LO]
    refine h _ (Km ?_)
    have e:Bgp u c p A B=Uj A p.en.l+Uj B p.re.l - Aqz u c p:=by unfold Bgp Bmb;rw[show((ej u c p).2==0)=true by simpa using k,decide_eq_true F,decide_eq_true I];rfl
    rw[e] at D
    exact D
   ·rw[decide_eq_true F,decide_eq_false I] at h ⊢
    exact h TV Ks
  ·rw[decide_eq_false F] at h ⊢
   exact h TV Ks
 ·rw[decide_eq_false k,show(!false)=true from rfl,ct]
  unfold Bmr Bgp at h
  rw[show((ej u c p).2==0)=false by simpa using k] at h
  exact h TV Ks
end
end
end Gx

namespace Gx
open Go Go.Proofs
section
variable {R:Type}
def rq (v:Int):RatD:=TU (v:Rat)
theorem Bio {v:Int} (h:-9223372036854775808≤v∧v≤9223372036854775807):(rq v).is (v:Rat) 4:=(lF _).is (by have:=qi h;omega)
def zG (l:List Int):LA:=(l.map rq).flatMap RatD.av
theorem Bj7 (l:List Int):(zG l).length=l.length*3:=by
 induction l with
 | nil=>rfl
 | cons a r k=>unfold zG at k ⊢;rw[List.map_cons,List.flatMap_cons,List.length_append,k];simp[RatD.av];omega
theorem A2s (l:List Int):List.take (l.length*3) (zG l)=zG l:=by rw[←Bj7,List.take_length]
theorem A7j (l:List Int) (v:Int):List.take (l.length*3) (zG l)++List.take 3 (setCells [(.bool false),.nsl,.nsl] 0 (rq v).av)=zG (l++[v]):=by
 rw[A2s];unfold zG;rw[List.map_append,List.flatMap_append];rfl
theorem Bnc {j:Nat} (h:j≤1000000000000):((Nat.ble (j+1) 140737488355328)&&(Nat.ble ((j+1)*56) 140737488355328))=true:=by
 rw[Bool.and_eq_true,Nat.ble_eq,Nat.ble_eq];omega
def A7k (u:UnitD) (A:List Int):Nat→Int
 | 0=>u.output
 | i+1=>A.getD i 0
structure Gd (u:UnitD) (ks:List Int) (n h:Nat) (v p r:Int):Prop where
 on:Ei ks h=true→((Q' u ks n h).lo≤p∧p≤(Q' u ks n h).hi)∧(0≤r∧r≤u.reserve∧p+r≤u.max)
 was:Ei ks h=true→Tc u ks h=true→p+r - v≤u.rampUp∧v - p≤u.rampDown
 st:Ei ks h=true→Tc u ks h=false→p+r≤u.startRamp
 off:Ei ks h=false→p=0∧r=0
theorem Gd.rng {u:UnitD} {ks:List Int} {n h:Nat} {v p r:Int} (ok:UOk u) (C:uR u) (D:h<n) (g:Gd u ks n h v p r):(0≤p∧p≤1048576)∧(0≤r∧r≤1048576):=by
 unfold uR at C
 cases k:Ei ks h with
 | true =>
  have:=g.on k
  have:=A2f (ks:=ks) (n:=n) ok (n - 1 - h) h (by omega)
  have:=A6s (ks:=ks) (n:=n) ok h
  have:=A2e (ks:=ks) ok h
  omega
 | false=>have:=g.off k;omega
def GdA (u:UnitD) (ks:List Int) (n m:Nat) (A B:List Int):Prop:=A.length=m∧B.length=m∧∀ i,i<m→Gd u ks n i (A7k u A i) (A.getD i 0) (B.getD i 0)
theorem GdA.snoc {u:UnitD} {ks:List Int} {n m:Nat} {A B:List Int} (g:GdA u ks n m A B) {p r:Int} (h:Gd u ks n m (A7k u A m) p r):GdA u ks n (m+1) (A++[p]) (B++[r]):=by
 obtain⟨k,C,D⟩:=g
 have gl:∀ {L:List Int} {x:Int} {i:Nat},i<L.length→(L++[x]).getD i 0=L.getD i 0:=fun {L x i} hi=>by
  rw[List.getD_eq_getElem?_getD,List.getD_eq_getElem?_getD,List.getElem?_append_left hi]
 have gs:∀ {L:List Int} {x:Int},(L++[x]).getD L.length 0=x:=fun {L x}=>by
  rw[List.getD_eq_getElem?_getD,List.getElem?_append_right (Nat.le_refl _)];simp
 have pv:∀ i,i≤m→A7k u (A++[p]) i=A7k u A i:=fun i hi=>by
  cases i with
  | zero=>rfl
  | succ i=>exact gl (by omega)
 refine⟨by simp[k],by simp[C],fun i hi=>?_⟩
 rw[pv i (by omega)]
 by_cases e:i=m
 ·subst e
  have e1:(A++[p]).getD i 0=p:=by rw[←k];exact gs
  have F:(B++[r]).getD i 0=r:=by rw[←C];exact gs
  rw[e1,F];exact h
 ·rw[gl (by omega),gl (by omega)];exact D i (by omega)
theorem Bmc {u:UnitD} {ks:List Int} {n h:Nat} {A B:List Int} (ok:UOk u) (G:Oo u ks n=false) (I:h<n) (C:Ei ks h=true) (g:GdA u ks n h A B):(Q' u ks n h).lo≤(Q' u ks n h).hi∧(Tc u ks h=true→(Q' u ks n h).lo≤A7k u A h+u.rampUp∧A7k u A h - u.rampDown≤(Q' u ks n h).hi)∧(Tc u ks h=false→(Q' u ks n h).hi≤u.startRamp)∧u.min≤(Q' u ks n h).lo∧(Q' u ks n h).hi≤u.max:=by
 have e:(Q' u ks n h).lo≤(Q' u ks n h).hi:=by
  rw[Bii ok,List.any_eq_false] at G
  have:=G h (by simpa using I)
  simp at this;omega
 have r1:=A2f (ks:=ks) (n:=n) ok (n - 1 - h) h (by omega)
 have D:=A6s (ks:=ks) (n:=n) ok h
 have L:=A2e (ks:=ks) ok h
 have M:=L.2.2.2.2 C
 refine⟨e,fun F=>?_,fun F=>?_,by omega,by omega⟩
 ·cases h with
  | zero =>
   have f:ei u ks 0=⟨Ix u.min (u.output - u.rampDown),By u.max (u.output+u.rampUp)⟩:=by
    rw[ei,C,show(u.state==2)=true from F];rfl
   rw[f] at D
   simp only[Jx,Tu] at D
   have S:=ok.b
   show _≤u.output+_∧u.output - _≤_
   omega
  | succ h =>
   have k:Ei ks h=true:=F
   have gd:=(g.2.2 h (by omega)).on k
   have st:=jh u ks (n:=n) (h:=h) I
   rw[k,C] at st
   simp only[Bool.and_true,cond_true] at st
   rw[st] at gd
   simp only[Jx,Tu] at gd
   show _≤A.getD h 0+_∧A.getD h 0 - _≤_
   omega
 ·have f:ei u ks h=⟨u.min,u.startRamp⟩:=by rw[Bm9 C,F];rfl
  rw[f] at D
  simp only at D
  omega
section
variable {N n:Nat} {X:O R} {u:UnitD} {ks raw:List Int} {K0 K1:LA→O R} {l g i:Bool}
theorem Bcz {k0:Int→Int→Nat→Nat→LA→LA→O R} {A B:List Int} {p:Nat} {a b:Int} {o:LA} (hN:4000≤N) (F:p≤1000) (C:A.length=p) (D:B.length=p) (G:0≤a∧a≤1048576) (I:0≤b∧b≤1048576) :
  Gw N k0 K0 K1 (n:Int) n (Av raw) raw.length l g n (Av ks) i u.av o (p:Int) a b p p (zG A) (zG B)=k0 a ((p+1:Nat):Int) (p+1) (p+1) (zG (A++[a])) (zG (B++[b])):=by
 unfold Gw
 rw[Ry (by omega) hN,show((Nat.beq (List.length (TU (a:Rat)).av) 3)&&(Nat.ble 3 3))=true from rfl,ct,Bnc (by omega),ct,Ry (by omega) hN,show((Nat.beq (List.length (TU (b:Rat)).av) 3)&&(Nat.ble 3 3))=true from rfl,ct,ct,wS (by omega)]
 have e1:=A7j A a
 have k:=A7j B b
 rw[C] at e1;rw[D] at k
 unfold rq at e1 k
 rw[e1,k]
theorem Bj8 {k0:Int→Int→Nat→Nat→LA→LA→O R} {A B:List Int} {p:Nat} (hN:4000≤N) (G:p<n) (hn:n≤1000) (ok:UOk u) (C:uR u) (U:Oo u ks n=false) (D:Ei ks p=true) (gg:GdA u ks n p A B)
  (H:∀ a b,Gd u ks n p (A7k u A p) a b→k0 a ((p+1:Nat):Int) (p+1) (p+1) (zG (A++[a])) (zG (B++[b]))=X) :
  Jz N k0 K0 K1 (n:Int) n (Av raw) raw.length l g n (Q' u ks n p).lo (Q' u ks n p).hi u.max (Av ks) i u.av (tb n (Q' u ks n)) (A7k u A p) (p:Int) (Tc u ks p) p p (zG A) (zG B)=X:=by
 have F:=C
 unfold uR at F
 obtain⟨w1,V,w3,w4,w5⟩:=Bmc ok U G D gg
 have r1:=A2f (ks:=ks) (n:=n) ok (n - 1 - p) p (by omega)
 have Y:0≤A7k u A p∧A7k u A p≤1048576:=by
  cases p with
  | zero=>show 0≤u.output∧u.output≤_;omega
  | succ q=>exact((gg.2.2 q (by omega)).rng ok C (by omega)).1
 unfold Jz Uh
 have I:∀ lo hi top:Int,0≤lo→lo≤hi→hi≤1048576→hi≤top→top≤2097152→(∀ a b,lo≤a→a≤hi→0≤b→b≤u.reserve→a+b≤top→Gd u ks n p (A7k u A p) a b) →
   O9 N k0 K0 K1 (n:Int) n (Av raw) raw.length l g n (Av ks) i u.av (tb n (Q' u ks n)) (p:Int) lo hi top p p (zG A) (zG B)=X:=by
  intro lo hi top h0 L M S T hg
  unfold O9 Ug
  rw[i64 (a:=2*(p:Int)) (by omega),i64 (a:=hi - lo) (by omega),i64 (a:=2*(p:Int)+1) (by omega)]
  obtain⟨v,v1,v2,ev⟩:=Ax4 (R:=R) (N:=N) (raw:=raw) (g:=false) (i:=g) (n:=raw.length) (a:=2*(p:Int)) (c:=hi - lo) rfl (by omega) (by omega) (K:=fun _=>none)
  rw[ev]
  rw[Bmx,i64 (a:=lo+v) (by omega),i64 (a:=top - (lo+v)) (by omega)]
  obtain⟨w,x1,x2,ew⟩:=Ax4 (R:=R) (N:=N) (raw:=raw) (g:=false) (i:=g) (n:=raw.length) (a:=2*(p:Int)+1) (c:=By u.reserve (top - (lo+v))) rfl (by omega) (by rw[Jx];omega) (K:=fun _=>none)
  rw[ew]
  rw[Jx] at x2
  have gd:=hg (lo+v) w (by omega) (by omega) x1 (by omega) (by omega)
  have gr:=gd.rng ok C G
  dsimp only
  rw[Bcz hN (by omega) gg.1 gg.2.1 gr.1 gr.2]
  exact H _ _ gd
 cases k:Tc u ks p with
 | true =>
  obtain⟨y1,y2⟩:=V k
  rw[ct,u7,u6,u6,i64 (a:=A7k u A p - u.rampDown) (by omega),i64 (a:=A7k u A p+u.rampUp) (by omega)]
  simp only[Jx,Tu]
  refine I _ _ _ (by omega) (by omega) (by omega) (by omega) (by omega) fun a b L M S T h5=>⟨fun _=>by omega,fun _ _=>by omega,fun _ hq=>?_,fun hq=>?_⟩
  ·rw[k] at hq;cases hq
  ·rw[D] at hq;cases hq
 | false =>
  have y:=w3 k
  have oc:=ok.c
  rw[cf,u8]
  simp only[Jx]
  refine I _ _ _ (by omega) (by omega) (by omega) (by omega) (by omega) fun a b L M S T h5=>⟨fun _=>by omega,fun _ hq=>?_,fun _ _=>by omega,fun hq=>?_⟩
  ·rw[k] at hq;cases hq
  ·rw[D] at hq;cases hq
theorem Ax5 (hN:4000≤N) (hn:n≤1000) (F:ks.length=n) (ok:UOk u) (G:uR u) (I:Oo u ks n=false) (H:∀ A B,GdA u ks n n A B→K1 [(.imm (Av ks) n 1 false false),(.imm (zG A) n 3 false false),(.imm (zG B) n 3 false false)]=X) :
  ∀ (m p fuel:Nat) (A B:List Int),p+m=n→m<fuel→GdA u ks n p A B→Co N K0 K1 (n:Int) n (Av raw) raw.length l g n (Av ks) i u.av (tb n (Q' u ks n)) fuel (A7k u A p) (p:Int) p p (zG A) (zG B)=X
 | 0,p,fuel+1,A,B,S,_,gg=>by
  rw[Co];unfold Nk
  obtain rfl:p=n:=by omega
  have e1:=A2s A
  have L:=A2s B
  rw[gg.1] at e1
  rw[gg.2.1] at L
  rw[Kn (Nat.le_refl _),cf,e1,L,Nat.mul_one]
  have e3:=Db ks
  rw[F] at e3
  rw[show List.take p (Av ks)=Av ks by rw[←e3,List.take_length]]
  exact H A B gg
 | m+1,p,fuel+1,A,B,S,T,gg=>by
  rw[Co];unfold Nk
  have h:p<n:=by omega
  have C:p<ks.length:=by omega
  have M:∀ a b,Gd u ks n p (A7k u A p) a b→Co N K0 K1 (n:Int) n (Av raw) raw.length l g n (Av ks) i u.av (tb n (Q' u ks n)) fuel a ((p+1:Nat):Int) (p+1) (p+1) (zG (A++[a])) (zG (B++[b]))=X:=fun a b gd=>by
   have:=Ax5 hN hn F ok G I H m (p+1) fuel (A++[a]) (B++[b]) (by omega) (by omega) (gg.snoc gd)
   rwa [show A7k u (A++[a]) (p+1)=a by show(A++[a]).getD p 0=a;rw[List.getD_eq_getElem?_getD,←gg.1,List.getElem?_append_right (Nat.le_refl _)];simp] at this
  rw[Iz h,ct,Aa h,ct,Nat.zero_add,Ct C,←Ro C]
  cases D:Ei ks p with
  | false =>
   rw[cf]
   dsimp only
   rw[Bcz hN (by omega) gg.1 gg.2.1 (by omega) (by omega)]
   exact M 0 0 ⟨fun hq=>(by rw[D] at hq;cases hq),fun hq=>(by rw[D] at hq;cases hq),fun hq=>(by rw[D] at hq;cases hq),fun _=>⟨rfl,rfl⟩⟩
  | true =>
   have k:=Bj8 (k0:=Co N K0 K1 (n:Int) n (Av raw) raw.length l g n (Av ks) i u.av (tb n (Q' u ks n)) fuel) (K0:=K0) (K1:=K1) (raw:=raw) (l:=l) (g:=g) (i:=i) hN h hn ok G I D gg M
   rw[ct,ct,vz h,ct,wB h,u3]
   cases p with
   | zero =>
    rw[show((((0:Nat):Int)==0)==true)=true from rfl,ct,Bff]
    rw[show Tc u ks 0=(u.state==2) from rfl] at k
    cases hs:(u.state==2) with
    | true=>rw[hs] at k;exact k
    | false=>rw[hs] at k;exact k
   | succ q =>
    rw[show((((q+1:Nat):Int)==0)==true)=false by simp;omega,cf,show(decide (((q+1:Nat):Int)>0)==true)=true by simp,ct,show IntKind.wrap .i64 (((q+1:Nat):Int) - 1)=(q:Int) by rw[i64 (by omega)];omega,Aa (by omega),ct,Nat.zero_add,Ct (by omega),←Ro (by omega)]
    rw[show Tc u ks (q+1)=Ei ks q from rfl] at k
    cases hs:Ei ks q with
    | true=>rw[hs] at k;exact k
    | false=>rw[hs] at k;exact k
theorem Auu {h:Int} {m:Nat} (S:m=raw.length) (hn:n=ks.length) (T:u.away.l.length≤1000) (U:ks.length≤1000) (hN:4096≤N)
  (V:rY u h ks≠0→K0 [(.imm [] 0 1 false false),(.imm [] 0 3 false false),(.imm [] 0 3 false false)]=X)
  (G:rY u h ks=0→∀ A B,GdA u ks n n A B→K1 [(.imm (Av ks) n 1 false false),(.imm (zG A) n 3 false false),(.imm (zG B) n 3 false false)]=X):Lq N u.av i h n (Av raw) m l g (Av ks) K0 K1=X:=by
 subst S
 rw[LF];unfold T0
 rw[Cl,ct,Bg,Nat.mul_one,hn,←Db ks,List.take_length,Db,←hn]
 refine Ahc T U hN hn (fun k=>?_) (fun k=>?_)
 ·rw[show((0:Int) != 0)=false from rfl,cf,Bln]
  have G:=G k
  unfold rY at k
  cases F:C7 u h with
  | false=>rw[F] at k;simp at k
  | true =>
   rw[F] at k
   have ok:=jx F
   obtain⟨hs,Y,hh⟩:=Ng F
   simp only[Bool.not_true,cond_false] at k
   cases D:((ks.length:Int) != h) with
   | true=>rw[D] at k;simp at k
   | false =>
    rw[D] at k
    have C:(ks.length:Int)=h:=by simpa using D
    cases L:(Cz u 0 (Br u) ks).2 with
    | false=>rw[L] at k;simp at k
    | true =>
     rw[L] at k
     cases M:((u.state==2&&!Ei ks 0)&&decide (u.output>u.stopRamp)) with
     | true=>rw[M] at k;simp at k
     | false =>
      rw[M] at k
      cases I:Oo u ks ks.length with
      | true=>rw[I] at k;simp at k
      | false =>
       rw[←hn] at I C
       rw[←C]
       exact Ax5 (by omega) (by omega) hn.symm ok Y I G n 0 N [] [] (by omega) (by omega) ⟨rfl,rfl,fun i hi=>by omega⟩
 ·rw[show(rY u h ks != 0)=true by simpa using k,ct]
  exact V k
end
end
end Gx

namespace Gx
open Go Go.Proofs
set_option maxRecDepth 100000
section
variable {R:Type}
variable {N:Nat} {u:UnitD} {p:PlanD} {f e:Bool} {c:Int}
theorem kA {K:Bool→O R} {A B:List RatD} {f1 f2 f3 f4:Bool} (hN:4000≤N) (k:fit 1000000 N) (C:u.away.l.length≤1000) (hA:A.length≤30) (hB:B.length≤30) (oA:okR A) (oB:okR B) (oe:okR p.en.l) (or:okR p.re.l) :
  Nj N u.av f c p.av e (A.flatMap RatD.av) A.length f1 f2 (B.flatMap RatD.av) B.length f3 f4 K=K true:=by
 rw[VO];unfold RB
 simp only[Cl,ct,Bg,Bgn,Bgo]
 rw[RD hN (k.le (by omega)) C oe or,jz hN (k.le (by omega)) C oe or]
 have D:=A2q (u:=u) (c:=c) oe or
 refine Aq0 hN k C oe or fun M F=>?_
 rw[c3,ct]
 refine Aer hN k C oe or fun S G=>?_
 rw[c3,ct]
 refine A2r hN k C hA hB oA.okP oB.okP oe or fun T I=>?_
 rw[c3,ct]
 refine Aut hN k C hA hB oA oB oe or fun U L=>?_
 rw[c3,ct]
 simp only[b3,LO,ct,beq_self_eq_true,A25]
 rw[yZ F G (k.le (by omega)),i8,yZ I L (k.le (by omega)),i8]
 rfl
def Bnd (ks:List Int) (en re:List RatD) (a b c:Bool):PlanD:=⟨.of ks false a,.of en false b,.of re false c⟩
theorem Bip {ks:List Int} {en re:List RatD} {a b c:Bool}:[AV.imm (Av ks) ks.length 1 false a,.imm (en.flatMap RatD.av) en.length 3 false b,.imm (re.flatMap RatD.av) re.length 3 false c]=(Bnd ks en re a b c).av:=by
 rw[←F2];rfl
end
end Gx

namespace Gx.Cf
open Go Go.Proofs
inductive Sl (α:Type) where
 | nil
 | of (l:List α) (t o:Bool)
def Sl.l {α:Type}:Sl α→List α
 | .nil=>[]
 | .of l _ _=>l
def Sl.av {α:Type} (sz:Nat) (e:α→LA):Sl α→AV
 | .nil=>.nsl
 | .of l t o=>.imm (l.flatMap e) l.length sz t o
def JM (n:Int):LA:=[.int .i64 n]
def Av (l:List Int):LA:=l.map fun n=>.int .i64 n
theorem F2:∀ l:List Int,l.flatMap JM=Av l
 | []=>rfl
 | a::r=>by rw[List.flatMap_cons,F2 r];rfl
theorem Db (l:List Int):(Av l).length=l.length:=by simp[Av]
theorem Aes (l m:List Int):Av l++Av m=Av (l++m):=by simp[Av]
structure FracD where
 num:Int
 den:Int
structure BusD where
 name:List UInt8
 demand:Sl Int
 shed:Int
structure LineD where
 name:List UInt8
 fr:Int
 to:Int
 re:FracD
 smin:FracD
 smax:FracD
 limit:Int
 emer:Int
 away:Sl Int
structure SegD where
 width:Int
 price:Int
structure UnitD where
 name:List UInt8
 bus:Int
 min:Int
 max:Int
 segs:Sl SegD
 noLoad:Int
 rampUp:Int
 rampDown:Int
 startRamp:Int
 stopRamp:Int
 upTime:Int
 downTime:Int
 startTime:Int
 hotCost:Int
 coldCost:Int
 hotHours:Int
 reserve:Int
 reservePrice:Int
 away:Sl Int
 state:Int
 hours:Int
 output:Int
structure StoreD where
 name:List UInt8
 bus:Int
 capacity:Int
 initial:Int
 final:Int
 charge:Int
 discharge:Int
 eff:FracD
structure TieD where
 name:List UInt8
 bus:Int
 imp:Sl Int
 exp:Sl Int
 price:Sl Int
structure MoveD where
 unit:Int
 up:Int
 down:Int
structure OutD where
 name:List UInt8
 lines:Sl Int
 corr:Bool
 moves:Sl MoveD
structure CaseD where
 hours:Int
 reserve:Sl Int
 buses:Sl BusD
 lines:Sl LineD
 units:Sl UnitD
 stores:Sl StoreD
 ties:Sl TieD
 outs:Sl OutD
def BusD.av (b:BusD):LA:=[.str b.name,b.demand.av 1 JM,.int .i64 b.shed]
def LineD.av (b:LineD):LA:=[.str b.name,.int .i64 b.fr,.int .i64 b.to,.int .i64 b.re.num,.int .i64 b.re.den,.int .i64 b.smin.num,.int .i64 b.smin.den,.int .i64 b.smax.num,.int .i64 b.smax.den,.int .i64 b.limit,.int .i64 b.emer,b.away.av 1 JM]
def SegD.av (s:SegD):LA:=[.int .i64 s.width,.int .i64 s.price]
def UnitD.av (u:UnitD):LA:=[.str u.name,.int .i64 u.bus,.int .i64 u.min,.int .i64 u.max,u.segs.av 2 SegD.av,.int .i64 u.noLoad,.int .i64 u.rampUp,.int .i64 u.rampDown,.int .i64 u.startRamp,.int .i64 u.stopRamp,.int .i64 u.upTime,.int .i64 u.downTime,.int .i64 u.startTime,.int .i64 u.hotCost,.int .i64 u.coldCost,.int .i64 u.hotHours,.int .i64 u.reserve,.int .i64 u.reservePrice,u.away.av 1 JM,.int .i64 u.state,.int .i64 u.hours,.int .i64 u.output]
def StoreD.av (s:StoreD):LA:=[.str s.name,.int .i64 s.bus,.int .i64 s.capacity,.int .i64 s.initial,.int .i64 s.final,.int .i64 s.charge,.int .i64 s.discharge,.int .i64 s.eff.num,.int .i64 s.eff.den]
def TieD.av (t:TieD):LA:=[.str t.name,.int .i64 t.bus,t.imp.av 1 JM,t.exp.av 1 JM,t.price.av 1 JM]
def MoveD.av (m:MoveD):LA:=[.int .i64 m.unit,.int .i64 m.up,.int .i64 m.down]
def OutD.av (o:OutD):LA:=[.str o.name,o.lines.av 1 JM,.bool o.corr,o.moves.av 3 MoveD.av]
def CaseD.av (c:CaseD):LA:=[.int .i64 c.hours,c.reserve.av 1 JM,c.buses.av 3 BusD.av,c.lines.av 12 LineD.av,c.units.av 22 UnitD.av,c.stores.av 9 StoreD.av,c.ties.av 5 TieD.av,c.outs.av 4 OutD.av]
section
variable {R:Type}
theorem Ii {α:Type} {sz:Nat} {e:α→LA} {s:Sl α} {r:LA} {f:LA→Nat→O R}:B9 sz (s.av sz e::r) f=f (s.l.flatMap e) s.l.length:=by
 cases s<;>simp[B9,Sl.av,Sl.l,Bdc]
theorem LH {s:List UInt8} {r:LA} {f:List UInt8→O R}:A24 (.str s::r) f=f s:=by simp[A24,zT]
theorem Biq {b:Bool} {r:LA} {f:Bool→O R}:RW (.bool b::r) f=f b:=by simp[RW,asBool]
theorem Fm (a b:Nat):Nat.ble a b=decide (a≤b):=by
  cases h:Nat.ble a b with
  | true=>simp at h;simp[h]
  | false => have : ¬ a ≤ b := fun k => by rw [Nat.ble_eq_true_of_le k] at h; cases h
             simp[this]
theorem A2t (a b:Nat):Nat.beq a b=decide (a=b):=by
  cases h:Nat.beq a b with
  | true=>have:=Nat.eq_of_beq_eq_true h;simp[this]
  | false => have : a ≠ b := fun e => by subst e; rw [Nat.beq_refl] at h; cases h
             simp[this]
theorem ct (x y:O R):cond true x y=x:=rfl
theorem cf (x y:O R):cond false x y=y:=rfl
theorem Bo {α:Type} {e:α→LA} {sz:Nat} (k:∀ a,(e a).length=sz):∀ (l:List α) (j:Nat) (h:j<l.length),List.drop (j*sz) (l.flatMap e)=e l[j]++(l.drop (j+1)).flatMap e
 | a::r,0,_=>by simp
 | a::r,j+1,h=>by
  have:=Bo k r j (by simpa using h)
  rw[List.flatMap_cons,List.drop_append,k,show(j+1)*sz - sz=j*sz by rw[Nat.add_mul];omega,List.drop_eq_nil_of_le (by rw[k,Nat.add_mul];omega)]
  simpa using this
theorem TQ {l:List Int} {i:Nat} (h:i<l.length) {f:Int→O R}:Ao .i64 (List.drop i (Av l)) f=f l[i]:=by
 rw[Av,List.drop_eq_getElem_cons (by simpa using h)];simp[A1]
abbrev Kk:=Option ((Int×Int×Int)×{ e:Int // e≠0 })
def nd (p:Kk) (ok:Bool) (w:Int×Int×Int) (e:{ e:Int // e≠0 }):Kk:=match p with
 | some x=>some x
 | none=>cond ok none (some (w,e))
theorem Z_ (p:Kk) (w:Int×Int×Int) (e:{ e:Int // e≠0 }):nd p true w e=p:=by cases p<;>rfl
theorem Bj9 (x:(Int×Int×Int)×{ e:Int // e≠0 }) (ok:Bool) (w:Int×Int×Int) (e:{ e:Int // e≠0 }):nd (some x) ok w e=some x:=rfl
theorem A7l (p:Kk) (a b:Bool) (w:Int×Int×Int) (e:{ e:Int // e≠0 }):nd (nd p a w e) b w e=nd p (a&&b) w e:=by cases p<;>cases a<;>cases b<;>rfl
def Bir (p:Kk) (k i:Int):LA:=match p with
 | none=>[.int .i64 k,.int .i64 i,.int .i64 0,.int .i64 0]
 | some ((a,b,f),e)=>[.int .i64 a,.int .i64 b,.int .i64 f,.int .i64 e.1]
def Fv (lo hi n:Int):Bool:=decide (lo≤n)&&decide (n≤hi)
end
end Gx.Cf

namespace Gx.Cf
open Go Go.Proofs
section
variable {R:Type}
def Uk (n N:Nat):Prop:=n<N∧n<4611686018427387904
theorem Fu {j:Nat} (h:j<4611686018427387904):IntKind.wrap .i64 ((j:Int)+1)=((j+1:Nat):Int):=by rw[AF _ (by omega)];omega
theorem Aq3 {l:List Int} {j:Nat} (h:j<l.length) {f:Int→O R}:Ao .i64 (List.drop ((Int.toNat (j:Int))*1) (Av l)) f=f l[j]:=by
 rw[Int.toNat_natCast,Nat.mul_one,TQ h]
theorem Iz {j n:Nat} (h:j<n):decide ((j:Int)<(n:Int))=true:=by simp;omega
theorem Kn {j n:Nat} (h:n≤j):decide ((j:Int)<(n:Int))=false:=by simp;omega
theorem Bs {α:Type} {l:List α} {j:Nat} (h:j<l.length):l.drop j=l[j]::l.drop (j+1):=List.drop_eq_getElem_cons h
theorem Dz {α:Type} {l:List α} {j:Nat} (h:l.length≤j):l.drop j=[]:=List.drop_eq_nil_of_le h
theorem VY {N:Nat} {lo hi:Int} {l:List Int} {t o:Bool} {K:Bool→O R} (hs:l.length<4611686018427387904):∀ (m j fuel:Nat),j+m=l.length→m<fuel →
  In N K lo hi (Av l) l.length t o fuel (j:Int)=K ((l.drop j).all (Fv lo hi))
 | 0,j,fuel+1,D,_=>by
  rw[In];unfold To
  rw[Kn (by omega),cf,Dz (by omega)];rfl
 | m+1,j,fuel+1,D,G=>by
  rw[In];unfold To
  have h:j<l.length:=by omega
  rw[Iz h,ct,Aa h,ct,Aq3 h,ct,Aq3 h,Fu (by omega),VY hs m (j+1) fuel (by omega) (by omega),Bs h,List.all_cons]
  unfold Fv
  by_cases k:l[j]<lo
  ·have:¬ lo≤l[j]:=by omega
   simp[k,this]
  ·have:lo≤l[j]:=by omega
   by_cases C:l[j]>hi
   ·have:¬ l[j]≤hi:=by omega
    simp[k,C,this]
   ·have F:l[j]≤hi:=by omega
    simp[k,C,this,F]
theorem H3 {N:Nat} {lo hi:Int} {l:List Int} {n:Nat} {t o:Bool} {K:Bool→O R} (hn:n=l.length) (hs:Uk l.length N):Aw N lo hi (Av l) n t o K=K (l.all (Fv lo hi)):=by
 subst hn
 rw[cY];unfold FP
 have:=VY (R:=R) (N:=N) (lo:=lo) (hi:=hi) (t:=t) (o:=o) (K:=K) hs.2 l.length 0 N (by omega) hs.1
 simpa using this
theorem Ew {N:Nat} {lo hi a:Int} {t o:Bool} {K:Bool→O R} (hN:8≤N):Aw N lo hi [.int .i64 a] 1 t o K=K (Fv lo hi a):=by
 have:=H3 (R:=R) (N:=N) (lo:=lo) (hi:=hi) (l:=[a]) (t:=t) (o:=o) (K:=K) rfl ⟨by simp;omega,by simp⟩
 simpa[Av] using this
theorem Ahe {N:Nat} {lo hi a b:Int} {t o:Bool} {K:Bool→O R} (hN:8≤N):Aw N lo hi [.int .i64 a,.int .i64 b] 2 t o K=K (Fv lo hi a&&Fv lo hi b):=by
 have:=H3 (R:=R) (N:=N) (lo:=lo) (hi:=hi) (l:=[a,b]) (t:=t) (o:=o) (K:=K) rfl ⟨by simp;omega,by simp⟩
 simpa[Av] using this
def Arl:List Int→Bool
 | a::b::r=>decide (a<b)&&Arl (b::r)
 | _=>true
theorem VZ (a b:Int) (r:List Int):Arl (a::b::r)=(decide (a<b)&&Arl (b::r)):=by rw[Arl]
theorem wt (a:Int):Arl [a]=true:=by rw[Arl];intros;simp_all
theorem A2u:Arl []=true:=by rw[Arl];intros;simp_all
theorem Aq4 {j:Nat} (h:j+1<4611686018427387904):IntKind.wrap .i64 (((j+1:Nat):Int) - 1)=(j:Int):=by rw[AF _ (by omega)];omega
theorem eK {N:Nat} {l:List Int} {t o:Bool} {K:Bool→O R} (hs:l.length<4611686018427387904):∀ (m j fuel:Nat),j+1+m=l.length→m<fuel →
  Hm N K (Av l) l.length t o fuel ((j+1:Nat):Int)=K (Arl (l.drop j))
 | 0,j,fuel+1,C,_=>by
  rw[Hm];unfold Pz
  rw[Kn (by omega),cf,Bs (by omega),Dz (by omega),wt]
 | m+1,j,fuel+1,C,D=>by
  rw[Hm];unfold Pz
  have h:j+1<l.length:=by omega
  have h':j<l.length:=by omega
  rw[Iz h,ct,Aa h,ct,Aq3 h,Aq4 (by omega),Aa h',ct,Aq3 h',Fu (by omega),eK hs m (j+1) fuel (by omega) (by omega),Bs h',Bs h,VZ]
  by_cases k:l[j+1]≤l[j]
  ·have:¬ l[j]<l[j+1]:=by omega
   simp[k,this]
  ·have:l[j]<l[j+1]:=by omega
   simp[k,this]
theorem CU {N:Nat} {l:List Int} {n:Nat} {t o:Bool} {K:Bool→O R} (hn:n=l.length) (hs:Uk l.length N):P0 N (Av l) n t o K=K (Arl l):=by
 subst hn
 rw[iy];unfold OQ
 rcases l with _ | ⟨a,r⟩
 ·have hN:=hs.1
  rcases N with _ | N
  ·simp at hN
  ·dsimp only;rw[Hm];unfold Pz;simp[A2u]
 ·have:=eK (R:=R) (N:=N) (t:=t) (o:=o) (K:=K) hs.2 r.length 0 N (by simp;omega) (by have:=hs.1;simp at this;omega)
  simpa using this
theorem wu {N:Nat} {v:Int} {l:List Int} {t o:Bool} {K:Bool→O R} (hs:l.length<4611686018427387904):∀ (m j fuel:Nat),j+m=l.length→m<fuel →
  Ud N K (Av l) l.length t o v fuel (j:Int)=K ((l.drop j).contains v)
 | 0,j,fuel+1,k,_=>by
  rw[Ud];unfold OR
  rw[Kn (by omega),cf,Dz (by omega)];rfl
 | m+1,j,fuel+1,k,C=>by
  rw[Ud];unfold OR
  have h:j<l.length:=by omega
  rw[Iz h,ct,Aa h,ct,Aq3 h,Fu (by omega),wu hs m (j+1) fuel (by omega) (by omega),Bs h,List.contains_cons,BEq.comm]
  cases D:v==l[j]<;>simp
theorem Z' {N:Nat} {v:Int} {l:List Int} {n:Nat} {t o:Bool} {K:Bool→O R} (hn:n=l.length) (hs:Uk l.length N):OS N (Av l) n t o v K=K (l.contains v):=by
 subst hn
 rw[Ac7];unfold vD
 have:=wu (R:=R) (N:=N) (v:=v) (t:=t) (o:=o) (K:=K) hs.2 l.length 0 N (by omega) hs.1
 simpa using this
end
end Gx.Cf

namespace Gx.Cf
open Go Go.Proofs
section
variable {R:Type}
def I0:Kk→Int
 | none=>0
 | some x=>x.2.1
theorem V_ {c:CaseD} {f:Int→O R}:Ao .i64 c.av f=f c.hours:=by simp[CaseD.av,A1]
theorem Bbg {c:CaseD} {f:LA→Nat→O R}:B9 1 (List.drop 1 c.av) f=f (Av c.reserve.l) c.reserve.l.length:=by simp[CaseD.av,Ii,F2]
theorem W3 {c:CaseD} {f:LA→Nat→O R}:B9 3 (List.drop 2 c.av) f=f (c.buses.l.flatMap BusD.av) c.buses.l.length:=by simp[CaseD.av,Ii]
theorem Te {c:CaseD} {f:LA→Nat→O R}:B9 12 (List.drop 3 c.av) f=f (c.lines.l.flatMap LineD.av) c.lines.l.length:=by simp[CaseD.av,Ii]
theorem LI {c:CaseD} {f:LA→Nat→O R}:B9 22 (List.drop 4 c.av) f=f (c.units.l.flatMap UnitD.av) c.units.l.length:=by simp[CaseD.av,Ii]
theorem GV {c:CaseD} {f:LA→Nat→O R}:B9 9 (List.drop 5 c.av) f=f (c.stores.l.flatMap StoreD.av) c.stores.l.length:=by simp[CaseD.av,Ii]
theorem lP {c:CaseD} {f:LA→Nat→O R}:B9 5 (List.drop 6 c.av) f=f (c.ties.l.flatMap TieD.av) c.ties.l.length:=by simp[CaseD.av,Ii]
theorem F' {c:CaseD} {f:LA→Nat→O R}:B9 4 (List.drop 7 c.av) f=f (c.outs.l.flatMap OutD.av) c.outs.l.length:=by simp[CaseD.av,Ii]
def Dt (p:Kk):LA:=Bir p 0 0
theorem Ah {N:Nat} {p:Kk} {k i f e:Int} {ok:Bool} {K:LA→O R} (D:e≠0) :
  Ab N ok k i f e (Dt p) K=K (Dt (nd p ok (k,i,f) ⟨e,D⟩)):=by
 rw[AU];unfold O3 Kt
 rcases p with _ | ⟨⟨a,b,F⟩,e',C⟩
 ·cases ok<;>simp[Dt,Bir,A1,nd,Fm,C3]
 ·have:(e'==0)=false:=by simpa using C
  simp[Dt,Bir,A1,nd,this]
def Ax6 (h:Int) (l:List Int) (lo hi:Int) (w:Int×Int×Int) (p:Kk):Kk:=nd (nd p ((l.length:Int)==h) w ⟨4,by decide⟩) (l.all (Fv lo hi)) w ⟨3,by decide⟩
def Aq5 (h:Int) (l:List Int) (w:Int×Int×Int) (p:Kk):Kk:=nd (nd p (l.all (Fv 0 (IntKind.wrap .i64 (h - 1)))) w ⟨3,by decide⟩) (Arl l) w ⟨11,by decide⟩
theorem E1 {N:Nat} {c:CaseD} {p:Kk} {k i f lo hi:Int} {l:List Int} {n:Nat} {t o o1:Bool} {K:LA→O R} (hn:n=l.length) (hs:Uk l.length N) :
  C1 N c.av o1 (Av l) n t o lo hi k i f (Dt p) K=K (Dt (Ax6 c.hours l lo hi (k,i,f) p)):=by
 rw[Wf];unfold R5
 rw[V_,Ah (by decide),H3 hn hs,Ah (by decide),hn];rfl
theorem Xp {N:Nat} {c:CaseD} {p:Kk} {k i f:Int} {l:List Int} {n:Nat} {t o o1:Bool} {K:LA→O R} (hn:n=l.length) (hs:Uk l.length N) :
  Ht N c.av o1 (Av l) n t o k i f (Dt p) K=K (Dt (Aq5 c.hours l (k,i,f) p)):=by
 rw[BB];unfold Wi
 rw[V_,H3 hn hs,Ah (by decide),CU hn hs,Ah (by decide)];rfl
def Aet (c:CaseD) (b:Int):Bool:=decide (0≤b)&&decide (b<(c.buses.l.length:Int))
theorem Bbh (n:Nat) (b:Int) (h:n<4611686018427387904):Fv 0 (IntKind.wrap .i64 ((n:Int) - 1)) b=(decide (0≤b)&&decide (b<(n:Int))):=by
 rw[AF _ (by omega),Fv]
 congr 1
 simp;omega
theorem J3 {N:Nat} {c:CaseD} {p:Kk} {k i f b:Int} {o1:Bool} {K:LA→O R} (hN:8≤N) (C:c.buses.l.length<4611686018427387904) :
  Eu N c.av o1 b k i f (Dt p) K=K (Dt (nd p (Aet c b) (k,i,f) ⟨12,by decide⟩)):=by
 rw[DV];unfold Yp
 rw[W3,Ew hN,Bbh _ _ C,Ah (by decide)];rfl
def Ul (f:FracD):Bool:=Fv 1 1048576 f.den&&Fv (-1048576) 1048576 f.num
theorem PV {N:Nat} {f:FracD} {o:Bool} {K:Bool→O R} (hN:8≤N):Jr N [.int .i64 f.num,.int .i64 f.den] o K=K (Ul f):=by
 rw[UE];unfold QT
 simp only[List.drop_succ_cons,List.drop_zero,A1,Ew hN]
 unfold Ul
 cases Fv 1 1048576 f.den<;>simp
def A2v (c:UInt8):Bool:=decide (97≤c.toNat)&&decide (c.toNat≤122)
def Bmd (c:UInt8):Bool:=A2v c||(decide (48≤c.toNat)&&decide (c.toNat≤57))||decide (c.toNat=95)
def A2w (s:List UInt8):Bool:=decide (1≤s.length)&&(decide (s.length≤16)&&(!(s==[99,111,114,114,101,99,116,105,118,101])&&(A2v (s.getD 0 0)&&s.all Bmd)))
theorem GA {s:List UInt8} {j:Nat} (h:j<s.length):List.getD s (Int.toNat (j:Int)) 0=s[j]:=by
 rw[Int.toNat_natCast,List.getD_eq_getElem?_getD,List.getElem?_eq_getElem h];rfl
theorem pf {N:Nat} {s:List UInt8} {K:Bool→O R} (hs:s.length<4611686018427387904):∀ (m j fuel:Nat),j+m=s.length→m<fuel →
  Py N K s fuel (j:Int)=K ((decide (j≠0)||(decide (s.length=0)||A2v (s.getD 0 0)))&&(s.drop j).all Bmd)
 | 0,j,fuel+1,G,_=>by
  rw[Py];unfold FQ
  rw[Kn (by omega),cf,Dz (by omega)]
  by_cases h:j=0
  ·have:s.length=0:=by omega
   simp[this]
  ·simp[h]
 | m+1,j,fuel+1,G,T=>by
  rw[Py];unfold FQ OO
  dsimp only
  have h:j<s.length:=by omega
  rw[Iz h,ct,Aa h,ct,Fu (by omega),pf hs m (j+1) fuel (by omega) (by omega),Bs h,List.all_cons,GA h]
  have I:j=0→s.getD 0 0=s[j]:=fun e=>by
   have:=GA h;rw[←this,e];rfl
  unfold Bmd A2v
  by_cases k:j=0
  ·rw[I k]
   have C:decide (s.length=0)=false:=decide_eq_false (by omega)
   have e:((j:Int)==0)=true:=by simp;omega
   simp only[ct,k,ne_eq,not_true_eq_false,decide_false,Bool.false_or,C,Nat.zero_add,show decide (¬ (1=0))=true by decide,Bool.true_or,Bool.true_and]
   simp only[k] at *
   generalize s[0].toNat=v
   by_cases D:97≤v<;>by_cases F:v≤122<;>simp[D,F,show((97:Int)≤v)↔97≤v by omega,show((v:Int)≤122)↔v≤122 by omega]
  ·have e:((j:Int)==0)=false:=by simp;omega
   simp only[ct,e,k,ne_eq,not_false_eq_true,decide_true,Bool.true_or,Bool.true_and,show decide (¬ (j+1=0))=true by simp]
   generalize s[j].toNat=v
   generalize (s.drop (j+1)).all _=r
   by_cases D:97≤v<;>by_cases F:v≤122<;>by_cases L:48≤v<;>by_cases M:v≤57<;>by_cases S:v=95 <;>
    simp[D,F,L,M,show((97:Int)≤v)↔97≤v by omega,show((v:Int)≤122)↔v≤122 by omega,show((v:Int)<48)↔¬ 48≤v by omega,show((57:Int)<v)↔¬ v≤57 by omega,show((v:Int) != 95)=!decide (v=95) by (by_cases v=95<;>simp_all<;>omega),S]
theorem Auv {N:Nat} {s:List UInt8} {K:Bool→O R} (hN:64≤N):UD N s K=K (A2w s):=by
 rw[uz];unfold lH OP ZB
 dsimp only
 unfold A2w
 by_cases k:1≤s.length
 ·by_cases C:s.length≤16
  ·have D:=pf (R:=R) (N:=N) (s:=s) (K:=K) (by omega) s.length 0 N (by omega) (by omega)
   simp only[List.drop_zero,Int.natCast_zero] at D
   rw[D]
   simp only[k,C,show(decide ((s.length:Int)<1))=false by simp;omega,show(decide ((s.length:Int)>16))=false by simp;omega,decide_true,cond_true,cond_false,beq_self_eq_true]
   have:s.length≠0:=by omega
   cases s==[99,111,114,114,101,99,116,105,118,101]<;>simp[this]
  ·simp[k,C,show((s.length:Int)<1)↔¬ 1≤s.length by omega,show((16:Int)<s.length)↔¬ s.length≤16 by omega]
 ·simp[k,show((s.length:Int)<1)↔¬ 1≤s.length by omega]
end
end Gx.Cf

namespace Gx.Cf
open Go Go.Proofs
section
variable {R:Type}
def wv (names:List (List UInt8)) (k i:Int) (s:List UInt8) (p:Kk):Kk:=nd (nd p (A2w s) (k,i,0) ⟨9,by decide⟩) (names.all fun x=>!(x==s)) (k,i,0) ⟨10,by decide⟩
theorem V' (a:BusD):a.av.length=3:=rfl
theorem H4 (a:LineD):a.av.length=12:=rfl
theorem Rt (a:UnitD):a.av.length=22:=rfl
theorem Qg (a:StoreD):a.av.length=9:=rfl
theorem B' (a:TieD):a.av.length=5:=rfl
theorem Qh (a:OutD):a.av.length=4:=rfl
end
end Gx.Cf

namespace Gx.Cf
open Go Go.Proofs
section
variable {R:Type}
structure Small (c:CaseD) (N:Nat):Prop where
 n64:64≤N
 res:Uk c.reserve.l.length N
 bus:Uk c.buses.l.length N
 lin:Uk c.lines.l.length N
 uni:Uk c.units.l.length N
 sto:Uk c.stores.l.length N
 tie:Uk c.ties.l.length N
 out:Uk c.outs.l.length N
 dem:∀ b ∈ c.buses.l,Uk b.demand.l.length N
 law:∀ b ∈ c.lines.l,Uk b.away.l.length N
 seg:∀ b ∈ c.units.l,Uk b.segs.l.length N
 uaw:∀ b ∈ c.units.l,Uk b.away.l.length N
 tim:∀ b ∈ c.ties.l,Uk b.imp.l.length N
 tex:∀ b ∈ c.ties.l,Uk b.exp.l.length N
 tpr:∀ b ∈ c.ties.l,Uk b.price.l.length N
 oli:∀ b ∈ c.outs.l,Uk b.lines.l.length N
 omo:∀ b ∈ c.outs.l,Uk b.moves.l.length N
 omb:∀ b ∈ c.outs.l,b.moves.l.length<8796093022208
 top:c.buses.l.length≤1000000∧c.lines.l.length≤1000000∧c.units.l.length≤1000000∧c.stores.l.length≤1000000∧c.ties.l.length≤1000000∧c.outs.l.length≤1000000
def Gz {α:Type} (f:Nat→α→Kk→Kk):List α→Nat→Kk→Kk
 | [],_,p=>p
 | a::r,j,p=>Gz f r (j+1) (f j a p)
theorem Qi {α:Type} {f:Nat→α→Kk→Kk} {x:(Int×Int×Int)×{ e:Int // e≠0 }} (k:∀ j a,f j a (some x)=some x):∀ (l:List α) (j:Nat),Gz f l j (some x)=some x
 | [],_=>rfl
 | a::r,j=>by rw[Gz,k];exact Qi k r (j+1)
abbrev e1:{ e:Int // e≠0 }:=⟨1,by decide⟩
abbrev e3:{ e:Int // e≠0 }:=⟨3,by decide⟩
abbrev e4:{ e:Int // e≠0 }:=⟨4,by decide⟩
abbrev e8:{ e:Int // e≠0 }:=⟨8,by decide⟩
abbrev Bme:{ e:Int // e≠0 }:=⟨11,by decide⟩
abbrev Bf9:{ e:Int // e≠0 }:=⟨12,by decide⟩
abbrev Boh:{ e:Int // e≠0 }:=⟨13,by decide⟩
abbrev Bnq:{ e:Int // e≠0 }:=⟨16,by decide⟩
def Bbi (c:CaseD) (p:Kk):Kk :=
 let p:=nd p (Fv 1 24 c.hours) (0,0,0) e3
 let p:=Ax6 c.hours c.reserve.l 0 1048576 (0,0,1) p
 let p:=nd p (Fv 1 32 (c.buses.l.length:Int)) (0,0,2) e8
 let p:=nd p (decide ((c.lines.l.length:Int)≤64)) (0,0,3) e8
 let p:=nd p (decide ((c.units.l.length:Int)≤16)) (0,0,4) e8
 let p:=nd p (decide ((c.stores.l.length:Int)≤8)) (0,0,5) e8
 let p:=nd p (decide ((c.ties.l.length:Int)≤8)) (0,0,6) e8
 nd p (decide ((c.outs.l.length:Int)≤64)) (0,0,7) e8
def Bka (c:CaseD) (j:Nat) (b:BusD) (p:Kk):Kk :=
 let p:=wv ((c.buses.l.map (·.name)).take j) 1 j b.name p
 let p:=Ax6 c.hours b.demand.l 0 1048576 (1,j,1) p
 nd p (Fv 0 1048576 b.shed) (1,j,2) e3
def Ax7 (c:CaseD) (j:Nat) (x:LineD) (p:Kk):Kk :=
 let p:=wv ((c.lines.l.map (·.name)).take j) 2 j x.name p
 let p:=nd p (Aet c x.fr) (2,j,1) Bf9
 let p:=nd p (Aet c x.to) (2,j,2) Bf9
 let p:=nd p (x.to != x.fr) (2,j,2) e1
 let p:=nd p (Ul x.re&&decide (x.re.num>0)) (2,j,3) e3
 let p:=nd p (Ul x.smin&&decide (x.smin.num≤0)) (2,j,4) e3
 let p:=nd p (Ul x.smax&&decide (x.smax.num≥0)) (2,j,5) e3
 let p:=nd p (Fv 0 1048576 x.limit) (2,j,6) e3
 let p:=nd p (Fv x.limit 1048576 x.emer) (2,j,7) e3
 Aq5 c.hours x.away.l (2,j,8) p
def Aq6 (c:CaseD) (j:Nat) (x:StoreD) (p:Kk):Kk :=
 let p:=wv ((c.stores.l.map (·.name)).take j) 4 j x.name p
 let p:=nd p (Aet c x.bus) (4,j,1) Bf9
 let p:=nd p (Fv 0 1048576 x.capacity) (4,j,2) e3
 let p:=nd p (Fv 0 x.capacity x.initial) (4,j,3) e3
 let p:=nd p (Fv 0 x.capacity x.final) (4,j,4) e3
 let p:=nd p (Fv 0 1048576 x.charge) (4,j,5) e3
 let p:=nd p (Fv 0 1048576 x.discharge) (4,j,6) e3
 nd p (Ul x.eff&&(decide (x.eff.num>0)&&decide (x.eff.num≤x.eff.den))) (4,j,7) e3
def Bkb (c:CaseD) (j:Nat) (x:TieD) (p:Kk):Kk :=
 let p:=wv ((c.ties.l.map (·.name)).take j) 5 j x.name p
 let p:=nd p (Aet c x.bus) (5,j,1) Bf9
 let p:=Ax6 c.hours x.imp.l 0 1048576 (5,j,2) p
 let p:=Ax6 c.hours x.exp.l 0 1048576 (5,j,3) p
 Ax6 c.hours x.price.l (-1048576) 1048576 (5,j,4) p
end
end Gx.Cf

namespace Gx.Cf
open Go Go.Proofs
section
variable {R:Type}
theorem LJ (a:SegD):a.av.length=2:=rfl
theorem Ru (a:MoveD):a.av.length=3:=rfl
def Gt (s:SegD):Bool:=Fv 1 1048576 s.width&&Fv (-1048576) 1048576 s.price
def aA (a:Int):List SegD→Int
 | []=>a
 | s::r=>aA (IntKind.wrap .i64 (a+s.width)) r
def kC:List SegD→Bool
 | a::b::r=>decide (b.price≥a.price)&&kC (b::r)
 | _=>true
theorem aB (a b:SegD) (r:List SegD):kC (a::b::r)=(decide (b.price≥a.price)&&kC (b::r)):=by rw[kC]
theorem Aq7 (a:SegD):kC [a]=true:=by rw[kC];intros;simp_all
theorem A7m:kC []=true:=by rw[kC];intros;simp_all
def Bis (u:UnitD) (j:Nat) (p:Kk):Kk :=
 let p:=nd p (decide ((u.segs.l.length:Int)≤8)) (3,j,4) e8
 let p:=nd p (u.segs.l.all Gt) (3,j,4) e3
 let p:=nd p (kC u.segs.l) (3,j,4) Bme
 nd p (aA 0 u.segs.l==IntKind.wrap .i64 (u.max - u.min)) (3,j,4) e4
theorem zH {u:UnitD} {f:LA→Nat→O R}:B9 2 (List.drop 4 u.av) f=f (u.segs.l.flatMap SegD.av) u.segs.l.length:=by simp[UnitD.av,Ii]
theorem Bk9 {u:UnitD} {f:Int→O R}:Ao .i64 (List.drop 3 u.av) f=f u.max:=by simp[UnitD.av,A1]
theorem Bla {u:UnitD} {f:Int→O R}:Ao .i64 (List.drop 2 u.av) f=f u.min:=by simp[UnitD.av,A1]
theorem Ax8 {l:List SegD} {j:Nat} (h:j<l.length) {f:Int→O R}:Ao .i64 (List.drop 1 (List.drop ((Int.toNat (j:Int))*2) (l.flatMap SegD.av))) f=f l[j].price:=by
 rw[Int.toNat_natCast,Bo LJ _ _ h];simp[SegD.av,A1]
theorem Bga {l:List SegD} {j:Nat} (h:j<l.length) {f:Int→O R}:Ao .i64 (List.drop ((Int.toNat (j:Int))*2) (l.flatMap SegD.av)) f=f l[j].width:=by
 rw[Int.toNat_natCast,Bo LJ _ _ h];simp[SegD.av,A1]
def A7n (c:CaseD) (j:Nat) (u:UnitD) (p:Kk):Kk :=
 let p:=wv ((c.units.l.map (·.name)).take j) 3 j u.name p
 let p:=nd p (Aet c u.bus) (3,j,1) Bf9
 let p:=nd p (Fv 0 1048576 u.min) (3,j,2) e3
 let p:=nd p (Fv u.min 1048576 u.max) (3,j,3) e3
 let p:=Bis u j p
 let p:=nd p (Fv 0 1048576 u.noLoad) (3,j,5) e3
 let p:=nd p (Fv 0 1048576 u.rampUp) (3,j,6) e3
 let p:=nd p (Fv 0 1048576 u.rampDown) (3,j,7) e3
 let p:=nd p (Fv u.min u.max u.startRamp) (3,j,8) e3
 let p:=nd p (Fv u.min u.max u.stopRamp) (3,j,9) e3
 let p:=nd p (Fv 0 24 u.upTime) (3,j,10) e3
 let p:=nd p (Fv 0 24 u.downTime) (3,j,11) e3
 let p:=nd p (Fv 0 24 u.startTime) (3,j,12) e3
 let p:=nd p (Fv 0 1048576 u.hotCost) (3,j,13) e3
 let p:=nd p (Fv 0 1048576 u.coldCost) (3,j,14) e3
 let p:=nd p (Fv 0 24 u.hotHours) (3,j,15) e3
 let p:=nd p (Fv 0 1048576 u.reserve) (3,j,16) e3
 let p:=nd p (Fv 0 1048576 u.reservePrice) (3,j,17) e3
 let p:=Aq5 c.hours u.away.l (3,j,18) p
 let p:=nd p (Fv 0 2 u.state) (3,j,19) Bf9
 let p:=nd p (u.state != 1||u.startTime != 0) (3,j,19) Bnq
 let p:=nd p (Fv 1 48 u.hours) (3,j,20) e3
 let p:=nd p (u.state != 1||decide (u.hours≤u.startTime)) (3,j,20) e3
 cond (u.state==2) (nd p (Fv u.min u.max u.output) (3,j,21) e3) (nd p (Fv 0 0 u.output) (3,j,21) e3)
def Bkc (c:CaseD) (m:MoveD):Bool:=decide (0≤m.unit)&&decide (m.unit<(c.units.l.length:Int))
def Bgb (m:MoveD):Bool:=Fv 0 1048576 m.up&&Fv 0 1048576 m.down
def Bbj (c:CaseD) (o:OutD) (j:Nat) (p:Kk):Kk :=
 let p:=nd p ((o.moves.l.length:Int)==0||o.corr) (6,j,3) Bnq
 let p:=nd p (decide ((o.moves.l.length:Int)≤16)) (6,j,3) e8
 let p:=nd p (o.moves.l.all (Bkc c)) (6,j,3) Bf9
 let p:=nd p (Arl (o.moves.l.map (·.unit))) (6,j,3) Bme
 nd p (o.moves.l.all Bgb) (6,j,3) e3
theorem Bc0 {u:OutD} {f:LA→Nat→O R}:B9 3 (List.drop 3 u.av) f=f (u.moves.l.flatMap MoveD.av) u.moves.l.length:=by simp[OutD.av,Ii]
theorem Bmf {u:OutD} {f:Bool→O R}:RW (List.drop 2 u.av) f=f u.corr:=by simp[OutD.av,Biq]
def Bgc (c:CaseD) (j:Nat) (x:OutD) (p:Kk):Kk :=
 let p:=wv ((c.outs.l.map (·.name)).take j) 6 j x.name p
 let p:=nd p ((x.lines.l.length:Int)==1||(x.lines.l.length:Int)==2) (6,j,1) e4
 let p:=nd p (x.lines.l.all fun n=>decide (0≤n)&&decide (n<(c.lines.l.length:Int))) (6,j,1) Bf9
 let p:=nd p (Arl x.lines.l) (6,j,1) Bme
 Bbj c x j p
theorem zI {c:CaseD} {j:Nat} {x:OutD} {y:(Int×Int×Int)×{ e:Int // e≠0 }}:Bgc c j x (some y)=some y:=rfl
end
end Gx.Cf

namespace Gx.Cf
open Go Go.Proofs
section
variable {R:Type}
theorem Bkd {u:OutD} {f:LA→Nat→O R}:B9 1 (List.drop 1 u.av) f=f (Av u.lines.l) u.lines.l.length:=by simp[OutD.av,Ii,F2]
end
end Gx.Cf

namespace Gx.Cf
open Go Go.Proofs
section
variable {R:Type}
def H5 (l:List (List UInt8)):LA:=l.map fun s=>.str s
theorem Vh (l:List (List UInt8)):(H5 l).length=l.length:=by simp[H5]
theorem Aq8 {l:List (List UInt8)} {i:Nat} (h:i<l.length) {f:List UInt8→O R}:A24 (List.drop i (H5 l)) f=f l[i]:=by
 rw[H5,List.drop_eq_getElem_cons (by simpa using h)];simp[LH]
theorem Gg {c:CaseD}:List.take 8 c.av=c.av:=rfl
theorem Qj {c:CaseD}:Nat.ble 8 (List.length c.av)=true:=rfl
theorem WA {N:Nat} {c:CaseD} {o:Bool} {K:Nat→LA→O R} (C:c.buses.l.length≤1000000):∀ (m j fuel:Nat),j+m=c.buses.l.length→m<fuel →
  Mq N K o c.av fuel j (j:Int) (H5 ((c.buses.l.take j).map (·.name)))=K c.buses.l.length (H5 (c.buses.l.map (·.name)))
 | 0,j,fuel+1,D,_=>by
  rw[Mq];unfold Zm
  have k:j=c.buses.l.length:=by omega
  rw[W3,Kn (by omega),cf,List.take_of_length_le (by omega),k]
 | m+1,j,fuel+1,D,I=>by
  rw[Mq];unfold Zm
  have h:j<c.buses.l.length:=by omega
  have b3:(Nat.ble (j+1) 140737488355328&&Nat.ble ((j+1)*16) 140737488355328)=true:=by rw[Fm,Fm];simp;omega
  have F:List.take (j*1) (H5 ((c.buses.l.take j).map (·.name)))++[.str c.buses.l[j].name]=H5 ((c.buses.l.take (j+1)).map (·.name)):=by
   rw[List.take_of_length_le (by simp[Vh];omega),List.take_succ_eq_append_getElem h,List.map_append];simp[H5]
  have G:∀ f:List UInt8→O R,A24 (List.drop (j*3) (List.flatMap BusD.av c.buses.l)) f=f c.buses.l[j].name:=fun f=>by rw[Bo V' _ _ h];simp[BusD.av,LH]
  rw[W3,Iz h,ct,W3,Aa h,ct,Int.toNat_natCast,G,b3,ct,F,Fu (by omega),WA C m (j+1) fuel (by omega) (by omega)]
theorem A7o {N:Nat} {c:CaseD} {o:Bool} {K:Nat→LA→O R} (hs:Small c N):Hs N c.av o 1 K=K (c.buses.l.map (·.name)).length (H5 (c.buses.l.map (·.name))):=by
 rw[Kg];unfold Mw
 have:=WA (R:=R) (N:=N) (c:=c) (o:=o) (K:=K) hs.top.1 c.buses.l.length 0 N (by omega) hs.bus.1
 simpa[H5] using this
theorem WB {N:Nat} {c:CaseD} {o:Bool} {K:Nat→LA→O R} (C:c.lines.l.length≤1000000):∀ (m j fuel:Nat),j+m=c.lines.l.length→m<fuel →
  Mr N K o c.av fuel j (j:Int) (H5 ((c.lines.l.take j).map (·.name)))=K c.lines.l.length (H5 (c.lines.l.map (·.name)))
 | 0,j,fuel+1,D,_=>by
  rw[Mr];unfold Zn
  have k:j=c.lines.l.length:=by omega
  rw[Te,Kn (by omega),cf,List.take_of_length_le (by omega),k]
 | m+1,j,fuel+1,D,I=>by
  rw[Mr];unfold Zn
  have h:j<c.lines.l.length:=by omega
  have b3:(Nat.ble (j+1) 140737488355328&&Nat.ble ((j+1)*16) 140737488355328)=true:=by rw[Fm,Fm];simp;omega
  have F:List.take (j*1) (H5 ((c.lines.l.take j).map (·.name)))++[.str c.lines.l[j].name]=H5 ((c.lines.l.take (j+1)).map (·.name)):=by
   rw[List.take_of_length_le (by simp[Vh];omega),List.take_succ_eq_append_getElem h,List.map_append];simp[H5]
  have G:∀ f:List UInt8→O R,A24 (List.drop (j*12) (List.flatMap LineD.av c.lines.l)) f=f c.lines.l[j].name:=fun f=>by rw[Bo H4 _ _ h];simp[LineD.av,LH]
  rw[Te,Iz h,ct,Te,Aa h,ct,Int.toNat_natCast,G,b3,ct,F,Fu (by omega),WB C m (j+1) fuel (by omega) (by omega)]
theorem Aeu {N:Nat} {c:CaseD} {o:Bool} {K:Nat→LA→O R} (hs:Small c N):Hs N c.av o 2 K=K (c.lines.l.map (·.name)).length (H5 (c.lines.l.map (·.name))):=by
 rw[Kg];unfold Mw
 have:=WB (R:=R) (N:=N) (c:=c) (o:=o) (K:=K) hs.top.2.1 c.lines.l.length 0 N (by omega) hs.lin.1
 simpa[H5] using this
theorem WC {N:Nat} {c:CaseD} {o:Bool} {K:Nat→LA→O R} (C:c.units.l.length≤1000000):∀ (m j fuel:Nat),j+m=c.units.l.length→m<fuel →
  Ms N K o c.av fuel j (j:Int) (H5 ((c.units.l.take j).map (·.name)))=K c.units.l.length (H5 (c.units.l.map (·.name)))
 | 0,j,fuel+1,D,_=>by
  rw[Ms];unfold Zo
  have k:j=c.units.l.length:=by omega
  rw[LI,Kn (by omega),cf,List.take_of_length_le (by omega),k]
 | m+1,j,fuel+1,D,I=>by
  rw[Ms];unfold Zo
  have h:j<c.units.l.length:=by omega
  have b3:(Nat.ble (j+1) 140737488355328&&Nat.ble ((j+1)*16) 140737488355328)=true:=by rw[Fm,Fm];simp;omega
  have F:List.take (j*1) (H5 ((c.units.l.take j).map (·.name)))++[.str c.units.l[j].name]=H5 ((c.units.l.take (j+1)).map (·.name)):=by
   rw[List.take_of_length_le (by simp[Vh];omega),List.take_succ_eq_append_getElem h,List.map_append];simp[H5]
  have G:∀ f:List UInt8→O R,A24 (List.drop (j*22) (List.flatMap UnitD.av c.units.l)) f=f c.units.l[j].name:=fun f=>by rw[Bo Rt _ _ h];simp[UnitD.av,LH]
  rw[LI,Iz h,ct,LI,Aa h,ct,Int.toNat_natCast,G,b3,ct,F,Fu (by omega),WC C m (j+1) fuel (by omega) (by omega)]
theorem Aev {N:Nat} {c:CaseD} {o:Bool} {K:Nat→LA→O R} (hs:Small c N):Hs N c.av o 3 K=K (c.units.l.map (·.name)).length (H5 (c.units.l.map (·.name))):=by
 rw[Kg];unfold Mw
 have:=WC (R:=R) (N:=N) (c:=c) (o:=o) (K:=K) hs.top.2.2.1 c.units.l.length 0 N (by omega) hs.uni.1
 simpa[H5] using this
theorem PW {N:Nat} {c:CaseD} {o:Bool} {K:Nat→LA→O R} (C:c.stores.l.length≤1000000):∀ (m j fuel:Nat),j+m=c.stores.l.length→m<fuel →
  Mt N K o c.av fuel j (j:Int) (H5 ((c.stores.l.take j).map (·.name)))=K c.stores.l.length (H5 (c.stores.l.map (·.name)))
 | 0,j,fuel+1,D,_=>by
  rw[Mt];unfold Zp
  have k:j=c.stores.l.length:=by omega
  rw[GV,Kn (by omega),cf,List.take_of_length_le (by omega),k]
 | m+1,j,fuel+1,D,I=>by
  rw[Mt];unfold Zp
  have h:j<c.stores.l.length:=by omega
  have b3:(Nat.ble (j+1) 140737488355328&&Nat.ble ((j+1)*16) 140737488355328)=true:=by rw[Fm,Fm];simp;omega
  have F:List.take (j*1) (H5 ((c.stores.l.take j).map (·.name)))++[.str c.stores.l[j].name]=H5 ((c.stores.l.take (j+1)).map (·.name)):=by
   rw[List.take_of_length_le (by simp[Vh];omega),List.take_succ_eq_append_getElem h,List.map_append];simp[H5]
  have G:∀ f:List UInt8→O R,A24 (List.drop (j*9) (List.flatMap StoreD.av c.stores.l)) f=f c.stores.l[j].name:=fun f=>by rw[Bo Qg _ _ h];simp[StoreD.av,LH]
  rw[GV,Iz h,ct,GV,Aa h,ct,Int.toNat_natCast,G,b3,ct,F,Fu (by omega),PW C m (j+1) fuel (by omega) (by omega)]
theorem ww {N:Nat} {c:CaseD} {o:Bool} {K:Nat→LA→O R} (hs:Small c N):Hs N c.av o 4 K=K (c.stores.l.map (·.name)).length (H5 (c.stores.l.map (·.name))):=by
 rw[Kg];unfold Mw
 have:=PW (R:=R) (N:=N) (c:=c) (o:=o) (K:=K) hs.top.2.2.2.1 c.stores.l.length 0 N (by omega) hs.sto.1
 simpa[H5] using this
theorem eL {N:Nat} {c:CaseD} {o:Bool} {K:Nat→LA→O R} (C:c.ties.l.length≤1000000):∀ (m j fuel:Nat),j+m=c.ties.l.length→m<fuel →
  Mu N K o c.av fuel j (j:Int) (H5 ((c.ties.l.take j).map (·.name)))=K c.ties.l.length (H5 (c.ties.l.map (·.name)))
 | 0,j,fuel+1,D,_=>by
  rw[Mu];unfold Zq
  have k:j=c.ties.l.length:=by omega
  rw[lP,Kn (by omega),cf,List.take_of_length_le (by omega),k]
 | m+1,j,fuel+1,D,I=>by
  rw[Mu];unfold Zq
  have h:j<c.ties.l.length:=by omega
  have b3:(Nat.ble (j+1) 140737488355328&&Nat.ble ((j+1)*16) 140737488355328)=true:=by rw[Fm,Fm];simp;omega
  have F:List.take (j*1) (H5 ((c.ties.l.take j).map (·.name)))++[.str c.ties.l[j].name]=H5 ((c.ties.l.take (j+1)).map (·.name)):=by
   rw[List.take_of_length_le (by simp[Vh];omega),List.take_succ_eq_append_getElem h,List.map_append];simp[H5]
  have G:∀ f:List UInt8→O R,A24 (List.drop (j*5) (List.flatMap TieD.av c.ties.l)) f=f c.ties.l[j].name:=fun f=>by rw[Bo B' _ _ h];simp[TieD.av,LH]
  rw[lP,Iz h,ct,lP,Aa h,ct,Int.toNat_natCast,G,b3,ct,F,Fu (by omega),eL C m (j+1) fuel (by omega) (by omega)]
theorem Aq9 {N:Nat} {c:CaseD} {o:Bool} {K:Nat→LA→O R} (hs:Small c N):Hs N c.av o 5 K=K (c.ties.l.map (·.name)).length (H5 (c.ties.l.map (·.name))):=by
 rw[Kg];unfold Mw
 have:=eL (R:=R) (N:=N) (c:=c) (o:=o) (K:=K) hs.top.2.2.2.2.1 c.ties.l.length 0 N (by omega) hs.tie.1
 simpa[H5] using this
theorem eM {N:Nat} {c:CaseD} {o:Bool} {K:Nat→LA→O R} (C:c.outs.l.length≤1000000):∀ (m j fuel:Nat),j+m=c.outs.l.length→m<fuel →
  Mv N K o c.av fuel j (j:Int) (H5 ((c.outs.l.take j).map (·.name)))=K c.outs.l.length (H5 (c.outs.l.map (·.name)))
 | 0,j,fuel+1,D,_=>by
  rw[Mv];unfold Zr
  have k:j=c.outs.l.length:=by omega
  rw[F',Kn (by omega),cf,List.take_of_length_le (by omega),k]
 | m+1,j,fuel+1,D,L=>by
  rw[Mv];unfold Zr
  have h:j<c.outs.l.length:=by omega
  have b3:(Nat.ble (j+1) 140737488355328&&Nat.ble ((j+1)*16) 140737488355328)=true:=by rw[Fm,Fm];simp;omega
  have G:List.take (j*1) (H5 ((c.outs.l.take j).map (·.name)))++[.str c.outs.l[j].name]=H5 ((c.outs.l.take (j+1)).map (·.name)):=by
   rw[List.take_of_length_le (by simp[Vh];omega),List.take_succ_eq_append_getElem h,List.map_append];simp[H5]
  have I:∀ f:List UInt8→O R,A24 (List.drop (j*4) (List.flatMap OutD.av c.outs.l)) f=f c.outs.l[j].name:=fun f=>by rw[Bo Qh _ _ h];simp[OutD.av,LH]
  rw[F',Iz h,ct,F',Aa h,ct,Int.toNat_natCast,I,b3,ct,G,Fu (by omega),eM C m (j+1) fuel (by omega) (by omega)]
theorem Ara {N:Nat} {c:CaseD} {o:Bool} {K:Nat→LA→O R} (hs:Small c N):Hs N c.av o 6 K=K (c.outs.l.map (·.name)).length (H5 (c.outs.l.map (·.name))):=by
 rw[Kg];unfold Mw
 have:=eM (R:=R) (N:=N) (c:=c) (o:=o) (K:=K) hs.top.2.2.2.2.2 c.outs.l.length 0 N (by omega) hs.out.1
 simpa[H5] using this
theorem Xq {N:Nat} {L:List (List UInt8)} {k:Int} {n:Nat} {K:LA→O R} (hn:n<L.length) (hs:n<4611686018427387904):∀ (m j fuel:Nat) (p:Kk),j+m=n→m<fuel →
  Eh N K k (n:Int) L.length (H5 L) fuel (j:Int) (Dt p)=K (Dt (nd p (((L.take n).drop j).all fun x=>!(x==L[n])) (k,n,0) ⟨10,by decide⟩))
 | 0,j,fuel+1,p,C,_=>by
  rw[Eh];unfold Jq
  rw[Kn (by omega),cf,Dz (l:=L.take n) (by simp;omega),List.all_nil,Z_]
 | m+1,j,fuel+1,p,C,F=>by
  rw[Eh];unfold Jq
  have h:j<L.length:=by omega
  have D:j<(L.take n).length:=by simp;omega
  rw[Iz (by omega),ct,Aa h,ct,Int.toNat_natCast,Nat.zero_add,Nat.mul_one,Aq8 h,Aa hn,ct,Int.toNat_natCast,Nat.zero_add,Nat.mul_one,Aq8 hn,Ah (by decide),Fu (by omega),Xq hn hs m (j+1) fuel _ (by omega) (by omega),Bs D,List.all_cons,A7l]
  have e:(L.take n)[j]=L[j]:=by simp
  rw[e]
theorem En {N:Nat} {c:CaseD} {L:List (List UInt8)} {o:Bool} {p:Kk} {k:Int} {n:Nat} {K:LA→O R} (hN:64≤N) (hL:∀ K:Nat→LA→O R,Hs N c.av o k K=K L.length (H5 L)) (hn:n<L.length) (hs:Uk n N) :
  Cw N c.av o k (n:Int) (Dt p) K=K (Dt (wv (L.take n) k n L[n] p)):=by
 rw[A_];unfold O4
 rw[Gg,Qj,ct,hL,Aa hn,ct,Int.toNat_natCast,Nat.zero_add,Nat.mul_one,Aq8 hn,Auv hN,Ah (by decide)]
 have:=Xq (R:=R) (N:=N) (L:=L) (k:=k) (n:=n) (K:=K) hn hs.2 n 0 N (nd p (A2w L[n]) (k,n,0) ⟨9,by decide⟩) (by omega) hs.1
 simpa[wv] using this
theorem aC {N fuel:Nat} {c:CaseD} {o:Bool} {p:Kk} {K:LA→O R} (hs:Small c N):Bp N K o c.av (fuel+6) 2 (Dt p)=K (Dt
  (nd (nd (nd (nd (nd p (decide ((c.lines.l.length:Int)≤64)) (0,0,3) e8) (decide ((c.units.l.length:Int)≤16)) (0,0,4) e8) (decide ((c.stores.l.length:Int)≤8)) (0,0,5) e8) (decide ((c.ties.l.length:Int)≤8)) (0,0,6) e8) (decide ((c.outs.l.length:Int)≤64)) (0,0,7) e8)):=by
 have most:∀ (k:Nat) (n:Int) (K:Int→O R),k<7→([0,32,64,16,8,8,64]:List Int)[k]?=some n→Sw N (k:Int) K=K n:=by
  intro k n K C D
  rw[ux];unfold yb
  rw[Aa C,ct]
  have e:[(.int .i64 (0:Int)),(.int .i64 (32:Int)),(.int .i64 (64:Int)),(.int .i64 (16:Int)),(.int .i64 (8:Int)),(.int .i64 (8:Int)),(.int .i64 (64:Int))]=Av [0,32,64,16,8,8,64]:=rfl
  rw[e,Int.toNat_natCast,Nat.zero_add,Nat.mul_one,TQ (by simpa using C)]
  rw[List.getElem?_eq_getElem (by simpa using C)] at D
  simp only[Option.some.injEq] at D
  rw[D]
 have m2:∀ K:Int→O R,Sw N 2 K=K 64:=fun K=>most 2 64 K (by omega) rfl
 have m3:∀ K:Int→O R,Sw N 3 K=K 16:=fun K=>most 3 16 K (by omega) rfl
 have m4:∀ K:Int→O R,Sw N 4 K=K 8:=fun K=>most 4 8 K (by omega) rfl
 have m5:∀ K:Int→O R,Sw N 5 K=K 8:=fun K=>most 5 8 K (by omega) rfl
 have m6:∀ K:Int→O R,Sw N 6 K=K 64:=fun K=>most 6 64 K (by omega) rfl
 have F:IntKind.wrap .i64 (2+1)=3:=rfl
 have w3:IntKind.wrap .i64 (3+1)=4:=rfl
 have G:IntKind.wrap .i64 (4+1)=5:=rfl
 have I:IntKind.wrap .i64 (5+1)=6:=rfl
 have L:IntKind.wrap .i64 (6+1)=7:=rfl
 rw[Bp];unfold Cu
 rw[show decide ((2:Int)≤6)=true from rfl,ct,Qj,ct,Gg,Aeu hs,m2,Ah (by decide),F]
 rw[Bp];unfold Cu
 rw[show decide ((3:Int)≤6)=true from rfl,ct,Qj,ct,Gg,Aev hs,m3,Ah (by decide),w3]
 rw[Bp];unfold Cu
 rw[show decide ((4:Int)≤6)=true from rfl,ct,Qj,ct,Gg,ww hs,m4,Ah (by decide),G]
 rw[Bp];unfold Cu
 rw[show decide ((5:Int)≤6)=true from rfl,ct,Qj,ct,Gg,Aq9 hs,m5,Ah (by decide),I]
 rw[Bp];unfold Cu
 rw[show decide ((6:Int)≤6)=true from rfl,ct,Qj,ct,Gg,Ara hs,m6,Ah (by decide),L]
 rw[Bp];unfold Cu
 rw[show decide ((7:Int)≤6)=false from rfl,cf]
 simp only[List.length_map]
theorem aD {N:Nat} {c:CaseD} {o:Bool} {p:Kk} {K:LA→O R} (hs:Small c N):Gu N c.av o (Dt p) K=K (Dt (Bbi c p)):=by
 have hN:=hs.n64
 rw[Xi];unfold Mx
 have:=fun p=>aC (fuel:=N - 6) (o:=o) (p:=p) (K:=K) hs
 rw[show N - 6+6=N by omega] at this
 simp only[V_,Ew (show 8≤N by omega),Ah (show(3:Int)≠0 by decide),Ah (show(8:Int)≠0 by decide),Qj,ct,Gg,Bbg,W3,E1 rfl hs.res,this]
 rfl
end
end Gx.Cf

namespace Gx.Cf
open Go Go.Proofs
section
variable {R:Type}
theorem RF {p:Kk} {f:Int→O R}:Ao .i64 (List.drop 3 (Dt p)) f=f (I0 p):=by
 rcases p with _ | ⟨⟨a,b,k⟩,e,C⟩<;>simp[Dt,Bir,A1,I0]
theorem Oq {N:Nat} {i:Int} {u:UnitD} {o:Bool} {p:Kk} {K:LA→O R} (hs:u.segs.l.length<4611686018427387904):∀ (m j fuel:Nat) (a:Int),j+m=u.segs.l.length→m<fuel →
  Dm N K i (Dt p) o u.av fuel a (j:Int)=K (Dt (nd p (aA a (u.segs.l.drop j)==IntKind.wrap .i64 (u.max - u.min)) (3,i,4) e4))
 | 0,j,fuel+1,a,C,_=>by
  rw[Dm];unfold Gc
  simp only[zH,Bk9,Bla,RF,Ah (show(4:Int)≠0 by decide)]
  rw[Kn (by omega),Dz (l:=u.segs.l) (by omega),aA,Z_]
  rcases p with _ | ⟨x,e,k⟩
  ·simp[I0]
  ·have:(e != 0)=true:=by simpa using k
   simp[I0,this,nd]
 | m+1,j,fuel+1,a,C,G=>by
  rw[Dm];unfold Gc
  have h:j<u.segs.l.length:=by omega
  simp only[zH,Bk9,Bla,RF,Ah (show(4:Int)≠0 by decide),Bga h,Aa h]
  rw[Iz h,Fu (by omega),Oq hs m (j+1) fuel _ (by omega) (by omega),Bs h,aA,Z_]
  rcases p with _ | ⟨x,e,k⟩
  ·simp[I0]
  ·have D:(e != 0)=true:=by simpa using k
   have F:(e==0)=false:=by simpa using k
   simp[I0,D,F,nd]
theorem Xr {N:Nat} {i:Int} {u:UnitD} {o:Bool} {K:LA→O R} (hs:Uk u.segs.l.length N):∀ (m j fuel:Nat) (p:Kk),j+1+m=u.segs.l.length→m<fuel →
  Cx N K i o u.av fuel ((j+1:Nat):Int) (Dt p)=K (Dt (nd (nd p (kC (u.segs.l.drop j)) (3,i,4) Bme) (aA 0 u.segs.l==IntKind.wrap .i64 (u.max - u.min)) (3,i,4) e4))
 | 0,j,fuel+1,p,k,_=>by
  rw[Cx];unfold Es
  rw[zH,Kn (by omega),cf,Bs (l:=u.segs.l) (j:=j) (by omega),Dz (l:=u.segs.l) (j:=j+1) (by omega),Aq7,Z_]
  have:=Oq (R:=R) (N:=N) (i:=i) (u:=u) (o:=o) (p:=p) (K:=K) hs.2 u.segs.l.length 0 N 0 (by omega) hs.1
  simpa using this
 | m+1,j,fuel+1,p,k,D=>by
  rw[Cx];unfold Es
  have h:j+1<u.segs.l.length:=by omega
  have h':j<u.segs.l.length:=by omega
  have C:=hs.2
  simp only[zH]
  rw[Iz h,ct,Aa h,ct,Ax8 h,Aq4 (by omega),Aa h',ct,Ax8 h',Fu (by omega),Ah (by decide),Xr hs m (j+1) fuel _ (by omega) (by omega),Bs h',Bs h,aB,A7l]
theorem Xs {N:Nat} {i:Int} {u:UnitD} {o:Bool} {K:LA→O R} (hN:8≤N) (hs:Uk u.segs.l.length N):∀ (m j fuel:Nat) (p:Kk),j+m=u.segs.l.length→m<fuel →
  Cy N K i (u.segs.l.flatMap SegD.av) u.segs.l.length o u.av fuel (u.segs.l.length:Int) (j:Int) (Dt p) =
   K (Dt (nd (nd (nd p ((u.segs.l.drop j).all Gt) (3,i,4) e3) (kC u.segs.l) (3,i,4) Bme) (aA 0 u.segs.l==IntKind.wrap .i64 (u.max - u.min)) (3,i,4) e4))
 | 0,j,fuel+1,p,C,_=>by
  rw[Cy];unfold Ge
  rw[Kn (by omega),cf,Dz (l:=u.segs.l) (by omega),List.all_nil,Z_]
  rcases k:u.segs.l with _ | ⟨b,r⟩
  ·rw[A7m,Z_]
   have l2:=Oq (R:=R) (N:=N) (i:=i) (u:=u) (o:=o) (p:=p) (K:=K) hs.2 u.segs.l.length 0 N 0 (by omega) hs.1
   rcases N with _ | N
   ·omega
   ·dsimp only
    rw[Cx];unfold Es
    rw[zH,k]
    simp only[List.length_nil,Int.natCast_zero]
    rw[show decide ((1:Int)<0)=false by decide,cf]
    rw[k] at l2
    simpa using l2
  ·have:=Xr (R:=R) (N:=N) (i:=i) (u:=u) (o:=o) (K:=K) hs r.length 0 N p (by rw[k];simp;omega) (by have:=hs.1;rw[k] at this;simp at this;omega)
   rw[k] at this
   simpa using this
 | m+1,j,fuel+1,p,C,I=>by
  rw[Cy];unfold Ge
  have h:j<u.segs.l.length:=by omega
  have D:=hs.2
  rw[Iz h,ct,Aa h,ct,Int.toNat_natCast,Bo LJ _ _ h,Bs h,List.all_cons,Fu (by omega)]
  have F:Nat.ble 2 (List.length (u.segs.l[j].av++List.flatMap SegD.av (List.drop (j+1) u.segs.l)))=true:=by rw[Fm,List.length_append,LJ];simp
  have G:List.take 2 (u.segs.l[j].av++List.flatMap SegD.av (List.drop (j+1) u.segs.l))=u.segs.l[j].av:=List.take_left' (LJ _)
  rw[F,ct,G,LJ]
  simp only[SegD.av,setCells,C3,List.nil_append,List.append_nil,List.drop_nil,List.drop_succ_cons,List.drop_zero,List.take_zero,List.length_cons,List.length_nil,A1,Fm,A2t,A8,Nat.reduceAdd,decide_true,Bool.and_true,Bool.or_true,Bool.not_false,cond_true,Nat.zero_add,Nat.le_refl,Ew hN,Ah (show(3:Int)≠0 by decide),Xs hN hs m (j+1) fuel _ (show j+1+m=_ by omega) (show m<fuel by omega)]
  unfold Gt
  rw[A7l,A7l]
  cases Fv 1 1048576 u.segs.l[j].width<;>rfl
theorem LP {N:Nat} {p:Kk} {j:Nat} {u:UnitD} {o:Bool} {K:LA→O R} (hN:8≤N) (hs:Uk u.segs.l.length N) :
  D2 N u.av o (j:Int) (Dt p) K=K (Dt (Bis u j p)):=by
 rw[S5];unfold Iu
 simp only[zH,Ah (show(8:Int)≠0 by decide)]
 have:=Xs (R:=R) (N:=N) (i:=j) (u:=u) (o:=o) (K:=K) hN hs u.segs.l.length 0 N (nd p (decide ((u.segs.l.length:Int)≤8)) (3,j,4) e8) (by omega) hs.1
 simpa[Bis] using this
theorem CA {N:Nat} {i:Int} {l:List MoveD} {o:Bool} {K:LA→O R} (hN:8≤N) (hs:l.length<4611686018427387904):∀ (m j fuel:Nat) (p:Kk),j+m=l.length→m<fuel →
  El N K i (l.flatMap MoveD.av) l.length o fuel (l.length:Int) (j:Int) (Dt p)=K (Dt (nd p ((l.drop j).all Bgb) (6,i,3) e3))
 | 0,j,fuel+1,p,k,_=>by
  rw[El];unfold Hg
  rw[Kn (by omega),cf,Dz (by omega),List.all_nil,Z_]
 | m+1,j,fuel+1,p,k,F=>by
  rw[El];unfold Hg
  have h:j<l.length:=by omega
  rw[Iz h,ct,Aa h,ct,Int.toNat_natCast,Bo Ru _ _ h,Bs h,List.all_cons,Fu (by omega)]
  have C:Nat.ble 3 (List.length (l[j].av++List.flatMap MoveD.av (List.drop (j+1) l)))=true:=by rw[Fm,List.length_append,Ru];simp
  have D:List.take 3 (l[j].av++List.flatMap MoveD.av (List.drop (j+1) l))=l[j].av:=List.take_left' (Ru _)
  rw[C,ct,D,Ru]
  simp only[MoveD.av,setCells,C3,List.nil_append,List.append_nil,List.drop_nil,List.drop_succ_cons,List.drop_zero,List.take_zero,List.length_cons,List.length_nil,A1,Fm,A2t,A8,Nat.reduceAdd,decide_true,Bool.and_true,Bool.or_true,Bool.not_false,cond_true,Nat.zero_add,Nat.le_refl,Ahe hN,Ah (show(3:Int)≠0 by decide),CA hN hs m (j+1) fuel _ (show j+1+m=_ by omega) (show m<fuel by omega)]
  rw[A7l];rfl
theorem CB {N:Nat} {c:CaseD} {i:Int} {u:OutD} {o:Bool} {p:Kk} {K:LA→O R} (hN:8≤N) (k:c.units.l.length≤1000000) (hs:Uk u.moves.l.length N) (C:u.moves.l.length<8796093022208):∀ (m j fuel:Nat),j+m=u.moves.l.length→m<fuel →
  Em N K i (u.moves.l.flatMap MoveD.av) u.moves.l.length o (Dt p) c.av u.av fuel j (u.moves.l.length:Int) (j:Int) (Av ((u.moves.l.take j).map (·.unit))) =
   K (Dt (nd (nd (nd p (u.moves.l.all (Bkc c)) (6,i,3) Bf9) (Arl (u.moves.l.map (·.unit))) (6,i,3) Bme) (u.moves.l.all Bgb) (6,i,3) e3))
 | 0,j,fuel+1,D,_=>by
  rw[Em];unfold Hh
  have F:j=u.moves.l.length:=by omega
  rw[Kn (by omega),cf,Nat.mul_one,List.take_of_length_le (by simp[Db];omega),List.take_of_length_le (show u.moves.l.length≤j by omega)]
  rw[LI,H3 (by simp;omega) (by simpa using hs),Ah (by decide),CU (by simp;omega) (by simpa using hs),Ah (by decide),Bc0]
  have:=CA (R:=R) (N:=N) (i:=i) (l:=u.moves.l) (o:=o) (K:=K) hN hs.2 u.moves.l.length 0 N (nd (nd p (u.moves.l.all (Bkc c)) (6,i,3) Bf9) (Arl (u.moves.l.map (·.unit))) (6,i,3) Bme) (by omega) hs.1
  have e:(u.moves.l.map (·.unit)).all (Fv 0 (IntKind.wrap .i64 ((c.units.l.length:Int) - 1)))=u.moves.l.all (Bkc c):=by
   rw[List.all_map];congr 1;funext m;exact Bbh _ _ (by omega)
  rw[e]
  simpa using this
 | m+1,j,fuel+1,D,M=>by
  rw[Em];unfold Hh
  have h:j<u.moves.l.length:=by omega
  have G:Nat.ble 3 (List.length (u.moves.l[j].av++List.flatMap MoveD.av (List.drop (j+1) u.moves.l)))=true:=by rw[Fm,List.length_append,Ru];simp
  have I:List.take 3 (u.moves.l[j].av++List.flatMap MoveD.av (List.drop (j+1) u.moves.l))=u.moves.l[j].av:=List.take_left' (Ru _)
  have b3:(decide (j≤140737488355327)&&decide ((j+1)*8≤140737488355328))=true:=by simp;omega
  have L:List.take (j*1) (Av ((u.moves.l.take j).map (·.unit)))++[.int .i64 u.moves.l[j].unit]=Av ((u.moves.l.take (j+1)).map (·.unit)):=by
   rw[List.take_of_length_le (by simp[Db];omega),List.take_succ_eq_append_getElem h,List.map_append,←Aes];rfl
  rw[Iz h,ct,Aa h,ct,Int.toNat_natCast,Bo Ru _ _ h,Fu (by omega),G,ct,I,Ru]
  simp only[MoveD.av,setCells,C3,List.nil_append,List.append_nil,List.drop_nil,List.drop_succ_cons,List.take_zero,List.length_cons,List.length_nil,A1,Fm,A2t,A8,Nat.reduceAdd,Nat.reduceLeDiff,decide_true,Bool.and_true,Bool.or_true,Bool.not_false,cond_true,Nat.zero_add,Nat.le_refl,b3,L,CB hN k hs C m (j+1) fuel (show j+1+m=_ by omega) (show m<fuel by omega)]
theorem kD {N:Nat} {c:CaseD} {p:Kk} {o:Bool} {j:Nat} {K:LA→O R} (hs:Small c N) (h:j<c.ties.l.length) :
  N1 N c.av o (j:Int) (Dt p) K=K (Dt (Bkb c j c.ties.l[j] p)):=by
 have hN:=hs.n64
 have hN8:8≤N:=by omega
 have C:=hs.tie
 have M:=hs.top
 have F:c.ties.l[j] ∈ c.ties.l:=List.getElem_mem h
 have S:=hs.tim _ F;have G:=hs.tex _ F;have I:=hs.tpr _ F
 have D:=@En R N c (c.ties.l.map (·.name)) o (k:=5) (n:=j) (hN:=hN) (hL:=fun K=>Aq9 hs) (hn:=by simpa using h) (hs:=⟨by have:=C.1;omega,by have:=C.2;omega⟩)
 have L:(c.ties.l.map (·.name))[j]'(by simpa using h)=c.ties.l[j].name:=by simp
 rw[L] at D
 rw[EI];unfold Yq 
 rw[lP,Aa h,ct,Int.toNat_natCast,Bo B' _ _ h]
 generalize c.ties.l[j]=b at *
 have T:Nat.ble 5 (List.length (b.av++List.flatMap TieD.av (List.drop (j+1) c.ties.l)))=true:=by rw[Fm,List.length_append,B'];simp
 have U:List.take 5 (b.av++List.flatMap TieD.av (List.drop (j+1) c.ties.l))=b.av:=List.take_left' (B' b)
 rw[T,ct,U,B']
 simp only[Gg,D,TieD.av,List.drop_succ_cons,List.drop_zero,A1,Ii,F2,Fm,A2t,decide_true,Bool.and_true,cond_true]
 simp only[J3 hN8 (show c.buses.l.length<4611686018427387904 by omega),E1 rfl S,E1 rfl G,E1 rfl I]
 rfl
theorem aE {N:Nat} {c:CaseD} {p:Kk} {o:Bool} {j:Nat} {K:LA→O R} (hs:Small c N) (h:j<c.stores.l.length) :
  Js N c.av o (j:Int) (Dt p) K=K (Dt (Aq6 c j c.stores.l[j] p)):=by
 have hN:=hs.n64
 have hN8:8≤N:=by omega
 have C:=hs.sto
 have G:=hs.top
 have M:c.stores.l[j] ∈ c.stores.l:=List.getElem_mem h
 skip
 have D:=@En R N c (c.stores.l.map (·.name)) o (k:=4) (n:=j) (hN:=hN) (hL:=fun K=>ww hs) (hn:=by simpa using h) (hs:=⟨by have:=C.1;omega,by have:=C.2;omega⟩)
 have F:(c.stores.l.map (·.name))[j]'(by simpa using h)=c.stores.l[j].name:=by simp
 rw[F] at D
 rw[Xk];unfold Uc 
 rw[GV,Aa h,ct,Int.toNat_natCast,Bo Qg _ _ h]
 generalize c.stores.l[j]=b at *
 have I:Nat.ble 9 (List.length (b.av++List.flatMap StoreD.av (List.drop (j+1) c.stores.l)))=true:=by rw[Fm,List.length_append,Qg];simp
 have L:List.take 9 (b.av++List.flatMap StoreD.av (List.drop (j+1) c.stores.l))=b.av:=List.take_left' (Qg b)
 rw[I,ct,L,Qg]
 simp only[Gg,D,StoreD.av,List.drop_succ_cons,List.drop_zero,List.take_succ_cons,List.take_zero,List.length_cons,List.length_nil,A1,Fm,A2t,A8,Nat.reduceAdd,decide_true,Bool.and_true,Bool.or_true,cond_true,Nat.zero_add,Nat.le_refl]
 simp only[J3 hN8 (show c.buses.l.length<4611686018427387904 by omega),Ew hN8,Ah (show(3:Int)≠0 by decide),PV hN8]
 unfold Aq6;cases Ul b.eff<;>cases decide (b.eff.num>0)<;>rfl
theorem ef {N:Nat} {c:CaseD} {p:Kk} {o:Bool} {j:Nat} {K:LA→O R} (hs:Small c N) (h:j<c.lines.l.length) :
  Hu N c.av o (j:Int) (Dt p) K=K (Dt (Ax7 c j c.lines.l[j] p)):=by
 have hN:=hs.n64
 have hN8:8≤N:=by omega
 have C:=hs.lin
 have G:=hs.top
 have I:c.lines.l[j] ∈ c.lines.l:=List.getElem_mem h
 have L:=hs.law _ I
 have D:=@En R N c (c.lines.l.map (·.name)) o (k:=2) (n:=j) (hN:=hN) (hL:=fun K=>Aeu hs) (hn:=by simpa using h) (hs:=⟨by have:=C.1;omega,by have:=C.2;omega⟩)
 have F:(c.lines.l.map (·.name))[j]'(by simpa using h)=c.lines.l[j].name:=by simp
 rw[F] at D
 rw[BD];unfold O5 Kv P4 R7 P3 R6
 rw[Te,Aa h,ct,Int.toNat_natCast,Bo H4 _ _ h]
 generalize c.lines.l[j]=b at *
 have M:Nat.ble 12 (List.length (b.av++List.flatMap LineD.av (List.drop (j+1) c.lines.l)))=true:=by rw[Fm,List.length_append,H4];simp
 have S:List.take 12 (b.av++List.flatMap LineD.av (List.drop (j+1) c.lines.l))=b.av:=List.take_left' (H4 b)
 rw[M,ct,S,H4]
 simp only[Gg,D,LineD.av,List.drop_succ_cons,List.drop_zero,List.take_succ_cons,List.take_zero,List.length_cons,List.length_nil,A1,Ii,F2,Fm,A2t,A8,Nat.reduceAdd,Nat.reduceLeDiff,decide_true,Bool.and_true,Bool.or_true,cond_true,Nat.zero_add]
 simp only[J3 hN8 (show c.buses.l.length<4611686018427387904 by omega),Ew hN8,Ah (show(1:Int)≠0 by decide),Ah (show(3:Int)≠0 by decide),PV hN8,Xp rfl L]
 unfold Ax7;rw[show(b.fr != b.to)=(b.to != b.fr) by simp[bne,BEq.comm (a:=b.fr)]];cases Ul b.re<;>cases Ul b.smin<;>cases Ul b.smax<;>rfl
end
end Gx.Cf

namespace Gx.Cf
open Go Go.Proofs
section
variable {R:Type}
def Bc1 (c:CaseD) (j:Nat) (u:UnitD) (p:Kk):Kk :=
 let p:=wv ((c.units.l.map (·.name)).take j) 3 j u.name p
 let p:=nd p (Aet c u.bus) (3,j,1) Bf9
 let p:=nd p (Fv 0 1048576 u.min) (3,j,2) e3
 let p:=nd p (Fv u.min 1048576 u.max) (3,j,3) e3
 let p:=Bis u j p
 let p:=nd p (Fv 0 1048576 u.noLoad) (3,j,5) e3
 let p:=nd p (Fv 0 1048576 u.rampUp) (3,j,6) e3
 let p:=nd p (Fv 0 1048576 u.rampDown) (3,j,7) e3
 let p:=nd p (Fv u.min u.max u.startRamp) (3,j,8) e3
 let p:=nd p (Fv u.min u.max u.stopRamp) (3,j,9) e3
 let p:=nd p (Fv 0 24 u.upTime) (3,j,10) e3
 nd p (Fv 0 24 u.downTime) (3,j,11) e3
def Bit (c:CaseD) (j:Nat) (u:UnitD) (p:Kk):Kk :=
 let p:=nd p (Fv 0 24 u.startTime) (3,j,12) e3
 let p:=nd p (Fv 0 1048576 u.hotCost) (3,j,13) e3
 let p:=nd p (Fv 0 1048576 u.coldCost) (3,j,14) e3
 let p:=nd p (Fv 0 24 u.hotHours) (3,j,15) e3
 let p:=nd p (Fv 0 1048576 u.reserve) (3,j,16) e3
 let p:=nd p (Fv 0 1048576 u.reservePrice) (3,j,17) e3
 let p:=Aq5 c.hours u.away.l (3,j,18) p
 let p:=nd p (Fv 0 2 u.state) (3,j,19) Bf9
 let p:=nd p (u.state != 1||decide (u.startTime>0)) (3,j,19) Bnq
 let p:=nd p (Fv 1 48 u.hours) (3,j,20) e3
 let p:=nd p (u.state != 1||decide (u.hours≤u.startTime)) (3,j,20) e3
 cond (u.state==2) (nd p (Fv u.min u.max u.output) (3,j,21) e3) (nd p (u.output==0) (3,j,21) e3)
theorem Bne (n:Int):Fv 0 0 n=(n==0):=by
 unfold Fv
 by_cases h:n=0
 ·simp[h]
 ·have:(n==0)=false:=by simpa using h
  rw[this];simp;omega
theorem Bke {c:CaseD} {j:Nat} {u:UnitD} {p:Kk}:Bit c j u (Bc1 c j u p)=A7n c j u p:=by
 show _=(let p:=nd (Bc1 c j u p) (Fv 0 24 u.startTime) (3,j,12) e3
  let p:=nd p (Fv 0 1048576 u.hotCost) (3,j,13) e3
  let p:=nd p (Fv 0 1048576 u.coldCost) (3,j,14) e3
  let p:=nd p (Fv 0 24 u.hotHours) (3,j,15) e3
  let p:=nd p (Fv 0 1048576 u.reserve) (3,j,16) e3
  let p:=nd p (Fv 0 1048576 u.reservePrice) (3,j,17) e3
  let p:=Aq5 c.hours u.away.l (3,j,18) p
  let p:=nd p (Fv 0 2 u.state) (3,j,19) Bf9
  let p:=nd p (u.state != 1||u.startTime != 0) (3,j,19) Bnq
  let p:=nd p (Fv 1 48 u.hours) (3,j,20) e3
  let p:=nd p (u.state != 1||decide (u.hours≤u.startTime)) (3,j,20) e3
  cond (u.state==2) (nd p (Fv u.min u.max u.output) (3,j,21) e3) (nd p (Fv 0 0 u.output) (3,j,21) e3))
 unfold Bit
 rw[Bne]
 cases hq:nd (Bc1 c j u p) (Fv 0 24 u.startTime) (3,(j:Int),12) e3 with
 | some x=>simp only[Bj9,Aq5]
 | none =>
  have k:Fv 0 24 u.startTime=true:=by
   cases C:Fv 0 24 u.startTime with
   | true=>rfl
   | false =>
    rw[C] at hq
    cases D:Bc1 c j u p<;>rw[D] at hq<;>simp[nd] at hq
  have:decide (u.startTime>0)=(u.startTime != 0):=by
   unfold Fv at k
   simp at k
   by_cases h:u.startTime=0
   ·simp[h]
   ·have F:(u.startTime != 0)=true:=by simpa using h
    rw[F];simp;omega
  rw[this]
theorem eg {N:Nat} {c:CaseD} {p:Kk} {o:Bool} {j:Nat} {K:LA→O R} (hs:Small c N) (h:j<c.units.l.length) :
  Hv N c.av o (j:Int) (Dt p) K=K (Dt (A7n c j c.units.l[j] p)):=by
 have hN:=hs.n64
 have hN8:8≤N:=by omega
 have C:=hs.uni
 have L:=hs.top
 have M:c.units.l[j] ∈ c.units.l:=List.getElem_mem h
 have S:=hs.seg _ M;have F:=hs.uaw _ M
 have D:=@En R N c (c.units.l.map (·.name)) o (k:=3) (n:=j) (hN:=hN) (hL:=fun K=>Aev hs) (hn:=by simpa using h) (hs:=⟨by have:=C.1;omega,by have:=C.2;omega⟩)
 have G:(c.units.l.map (·.name))[j]'(by simpa using h)=c.units.l[j].name:=by simp
 rw[G] at D
 rw[BF];unfold O6 Kw P8 R9
 rw[LI,Aa h,ct,Int.toNat_natCast,Bo Rt _ _ h]
 generalize c.units.l[j]=b at *
 have T:Nat.ble 22 (List.length (b.av++List.flatMap UnitD.av (List.drop (j+1) c.units.l)))=true:=by rw[Fm,List.length_append,Rt];simp
 have U:List.take 22 (b.av++List.flatMap UnitD.av (List.drop (j+1) c.units.l))=b.av:=List.take_left' (Rt b)
 rw[T,ct,U,Rt]
 have I:∀ (p:Kk) (K:LA→O R),D2 N [.str b.name,.int .i64 b.bus,.int .i64 b.min,.int .i64 b.max,b.segs.av 2 SegD.av,.int .i64 b.noLoad,.int .i64 b.rampUp,.int .i64 b.rampDown,.int .i64 b.startRamp,.int .i64 b.stopRamp,.int .i64 b.upTime,.int .i64 b.downTime,.int .i64 b.startTime,.int .i64 b.hotCost,.int .i64 b.coldCost,.int .i64 b.hotHours,.int .i64 b.reserve,.int .i64 b.reservePrice,b.away.av 1 JM,.int .i64 b.state,.int .i64 b.hours,.int .i64 b.output] o j (Dt p) K=K (Dt (Bis b j p)):=fun p K=>LP hN8 S
 simp only[Gg,D,UnitD.av,List.drop_succ_cons,List.drop_zero,List.take_succ_cons,List.take_zero,A1,Ii,F2,Fm,A2t,decide_true,Bool.and_true,cond_true,cond_false,Nat.le_refl]
 simp only[J3 hN8 (show c.buses.l.length<4611686018427387904 by omega),Ew hN8,Ah (show(3:Int)≠0 by decide),Ah (show(12:Int)≠0 by decide),Ah (show(16:Int)≠0 by decide),I,Xp rfl F]
 rw[←Bke]
 unfold Bit
 by_cases s1:b.state=1
 ·simp[s1];rfl
 ·have a4:(b.state != 1)=true:=by simpa using s1
  rw[a4]
  cases b.state==2<;>rfl
theorem WD {N:Nat} {c:CaseD} {p:Kk} {o:Bool} {j:Nat} {K:LA→O R} (hs:Small c N) (h:j<c.outs.l.length) :
  F4 N c.av o (j:Int) (Dt p) K=K (Dt (Bgc c j c.outs.l[j] p)):=by
 have hN:=hs.n64
 have hN8:8≤N:=by omega
 have C:=hs.out
 have D:=hs.top
 have L:c.outs.l[j] ∈ c.outs.l:=List.getElem_mem h
 have T:=hs.oli _ L;have G:=hs.omo _ L;have M:=hs.omb _ L
 have I:=@En R N c (c.outs.l.map (·.name)) o (k:=6) (n:=j) (hN:=hN) (hL:=fun K=>Ara hs) (hn:=by simpa using h) (hs:=⟨by have:=C.1;omega,by have:=C.2;omega⟩)
 have S:(c.outs.l.map (·.name))[j]'(by simpa using h)=c.outs.l[j].name:=by simp
 rw[S] at I
 rw[Wk];unfold Kx Iv M0
 rw[F',Aa h,ct,Int.toNat_natCast,Bo Qh _ _ h]
 generalize c.outs.l[j]=b at *
 have U:Nat.ble 4 (List.length (b.av++List.flatMap OutD.av (List.drop (j+1) c.outs.l)))=true:=by rw[Fm,List.length_append,Qh];simp
 have V:List.take 4 (b.av++List.flatMap OutD.av (List.drop (j+1) c.outs.l))=b.av:=List.take_left' (Qh b)
 rw[U,ct,V,Qh]
 have l1:=fun p=>CB (R:=R) (N:=N) (c:=c) (i:=j) (u:=b) (o:=o) (p:=p) (K:=K) hN8 D.2.2.1 G M b.moves.l.length 0 N (by omega) G.1
 simp only[List.take_zero,List.map_nil,Int.natCast_zero,Av] at l1
 simp only[A2t,decide_true,Bool.and_true,cond_true,Qj,Gg,I,Bkd,Bc0,Bmf,Ew hN8,H3 rfl T,CU rfl T,Te,Ah (show(4:Int)≠0 by decide),Ah (show(8:Int)≠0 by decide),Ah (show(11:Int)≠0 by decide),Ah (show(12:Int)≠0 by decide),Ah (show(16:Int)≠0 by decide),l1]
 have a1:Fv 1 2 (b.lines.l.length:Int)=((b.lines.l.length:Int)==1||(b.lines.l.length:Int)==2):=by
  unfold Fv
  by_cases x1:b.lines.l.length=1
  ·simp[x1]
  ·by_cases x2:b.lines.l.length=2
   ·simp[x2]
   ·have y1:((b.lines.l.length:Int)==1)=false:=by simp;omega
    have y2:((b.lines.l.length:Int)==2)=false:=by simp;omega
    rw[y1,y2];simp;omega
 have a2:b.lines.l.all (Fv 0 (IntKind.wrap .i64 ((c.lines.l.length:Int) - 1)))=b.lines.l.all fun n=>decide (0≤n)&&decide (n<(c.lines.l.length:Int)):=by
  congr 1;funext n;exact Bbh _ _ (by omega)
 rw[a1,a2]
 unfold Bgc Bbj
 cases b.corr
 ·simp
 ·simp
end
end Gx.Cf

namespace Gx.Cf
inductive Conn (es:List (Nat×Nat)):Nat→Nat→Prop
 | refl (a:Nat):Conn es a a
 | fwd {u v b:Nat}:(u,v) ∈ es→Conn es v b→Conn es u b
 | bwd {u v b:Nat}:(u,v) ∈ es→Conn es u b→Conn es v b
theorem Conn.trans {es:List (Nat×Nat)} {a b c:Nat} (F:Conn es a b) (k:Conn es b c):Conn es a c:=by
 induction F with
 | refl=>exact k
 | fwd C _ D=>exact .fwd C (D k)
 | bwd C _ D=>exact .bwd C (D k)
theorem Conn.symm {es:List (Nat×Nat)} {a b:Nat} (h:Conn es a b):Conn es b a:=by
 induction h with
 | refl=>exact .refl _
 | fwd k _ C=>exact C.trans (.bwd k (.refl _))
 | bwd k _ C=>exact C.trans (.fwd k (.refl _))
theorem Conn.mono {es fs:List (Nat×Nat)} (hs:∀ e ∈ es,e ∈ fs) {a b:Nat} (h:Conn es a b):Conn fs a b:=by
 induction h with
 | refl=>exact .refl _
 | fwd k _ C=>exact .fwd (hs _ k) C
 | bwd k _ C=>exact .bwd (hs _ k) C
def Aew (es:List (Nat×Nat)) (b:Nat):Prop:=∀ a,a<b→¬ Conn es a b
open Classical in
noncomputable def CC (n:Nat) (es:List (Nat×Nat)):Nat:=((List.range n).filter fun b=>decide (Aew es b)).length
theorem Bbk {n:Nat} {es fs:List (Nat×Nat)} (h:∀ e ∈ es,e ∈ fs):CC n fs≤CC n es:=by
 unfold CC
 have:∀ (l:List Nat),(l.filter fun b=>@decide (Aew fs b) (Classical.propDecidable _)).length≤(l.filter fun b=>@decide (Aew es b) (Classical.propDecidable _)).length:=by
  intro l
  induction l with
  | nil=>simp
  | cons a r k =>
   rw[List.filter_cons,List.filter_cons]
   by_cases x:Aew fs a
   ·have:Aew es a:=fun b C D=>x b C (D.mono h)
    simp[x,this,k]
   ·by_cases y:Aew es a<;>simp[x,y]<;>omega
 exact this _
def Tf (n:Nat):List Int:=(List.range n).map fun b:Nat=>(b:Int)
theorem Ax9 {n a:Nat} (h:a<n):(Tf n).getD a 0=(a:Int):=by
 rw[List.getD_eq_getElem?_getD,Tf,List.getElem?_map,List.getElem?_range h];rfl
structure LeastOk (n:Nat) (es:List (Nat×Nat)) (L:List Int):Prop where
 len:L.length=n
 low:∀ b,b<n→0≤L.getD b 0∧L.getD b 0≤b
 con:∀ b,b<n→Conn es (L.getD b 0).toNat b
def Bc2 (es:List (Nat×Nat)) (L:List Int):Prop:=∀ e ∈ es,L.getD e.1 0=L.getD e.2 0
def Bkf (L:List Int):Nat:=((List.range L.length).filter fun b=>L.getD b 0==(b:Int)).length
theorem Aex {n:Nat} {es:List (Nat×Nat)} {L:List Int} (h:LeastOk n es L) (G:Bc2 es L) (I:∀ e ∈ es,e.1<n∧e.2<n):Bkf L=CC n es:=by
 unfold Bkf CC
 rw[h.len]
 congr 1
 apply List.filter_congr
 intro b C
 have C:b<n:=by simpa using C
 have conn_eq:∀ a b,Conn es a b→L.getD a 0=L.getD b 0:=by
  intro a b D
  induction D with
  | refl=>rfl
  | fwd k _ F=>exact(G _ k).trans F
  | bwd k _ F=>exact(G _ k).symm.trans F
 have M:=h.low b C
 by_cases x:L.getD b 0=(b:Int)
 ·have:Aew es b:=fun a S D=>by
   have e:=conn_eq a b D
   have:=(h.low a (by omega)).2
   omega
  have x':(L.getD b 0==(b:Int))=true:=by simpa using x
  rw[x'];simp[this]
 ·have x':(L.getD b 0==(b:Int))=false:=by simpa using x
  have:¬ Aew es b:=fun k=>k (L.getD b 0).toNat (by omega) (h.con b C)
  rw[x'];simp[this]
end Gx.Cf

namespace Gx.Cf
open Go Go.Proofs
section
variable {R:Type}
theorem aF {l:List Int} {j:Nat} (h:j<l.length):l.getD j 0=l[j]:=by rw[List.getD_eq_getElem?_getD,List.getElem?_eq_getElem h];rfl
theorem Aya {x:Int} {n:Nat} (k:0≤x) (C:x.toNat<n):Ac x n=true:=by simp[Ac];omega
theorem Biu {l:List Int} {x:Int} (h:x.toNat<l.length) {f:Int→O R}:Ao .i64 (List.drop (0+((Int.toNat x)*1)) (Av l)) f=f (l.getD x.toNat 0):=by
 rw[Nat.zero_add,Nat.mul_one,TQ h,aF h]
theorem wx (l:List Int) (j:Nat) (v:Int):List.set (Av l) j (.int .i64 v)=Av (l.set j v):=by simp[Av,List.map_set]
theorem A2x {l:List Int} {x:Nat} (h:x<l.length):((Nat.beq 1 1)&&((Nat.ble ((0+(x*1))+1) (List.length (Av l)))&&(!false)))=true:=by
 rw[A2t,Fm,Db];simp;omega
def I9 (c:CaseD) (l:Int):Nat×Nat:=match c.lines.l[l.toNat]? with
 | some x=>(x.fr.toNat,x.to.toNat)
 | none=>(0,0)
structure LnV (c:CaseD) (l:Int) (x:LineD):Prop where
 l0:0≤l
 lt:l.toNat<c.lines.l.length
 at':c.lines.l[l.toNat]?=some x
 f0:0≤x.fr
 f1:x.fr.toNat<c.buses.l.length
 t0:0≤x.to
 t1:x.to.toNat<c.buses.l.length
theorem Bc3 {c:CaseD} {l:Int} {x:LineD} (h:LnV c l x):I9 c l=(x.fr.toNat,x.to.toNat):=by unfold I9;rw[h.at']
theorem Bnf {c:CaseD} {l:Int} {x:LineD} (h:LnV c l x) {f:Int→O R}:Ao .i64 (List.drop 1 (List.drop ((Int.toNat l)*12) (c.lines.l.flatMap LineD.av))) f=f x.fr:=by
 have e:c.lines.l[l.toNat]'h.lt=x:=by have:=h.at';rw[List.getElem?_eq_getElem h.lt] at this;simpa using this
 rw[Bo H4 _ _ h.lt,e];simp[LineD.av,A1]
theorem Bng {c:CaseD} {l:Int} {x:LineD} (h:LnV c l x) {f:Int→O R}:Ao .i64 (List.drop 2 (List.drop ((Int.toNat l)*12) (c.lines.l.flatMap LineD.av))) f=f x.to:=by
 have e:c.lines.l[l.toNat]'h.lt=x:=by have:=h.at';rw[List.getElem?_eq_getElem h.lt] at this;simpa using this
 rw[Bo H4 _ _ h.lt,e];simp[LineD.av,A1]
theorem Bbl {L:List Int} {n j:Nat} (C:L.length=n) (h:j<n):((Tf n).take j++L.drop j).set j (j:Int)=(Tf n).take (j+1)++L.drop (j+1):=by
 have hi:(Tf n).length=n:=by simp[Tf]
 have e:(Tf n)[j]'(by omega)=(j:Int):=by simp[Tf]
 have k:j - ((Tf n).take j).length=0:=by simp[hi];omega
 rw[List.set_append_right _ _ (by simp;omega),k,List.take_succ_eq_append_getElem (by omega),Bs (l:=L) (by omega),e,List.set_cons_zero,List.append_assoc];rfl
end
end Gx.Cf
