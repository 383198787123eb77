/- A part of the proof: what it holds is said by each theorem. -/
import Derived.Test.YtlkhmflligkbkaaGreatP4
set_option linter.unusedVariables false
set_option linter.defProp false
set_option linter.unusedSimpArgs false
namespace Gx
open Go Go.Proofs
set_option maxRecDepth 100000
section
variable {R:Type}
theorem yU {N:Nat} {K:Int→O R} {p:PD} {v k:Int} {d:Bool}:Qi N v p.av d k K=K (cond (k != 2) 0 (Bj (Gc v p.lo) p.hi)):=by
 rw[RB];unfold MO
 rw[A3b,A3c]
 cases (k != 2)<;>rfl
section
variable (u:UnitD) (ks:List Int) (n a:Nat) (v:Int)
def A63 (x:Int) (h:Nat):Int:=cond (Bu ks h) (Bj (Gc x (Ge u ks n h).lo) (Ge u ks n h).hi) 0
def Bev:Nat→Int
 | 0=>v
 | i+1=>A63 u ks n (Bev i) (a - (i+1))
def Bew:Nat→Int
 | 0=>v
 | i+1=>A63 u ks n (Bew i) (a+(i+1))
def M5 (h:Nat):Int:=if h≤a then Bev u ks n a v (a - h) else Bew u ks n a v (h - a)
theorem rV:M5 u ks n a v a=v:=by unfold M5;rw[if_pos (Nat.le_refl _),Nat.sub_self];rfl
theorem As5 {h:Nat} (k:h<a):M5 u ks n a v h=A63 u ks n (M5 u ks n a v (h+1)) h:=by
 unfold M5
 rw[if_pos (by omega),if_pos (by omega),show a - h=(a - (h+1))+1 by omega,Bev,show a - (a - (h+1)+1)=h by omega]
theorem As6 {h:Nat} (k:a≤h):M5 u ks n a v (h+1)=A63 u ks n (M5 u ks n a v h) (h+1):=by
 unfold M5
 rw[if_neg (by omega),show h+1 - a=(h - a)+1 by omega,Bew,show a+(h - a+1)=h+1 by omega]
 by_cases e:h≤a
 ·rw[if_pos e,show h=a by omega,Nat.sub_self];rfl
 ·rw[if_neg e]
end
section
variable {u:UnitD} {ks:List Int} {n a:Nat} {v:Int}
theorem Bb0 {x:Int} {h:Nat} (k:Bu ks h=true) (hn:(Ge u ks n h).lo≤(Ge u ks n h).hi):(Ge u ks n h).lo≤A63 u ks n x h∧A63 u ks n x h≤(Ge u ks n h).hi:=by
 unfold A63;rw[k,cond_true,Ey,H6];omega
theorem A9i {x:Int} {h:Nat} (k:Bu ks h=false):A63 u ks n x h=0:=by unfold A63;rw[k];rfl
theorem As7 (G:Bu ks a=true→(Ge u ks n a).lo≤v∧v≤(Ge u ks n a).hi) (I:Bu ks a=false→v=0) (D:∀ h,h<n→(Ge u ks n h).lo≤(Ge u ks n h).hi) (h:Nat) (F:h<n):(Bu ks h=true→(Ge u ks n h).lo≤M5 u ks n a v h∧M5 u ks n a v h≤(Ge u ks n h).hi)∧(Bu ks h=false→M5 u ks n a v h=0):=by
 by_cases e:h=a
 ·subst e;rw[rV];exact⟨G,I⟩
 ·by_cases l:h<a
  ·rw[As5 _ _ _ _ _ l];exact⟨fun C=>Bb0 C (D h F),fun C=>A9i C⟩
  ·obtain⟨k,rfl⟩:∃ k,h=k+1:=⟨h - 1,by omega⟩
   rw[As6 _ _ _ _ _ (by omega)];exact⟨fun C=>Bb0 C (D _ F),fun C=>A9i C⟩
theorem A9j (ok:UOk u) (F:Bu ks a=true→(Ge u ks n a).lo≤v∧v≤(Ge u ks n a).hi) (G:Bu ks a=false→v=0) (C:∀ h,h<n→(Ge u ks n h).lo≤(Ge u ks n h).hi) {k:Nat} (D:k+1<n) (o1:Bu ks k=true) (o2:Bu ks (k+1)=true) :
  M5 u ks n a v (k+1) - M5 u ks n a v k≤u.rampUp∧M5 u ks n a v k - M5 u ks n a v (k+1)≤u.rampDown:=by
 have r0:=(As7 F G C k (by omega)).1 o1
 have r1:=(As7 F G C (k+1) D).1 o2
 have st:=Zf u ks (n:=n) (h:=k) D
 rw[o1,o2] at st
 simp only[Bool.and_true,cond_true,Ey,H6] at st
 have f:Sw u ks (k+1)=⟨Gc u.min ((Sw u ks k).lo - u.rampDown),Bj u.max ((Sw u ks k).hi+u.rampUp)⟩:=by rw[Sw,o2,o1];rfl
 have T:=tc (ks:=ks) (n:=n) ok (n - 1 - (k+1)) (k+1) (by omega)
 have I:=zX (ks:=ks) (n:=n) ok (k+1)
 have L:=A3d (u:=u) (n:=n) (h:=k) o2
 rw[f] at I
 simp only[Ey,H6] at I
 rw[L] at st
 have U:=ok.b
 have lo:(Ge u ks n k).lo=max (Sw u ks k).lo ((Ge u ks n (k+1)).lo - u.rampUp):=by rw[st]
 have hi:(Ge u ks n k).hi=min (Sw u ks k).hi ((Ge u ks n (k+1)).hi+u.rampDown):=by rw[st]
 have M:=C k (by omega)
 have S:=C (k+1) D
 by_cases l:k<a
 ·have e:=As5 u ks n a v l
  unfold A63 at e
  rw[o1,cond_true,Ey,H6] at e
  omega
 ·have e:=As6 u ks n a v (h:=k) (by omega)
  unfold A63 at e
  rw[o2,cond_true,Ey,H6] at e
  omega
def A13 (u:UnitD) (ks:List Int) (n a:Nat) (v:Int):List Int:=(List.range n).map (M5 u ks n a v)
theorem rW {i:Nat} (hi:i<n):(A13 u ks n a v).getD i 0=M5 u ks n a v i:=by
 unfold A13;rw[List.getD_eq_getElem?_getD,List.getElem?_map,List.getElem?_range hi];rfl
theorem Ao2 {i:Nat}:(List.replicate n (0:Int)).getD i 0=0:=by
 rw[List.getD_eq_getElem?_getD]
 by_cases h:i<n
 ·rw[List.getElem?_replicate,if_pos h];rfl
 ·rw[List.getElem?_replicate,if_neg h];rfl
theorem Bdc (ok:UOk u) (M:uR u) (G:Bu ks a=true→(Ge u ks n a).lo≤v∧v≤(Ge u ks n a).hi) (I:Bu ks a=false→v=0) (L:∀ h,h<n→(Ge u ks n h).lo≤(Ge u ks n h).hi):GdA u ks n n (A13 u ks n a v) (List.replicate n 0):=by
 unfold uR at M
 refine⟨by simp[A13],by simp,fun i hi=>?_⟩
 rw[rW hi,Ao2]
 have r0:=As7 G I L i hi
 have T:=tc (ks:=ks) (n:=n) ok (n - 1 - i) i (by omega)
 have D:=zX (ks:=ks) (n:=n) ok i
 have S:=qu (ks:=ks) ok i
 have U:=ok.b
 refine⟨fun C=>?_,fun C F=>?_,fun C F=>?_,fun C=>⟨r0.2 C,rfl⟩⟩
 ·have:=r0.1 C
  have:=S.2.2.2.2 C
  omega
 ·have:=r0.1 C
  cases i with
  | zero =>
   have f:Sw u ks 0=⟨Gc u.min (u.output - u.rampDown),Bj u.max (u.output+u.rampUp)⟩:=by
    rw[Sw,C,show(u.state==2)=true from F];rfl
   rw[f] at D
   simp only[Ey,H6] at D
   show _ - u.output≤_∧u.output - _≤_
   omega
  | succ k =>
   have w:=A9j ok G I L hi F C
   show _ - (A13 u ks n a v).getD k 0≤_∧(A13 u ks n a v).getD k 0 - _≤_
   rw[rW (by omega)]
   omega
 ·have:=r0.1 C
  have f:Sw u ks i=⟨u.min,u.startRamp⟩:=by rw[A81 C,F];rfl
  rw[f] at D
  simp only at D
  omega
end
def rt (n:Nat) (g:Nat→RatD):LA:=rs ((List.range n).map g)
theorem rX {n:Nat} {g g':Nat→RatD} (h:∀ i,i<n→g i=g' i):rt n g=rt n g':=by
 unfold rt;rw[List.map_congr_left (fun i hi=>h i (by simpa using hi))]
theorem A9k (n:Nat) (g:Nat→RatD):(rt n g).length=n*3:=by unfold rt;rw[Bda];simp
theorem A9l (n:Nat) (g:Nat→RatD):List.take (n*3) (rt n g)=rt n g:=by rw[←A9k n g,List.take_length]
theorem A14 {n j:Nat} {g:Nat→RatD} {x:RatD} (h:j<n):setCells (rt n g) (0+(Int.toNat (j:Int))*3) x.av=rt n (fun i=>if i=j then x else g i):=by
 unfold rt
 rw[Bdb (by simpa using h)]
 congr 1
 refine List.ext_getElem (by simp) fun i k C=>?_
 rw[List.getElem_set]
 simp only[List.getElem_map,List.getElem_range]
 by_cases e:j=i
 ·subst e;simp
 ·rw[if_neg e,if_neg (fun h=>e h.symm)]
theorem Ba9 (n:Nat):List.flatten (List.replicate n ([(.bool false),.nsl,.nsl]:LA))=rt n fun _=>Z2:=by
 unfold rt rs
 induction n with
 | zero=>rfl
 | succ n k=>rw[List.replicate_succ',List.flatten_append,k,List.range_succ,List.map_append,List.flatMap_append];rfl
theorem A9m {n j:Nat} {g:Nat→RatD} {x:RatD} (h:j<n):((Nat.beq (List.length x.av) 3)&&((Nat.ble ((0+(Int.toNat (j:Int))*3)+3) (List.length (rt n g)))&&(!false)))=true:=by
 rw[Int.toNat_natCast,A9k];simp[RatD.av];omega
theorem A9n {n j e:Nat} {g:Nat→PD} (h:j<n) (k:e<2) {f:Int→O R}:An .i64 (List.drop ((0+(Int.toNat (j:Int))*2)+(Int.toNat (e:Int))*1) (tb n g)) f=f (cond (e==0) (g j).lo (g j).hi):=by
 obtain rfl | rfl:e=0∨e=1:=by omega
 ·exact fB h
 ·exact fC h
section
variable {u:UnitD} {ks:List Int} {n a:Nat} {v:Int}
def wG (u:UnitD) (ks:List Int) (n a:Nat) (v:Int) (lo hi:Nat):Nat→RatD:=fun h=>if lo≤h∧h<hi then rq (M5 u ks n a v h) else Z2
theorem Bd4 {lo hi:Nat} (h:lo<hi):rt n (fun i=>if i=lo then rq (M5 u ks n a v lo) else wG u ks n a v (lo+1) hi i)=rt n (wG u ks n a v lo hi):=rX fun i _=>by
 unfold wG
 by_cases e:i=lo
 ·subst e;rw[if_pos rfl,if_pos (by omega)]
 ·rw[if_neg e]
  by_cases l:lo+1≤i∧i<hi
  ·rw[if_pos l,if_pos (by omega)]
  ·rw[if_neg l,if_neg (by omega)]
theorem Bd5 {hi:Nat}:rt n (fun i=>if i=hi then rq (M5 u ks n a v hi) else wG u ks n a v 0 hi i)=rt n (wG u ks n a v 0 (hi+1)):=rX fun i _=>by
 unfold wG
 by_cases e:i=hi
 ·subst e;rw[if_pos rfl,if_pos (by omega)]
 ·rw[if_neg e]
  by_cases l:0≤i∧i<hi
  ·rw[if_pos l,if_pos (by omega)]
  ·rw[if_neg l,if_neg (by omega)]
theorem A3t {x:Int} {h:Nat} (k:h<ks.length):cond (ks[h] != 2) 0 (Bj (Gc x (Ge u ks n h).lo) (Ge u ks n h).hi)=A63 u ks n x h:=by
 unfold A63;rw[Fy k,show(ks[h] != 2)=!(ks[h]==2) from rfl];cases (ks[h]==2)<;>rfl
section
variable {N:Nat} {X:O R} {K:Bool→O R} {k2:Int→O R} {p:PlanD} {H:Int} {x:Nat} {o:Bool}
theorem A9o (hN:4096≤N) (F:p.st.l=ks) (hn:n=ks.length) (C:n≤24) (hH:H=n) (G:a<n) (wb:∀ h,h<n→0≤M5 u ks n a v h∧M5 u ks n a v h≤1048576)
  (hX:Zb N u.av false H (Bdg ks ((List.range n).map fun h=>rq (M5 u ks n a v h)) (List.replicate n Z2) false true true).av true (fun au av=>(cond ((au != H)==false) (cond (cond false true (av != 0)) (K false) (k2 (IntKind.wrap .i64 ((x:Int)+1)))) (K false)))=X):∀ (m s fuel:Nat),s+m=n→a<s→m<fuel →
  C7 N k2 K (a:Int) H n u.av p.av (tb n (Ge u ks n)) (Av ks) n n n (rt n fun _=>Z2) fuel (x:Int) (M5 u ks n a v (s - 1)) (s:Int) (rt n (wG u ks n a v 0 s))=X
 | 0,s,fuel+1,hs,D,_=>by
  rw[C7];unfold F0
  rw[show decide ((s:Int)<H)=false by simp;omega,cf,Dr,ct,B8,A9l,A9l]
  have e1:rt n (wG u ks n a v 0 s)=((List.range n).map fun h=>rq (M5 u ks n a v h)).flatMap RatD.av:=by
   rw[show s=n by omega]
   exact rX fun i hi=>by unfold wG;rw[if_pos (by omega)]
  have I:(rt n fun _=>Z2)=(List.replicate n Z2).flatMap RatD.av:=by
   unfold rt rs;congr 1
   rw[List.map_const',List.length_range]
  have e3:=A84 (ks:=ks) (en:=(List.range n).map fun h=>rq (M5 u ks n a v h)) (re:=List.replicate n Z2) (a:=false) (b:=true) (c:=true)
  rw[List.length_map,List.length_range,List.length_replicate,←hn] at e3
  rw[e1,I,e3]
  exact hX
 | m+1,s,fuel+1,hs,D,L=>by
  rw[C7];unfold F0
  have h:s<n:=by omega
  have k:s<ks.length:=by omega
  have e:=As6 u ks n a v (h:=s - 1) (by omega)
  rw[show s - 1+1=s by omega] at e
  have b:=wb s h
  rw[show decide ((s:Int)<H)=true by simp;omega,ct,Aa h,ct,ta h,ct,p0,F,Aa k,ct,Cj k,t_ h,yU,A3t k,←e,XB (by omega) (by omega),ct,show(As9 ((M5 u ks n a v s:Int):Rat)).av=(rq (M5 u ks n a v s)).av from rfl,A9m h,ct,A14 h,Bd5,wS (by omega)]
  exact A9o hN F hn C hH G wb hX m (s+1) fuel (by omega) (by omega) (by omega)
theorem A9p {e:Nat} (F:e<2) (hN:4096≤N) (G:p.st.l=ks) (hn:n=ks.length) (C:n≤24) (hH:H=n) (D:a<n) (wb:∀ h,h<n→0≤M5 u ks n a v h∧M5 u ks n a v h≤1048576) (I:v=cond (e==0) (Ge u ks n a).lo (Ge u ks n a).hi)
  (hX:Zb N u.av false H (Bdg ks ((List.range n).map fun h=>rq (M5 u ks n a v h)) (List.replicate n Z2) false true true).av true (fun au av=>(cond ((au != H)==false) (cond (cond false true (av != 0)) (K false) (k2 (IntKind.wrap .i64 ((e:Int)+1)))) (K false)))=X):∀ (m fuel:Nat),m≤a→m<fuel →
  Cn N k2 K (a:Int) H n u.av p.av (tb n (Ge u ks n)) (Av ks) n fuel (e:Int) (M5 u ks n a v m) ((m:Int) - 1) n n (rt n (wG u ks n a v m (a+1))) (rt n fun _=>Z2)=X
 | 0,fuel+1,_,_=>by
  rw[Cn];unfold F1
  rw[show decide ((((0:Nat):Int) - 1)≥0)=false by simp,cf,Aa D,ct,show Ac (e:Int) 2=true from Aa F,ct,A9n D F,←I,wS (by omega)]
  have:=A9o hN G hn C hH D wb hX (n - (a+1)) (a+1) N (by omega) (by omega) (by omega)
  rw[Nat.add_sub_cancel,rV] at this
  exact this
 | m+1,fuel+1,L,M=>by
  rw[Cn];unfold F1
  have h:m<n:=by omega
  have k:m<ks.length:=by omega
  have e':=As5 u ks n a v (h:=m) (by omega)
  have b:=wb m h
  rw[show(((m+1:Nat):Int) - 1)=(m:Int) by omega,show decide ((m:Int)≥0)=true by simp,ct,Aa h,ct,ta h,ct,p0,G,Aa k,ct,Cj k,t_ h,yU,A3t k,←e',XB (by omega) (by omega),ct,show(As9 ((M5 u ks n a v m:Int):Rat)).av=(rq (M5 u ks n a v m)).av from rfl,A9m h,ct,A14 h,Bd4 (by omega),i64 (by omega)]
  exact A9p F hN G hn C hH D wb I hX m fuel (by omega) (by omega)
theorem Ax6 (T:fit 1000000 N) (hl:u.away.l.length≤1000) (U:p.st.l=ks) (hn:n=ks.length) (hE:ZZ u H ks=0) (hH:H=n) (C:a<n):∀ (m e fuel:Nat),e+m=2→m<fuel →
  Bm N K (a:Int) H n u.av p.av (tb n (Ge u ks n)) fuel (e:Int)=K true
 | 0,e,fuel+1,he,_=>by
  rw[Bm];unfold F2
  rw[show decide ((e:Int)<2)=false by simp;omega,cf]
 | m+1,e,fuel+1,he,hfu=>by
  have hN:4096≤N:=by have:=T.1;omega
  obtain⟨L,hlen,_,_,G⟩:=A3s hE
  have ok:=QU L
  obtain⟨hs,hu,F⟩:=UY L
  rw[←hn] at G
  have k:∀ h,h<n→(Ge u ks n h).lo≤(Ge u ks n h).hi:=fun h F=>by
   rw[qv ok,List.any_eq_false] at G
   have:=G h (by simpa using F)
   simp at this;omega
  have off0:Bu ks a=false→Ge u ks n a=⟨0,0⟩:=fun M=>by rw[Ast C M,th M]
  generalize S:cond (e==0) (Ge u ks n a).lo (Ge u ks n a).hi=v
  have hfa:=k a C
  have v1:Bu ks a=true→(Ge u ks n a).lo≤v∧v≤(Ge u ks n a).hi:=fun _=>by
   rw[←S];cases (e==0)<;>simp<;>omega
  have v2:Bu ks a=false→v=0:=fun M=>by rw[←S,off0 M];cases (e==0)<;>rfl
  have gd:=Bdc ok hu v1 v2 k
  have wb:∀ h,h<n→0≤M5 u ks n a v h∧M5 u ks n a v h≤1048576:=fun h F=>by
   have:=((gd.2.2 h F).rng ok hu F).1
   rwa [rW F] at this
  have I:e<2:=by omega
  rw[Bm];unfold F2
  rw[show decide ((e:Int)<2)=true by simp;omega,ct,p0,U,show((decide (0≤H))&&((decide (H≤H))&&((decide (H≤140737488355328))&&(decide ((H*((56:Nat):Int))≤140737488355328)))))=true by simp;omega,ct,ct,Aa C,ct,show Ac (e:Int) 2=true from Aa I,ct,A9n C I,S]
  have vb:=wb a C
  rw[rV] at vb
  rw[XB (by omega) (by omega),hH,Int.toNat_natCast,Aa C,ct,Ba9,show(As9 ((v:Int):Rat)).av=(rq v).av from rfl,A9m C,ct,A14 C,i64 (by omega),←hn]
  have e0:rt n (fun i=>if i=a then rq v else Z2)=rt n (wG u ks n a v a (a+1)):=rX fun i _=>by
   unfold wG
   by_cases q:i=a
   ·subst q;rw[if_pos rfl,if_pos (by omega),rV]
   ·rw[if_neg q,if_neg (by omega)]
  rw[e0]
  have ih:=Ax6 T hl U hn hE hH C m (e+1) fuel (by omega) (by omega)
  rw[hH] at ih
  have dn:=A9p (X:=K true) (K:=K) (k2:=Bm N K (a:Int) (n:Int) n u.av p.av (tb n (Ge u ks n)) fuel) (H:=(n:Int)) I hN U hn (by omega) rfl C wb S.symm (by
   have o1:okR ((List.range n).map fun h=>rq (M5 u ks n a v h)):=fun x V=>by
    obtain⟨h,F,rfl⟩:=List.mem_map.1 V
    have:=wb h (by simpa using F)
    rw[Bd3];exact Bbw (by omega)
   have o2:okR (List.replicate n Z2):=fun x V=>by
    rw[(List.mem_replicate.1 V).2,Ut (m:=4) |>.2.1];exact Ut
   rw[Alk (by omega) (T.le (by omega)) hl (by exact o1) (by exact o2)]
   have Y:GdA u ks ks.length ks.length (A13 u ks n a v) (List.replicate n 0):=by rw[←hn];exact gd
   rw[Bc9 (H:=(n:Int)) (by rw[←hH];exact hE) Y rfl (by show((List.range n).map _).length=_;simp[hn]) (by show(List.replicate n Z2).length=_;simp[hn])
    (fun i hi=>by
     have D:i<n:=by simpa[Bdg,Sl.l] using hi
     rw[rW D]
     show(((List.range n).map fun h=>rq (M5 u ks n a v h))[i]'(by simpa using D)).q=_
     rw[List.getElem_map,List.getElem_range,Bd3])
    (fun i hi=>by
     have D:i<n:=by simpa[Bdg,Sl.l] using hi
     rw[Ao2]
     show((List.replicate n Z2)[i]'(by simpa using D)).q=_
     rw[List.getElem_replicate];exact(Ut (m:=4)).2.1)]
   rw[show(((n:Int) != (n:Int))==false)=true by simp,ct,show(cond false true ((0:Int) != 0))=false from rfl,cf,wS (by omega)]
   exact ih) a N (Nat.le_refl _) (by omega)
  rw[rV] at dn
  exact dn
theorem A9q {g:Int} {A B:List Int} (C:fit 1000000 N) (I:p.st.l=ks) (F:p.en.l=A.map rq) (hn:n=ks.length) (ok:UOk u) (G:uR u) (D:n≤24) (hH:H=n) (L:0<n) (gg:GdA u ks n n A B) (hX:∀ a:Nat,a<n→Bm N K (a:Int) H n u.av p.av (tb n (Ge u ks n)) N 0=X):∀ (m t fuel:Nat),t+m=n→m<fuel →
  C8 N K g H n u.av p.av (tb n (Ge u ks n)) fuel (t:Int)=X
 | 0,t,fuel+1,M,_=>by
  rw[C8];unfold F3
  rw[show decide ((t:Int)<H)=false by simp;omega,cf,Bdm (by omega) (by omega)]
  have m1:=Int.emod_nonneg g (show H≠0 by omega)
  have m2:=Int.emod_lt_of_pos g (show 0<H by omega)
  obtain⟨a,e⟩:∃ a:Nat,g%H=a:=⟨(g%H).toNat,by omega⟩
  rw[e]
  exact hX a (by omega)
 | m+1,t,fuel+1,M,S=>by
  rw[C8];unfold F3
  have h:t<n:=by omega
  have gA:=gg.1
  have hA:t<A.length:=by omega
  have hE:t<(A.map rq).length:=by simpa using hA
  have gd:=gg.2.2 t h
  have gr:=gd.rng ok G h
  have r1:=tc (ks:=ks) (n:=n) ok (n - 1 - t) t (by omega)
  have T:=zX (ks:=ks) (n:=n) ok t
  have U:=qu (ks:=ks) ok t
  have bl:(Ge u ks n t).lo≤A.getD t 0∧A.getD t 0≤(Ge u ks n t).hi:=by
   cases k:Bu ks t with
   | true=>exact(gd.on k).1
   | false=>rw[Ast h k,th k];have:=(gd.off k).1;simp only;omega
  rw[show decide ((t:Int)<H)=true by simp;omega,ct,p1,F,Aa hE,ct,A1n hE,Bbu,ct,Aa h,ct,fB h,ct,fC h,A8z,List.getElem_map]
  rw[zr hA] at bl gr
  rw[Av8 (x:=rq A[t]) (Bbw (by omega)) (by omega) (by omega) (C.le (by omega)) (by have:=C.1;omega)]
  have e:A0x ((A[t]:Int):Rat) (Ge u ks n t).lo (Ge u ks n t).hi=true:=by unfold A0x;rw[A9s,A9s,decide_eq_true bl.1,decide_eq_true bl.2];rfl
  rw[e,show(!true)=false from rfl,cf,wS (by omega)]
  exact A9q C I F hn ok G D hH L gg hX m (t+1) fuel (by omega) (by omega)
end
theorem iA {N:Nat} {K:Bool→O R} (C:fit 1000000 N) {l raw:List Int} {l1 l2 r1 S:Bool} {D:Int} (T:l.length≤9223372036854775807) :
  Gb N (Av l) l.length l1 l2 (Av raw) raw.length r1 S D K=K true:=by
 have hN:4096≤N:=by have:=C.1;omega
 rw[Ro];unfold H7
 rw[A11]
 by_cases L:l.length≤200
 ·by_cases M:raw.length≤200
  ·rw[decide_eq_true L,decide_eq_true M,show(!(true&&true))=false from rfl,cf]
   refine A10 rfl hN T fun u H h1 h2 F U ha=>?_
   rw[show((Nat.beq 0 0)&&((Nat.beq (List.length u.av) 22)&&(Nat.beq 22 22)))=true from rfl,ct,Dr,ct,B8]
   refine Ba8 rfl (by omega) hN (UY F).1 (by omega) ?_ fun ks A B V G gg=>?_
   ·rw[Ba7,ct,show(!false)=true from rfl,ct,Agn (C.le (by omega))]
   ·obtain⟨_,k,_,_,_⟩:=A3s G
    have ok:=QU F
    have Y:=(UY F).2.1
    rw[Ba7,ct,show(!true)=false from rfl,cf,ct,p0,show(Bbz ks A B).st.l=ks from rfl]
    refine Ah6 (by omega) V hN rfl (fun _=>?_) (fun hx=>absurd G hx)
    rw[show(((0:Int) != 0)==false)=true from rfl,ct,show((cond false true (((ks.length:Nat):Int) != H))==false)=true by rw[k];simp,ct,Agn (C.le (by omega)),show(cond false true (!true))=false from rfl,cf]
    unfold Gn Jt
    exact A9q (n:=ks.length) (A:=A) (B:=B) (p:=Bbz ks A B) C rfl rfl rfl ok Y (by omega) k.symm (by omega) gg (fun a I=>Ax6 (p:=Bbz ks A B) C (by omega) rfl rfl G k.symm I 2 0 N (by omega) (by omega)) ks.length 0 N (by omega) (by omega)
  ·rw[decide_eq_false M,Bool.and_false];rfl
 ·rw[decide_eq_false L,Bool.false_and];rfl
end
end
end Gx

namespace Gx
open Go Go.Proofs
theorem Aio {p:Int→Prop}:∀ m:List { n:Int // p n },m.flatMap (fun n=>[AV.int .i64 n.1])=Av (m.map (·.1))
 | []=>rfl
 | a::r=>by rw[List.flatMap_cons,Aio r];rfl
end Gx
