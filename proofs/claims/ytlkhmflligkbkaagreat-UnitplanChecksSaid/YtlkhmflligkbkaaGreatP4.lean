/- A part of the proof: what it holds is said by each theorem. -/
import Derived.Test.YtlkhmflligkbkaaGreatP3
set_option linter.unusedVariables false
namespace Gx
open Go Go.Proofs
section
variable {R:Type}
theorem Cce {c:Nat} (h:c≤1000000000000):((Nat.ble (0+c) 140737488355328)&&(Nat.ble ((0+c)*4) 140737488355328))=true:=by simp;omega
theorem Ba8 {N:Nat} {l:List Nat} {t o:Bool} {K:Nat→LA→Option R} (hl:Ah l) (hs:l.length≤1000000000000):∀ (c fuel:Nat),c≤l.length→c<fuel →
    Rg N K (Ae l) l.length t o fuel (c:Int)=K (dig (val (l.take c))).length (Ae (dig (val (l.take c))))
  | 0,fuel+1,hc,_=>by
    rw [Rg];unfold Ab3
    rw [show decide (((0:Nat):Int)>0)=false by simp]
    rw [show ((false:Bool)==true)=false by rfl,cf,sl0 (by omega),ct,Int.toNat_natCast,Nat.mul_one,Xb,Ak1,Bool.or_true,ct,Cce (by omega),ct];rfl
  | c+1,fuel+1,hc,hf=>by
    rw [Rg];unfold Ab3
    rw [B5t,ct,wP (by omega),Ac (by omega),ct,rdl (by omega),ctB,sl0 (by omega),ct,Ba8 hl hs c fuel (by omega) (by omega),Int.toNat_natCast,Nat.mul_one,Xb,Ak1,Bool.or_true,ct,Cce (by omega),ct,Nat.zero_add]
    by_cases h0:l[c]=0
    · rw [Av (by omega),h0];simp
    · rw [B00 hl (by omega) h0,List.length_take,Nat.min_eq_left hc]
      rw [i0F h0,cf]
theorem Dl {N:Nat} {l:List Nat} {n:Nat} {t o:Bool} {K:Nat→LA→Option R} (hn:n=l.length) (hl:Ah l) (hf:fit l.length N):Dr N (Ae l) n t o K=K (dig (val l)).length (Ae (dig (val l))):=by
  subst hn
  have h1:=hf.1;have h2:=hf.2
  rw [Aqc];unfold A20 A2z
  dsimp only
  rw [Ba8 hl (by omega) l.length N (Nat.le_refl _) (by omega),List.take_length]
theorem B3n {N:Nat} {a b:List Nat} {t o t' o':Bool} {K:Bool→Option R} (hs:a.length≤1000000000000) (he:a.length=b.length):∀ (m j fuel:Nat),j+m=a.length→m<fuel →
    Ni N K (Ae a) a.length t o (Ae b) b.length t' o' fuel (j:Int)=K (decide (a.drop j=b.drop j))
  | 0,j,fuel+1,hj,_=>by
    rw [Ni];unfold Xu
    rw [ltF (by omega),cf,List.drop_eq_nil_of_le (by omega),List.drop_eq_nil_of_le (by omega)];simp
  | m+1,j,fuel+1,hj,hf=>by
    have h1:j<a.length:=by omega
    have h2:j<b.length:=by omega
    rw [Ni];unfold Xu
    rw [ltT h1,ct,Ac h1,ct,rdl h1,Ac h2,ct,rdl h2,wS (by omega),B3n hs he m (j+1) fuel (by omega) (by omega),List.drop_eq_getElem_cons h1,List.drop_eq_getElem_cons h2]
    by_cases h:a[j]=b[j]
    · rw [show ((((a[j]:Nat):Int) != ((b[j]:Nat):Int)))=false by simp [h],cf];congr 1;rw [decide_eq_decide,List.cons.injEq];exact ⟨fun hh=>⟨h,hh⟩,fun hh=>hh.2⟩
    · rw [show ((((a[j]:Nat):Int) != ((b[j]:Nat):Int)))=true by rw [bne_iff_ne];omega,ct];congr 1;symm;rw [decide_eq_false_iff_not,List.cons.injEq];exact fun hh=>h hh.1
theorem B9k {N:Nat} {a b:List Nat} {n m:Nat} {t o t' o':Bool} {K:Bool→Option R} (hn:n=a.length) (hm:m=b.length) (hf:fit a.length N):Aof N (Ae a) n t o (Ae b) m t' o' K=K (decide (a=b)):=by
  subst hn hm
  have h1:=hf.1;have h2:=hf.2
  rw [A5e];unfold A76 A75
  by_cases he:a.length=b.length
  · rw [show (((a.length:Nat):Int) != ((b.length:Nat):Int))=false by simp [he],cf]
    have:=B3n (R:=R) (N:=N) (t:=t) (o:=o) (t':=t') (o':=o') (K:=K) (by omega) he a.length 0 N (by omega) (by omega)
    simpa using this
  · rw [show (((a.length:Nat):Int) != ((b.length:Nat):Int))=true by rw [bne_iff_ne];omega,ct]
    congr 1;symm;rw [decide_eq_false_iff_not];intro h;exact he (by rw [h])
theorem Ak3 {N:Nat} {v:Nat} {K:Nat→LA→Option R} (hv:v<18446744073709551616) (hN:4≤N):Es N (v:Int) K=K (dig v).length (Ae (dig v)):=by
  have hl:Ah [v%4294967296,v/4294967296]:=Dk.2 ⟨by omega,Dk.2 ⟨by omega,Xa⟩⟩
  have hval:val [v%4294967296,v/4294967296]=v:=by simp [val];omega
  rw [Afg];unfold Aap Aao
  rw [Ba5,Biz,w32 (show v/4294967296<4294967296 by omega)]
  have:=Ba8 (R:=R) (N:=N) (l:=[v%4294967296,v/4294967296]) (t:=false) (o:=true) (K:=K) hl (by simp) 2 N (by simp) (by omega)
  rw [show [v%4294967296,v/4294967296].take 2=[v%4294967296,v/4294967296] by rfl,hval] at this
  rw [Aqc];unfold A20 A2z
  exact this
theorem At6 {N:Nat} {l:List Nat} {n:Nat} {t o:Bool} {K:Int→Bool→Option R} (hn:n=l.length) (hl:Ah l) (hf:fit l.length N):Vz N (Ae l) n t o K=if val l<18446744073709551616 then K (val l:Int) true else K 0 false:=by
  have h1:=hf.1
  rw [Axu];unfold Axt Axs
  rw [Dl hn hl hf]
  by_cases h:val l<18446744073709551616
  · have hd:=At3 h
    rw [if_pos h,show decide ((((dig (val l)).length:Nat):Int)>2)=false by simp;omega,cf]
    have hv:=Ag (val l)
    have hb:=Ad (val l)
    obtain ⟨M,hM⟩:∃ M,N=M+4:=⟨N - 4,by omega⟩
    rw [hM]
    generalize dig (val l)=d at *
    match d,hd,hv,hb with
    | [],_,hv,_ =>
      dsimp only
      rw [Ej];unfold Et
      rw [← hv,i64 (by simp)];rfl
    | [x],_,hv,hb =>
      have hx:=(Dk.1 hb).1
      have hxv:val l=x:=by rw [← hv];simp [val]
      dsimp only
      rw [Ej];unfold Et
      rw [i64 (by simp),show ((([x]:List Nat).length:Nat):Int) - 1=((0:Nat):Int) by rfl,show decide (((0:Nat):Int)≥0)=true by rfl,ct,Ac (by simp),ct,Bev (by simp)]
      rw [Ej];unfold Et
      rw [i64 (by simp),show decide ((((0:Nat):Int) - 1)≥0)=false by rfl,cf]
      have:=orw (a:=0) (b:=x) (by omega) hx
      simp only [List.getElem_cons_zero]
      rw [w64 (show x<18446744073709551616 by omega),show (0:Int)=((0:Nat):Int) by rfl,this,hxv];simp
    | [x,y],_,hv,hb =>
      have hx:=(Dk.1 hb).1
      have hy:=(Dk.1 (Dk.1 hb).2).1
      have hxv:val l=y*4294967296+x:=by rw [← hv];simp [val];omega
      dsimp only
      rw [Ej];unfold Et
      rw [i64 (by simp),show ((([x,y]:List Nat).length:Nat):Int) - 1=((1:Nat):Int) by rfl,show decide (((1:Nat):Int)≥0)=true by rfl,ct,Ac (by simp),ct,Bev (by simp)]
      rw [Ej];unfold Et
      rw [i64 (by simp),show (((1:Nat):Int) - 1)=((0:Nat):Int) by rfl,show decide (((0:Nat):Int)≥0)=true by rfl,ct,Ac (by simp),ct,Bev (by simp)]
      rw [Ej];unfold Et
      rw [i64 (by simp),show decide ((((0:Nat):Int) - 1)≥0)=false by rfl,cf]
      have o1:=orw (a:=0) (b:=y) (by omega) hy
      have o2:=orw (a:=y) (b:=x) hy hx
      simp only [List.getElem_cons_zero,List.getElem_cons_succ]
      rw [w64 (show y<18446744073709551616 by omega),w64 (show x<18446744073709551616 by omega),show (0:Int)=((0:Nat):Int) by rfl,o1,Nat.zero_mul,Nat.zero_add,o2,hxv]
  · have:¬ (dig (val l)).length≤2:=fun h2=>h (Bey h2)
    rw [if_neg h,show decide ((((dig (val l)).length:Nat):Int)>2)=true by simp;omega,ct]
theorem Byn {N:Nat} {x y:List Nat} {K:Int→Option R} (hx:Ah x) (hy:Ah y) (hs:x.length≤1000000000000) (he:x.length=y.length):∀ (i fuel:Nat),i≤x.length→i<fuel →
    Ih N K x.length y.length (Ae x) (Ae y) fuel ((i:Int) - 1)=K (Gv (val (x.take i)) (val (y.take i)))
  | 0,fuel+1,_,_=>by
    rw [Ih];unfold Pl
    rw [show decide ((((0:Nat):Int) - 1)≥0)=false by simp,cf]
    simp [Aew]
  | i+1,fuel+1,hi,hf=>by
    rw [Ih];unfold Pl
    rw [show (((i+1:Nat):Int) - 1)=(i:Int) by omega,show decide ((i:Int)≥0)=true by simp,ct,Ac (by omega),ct,Bev (by omega),Ac (by omega),ct,Bev (by omega),ct,Bev (by omega),ct,Bev (by omega),i64 (by omega),
      Byn hx hy hs he i fuel (by omega) (by omega),Av (by omega),Av (by omega)]
    have h1:=Bn (Cn hx i)
    have h2:=Bn (Cn hy i)
    rw [List.length_take,Nat.min_eq_left (by omega)] at h1 h2
    by_cases c1:x[i]<y[i]
    · have:=Bol h1 h2 c1
      rw [show decide (((x[i]:Nat):Int)<((y[i]:Nat):Int))=true by simp;exact c1,ct]
      unfold Gv;rw [if_pos this]
    · by_cases c2:y[i]<x[i]
      · have:=Bol h2 h1 c2
        rw [show decide (((x[i]:Nat):Int)<((y[i]:Nat):Int))=false by simp;omega,cf,show decide (((x[i]:Nat):Int)>((y[i]:Nat):Int))=true by simp;exact c2,ct]
        unfold Gv;rw [if_neg (by omega),if_pos this]
      · have:x[i]=y[i]:=by omega
        rw [show decide (((x[i]:Nat):Int)<((y[i]:Nat):Int))=false by simp;omega,cf,show decide (((x[i]:Nat):Int)>((y[i]:Nat):Int))=false by simp;omega,cf,this]
        unfold Gv
        congr 1
        by_cases a1:val (x.take i)<val (y.take i)
        · rw [if_pos a1,if_pos (by omega)]
        · by_cases a2:val (y.take i)<val (x.take i)
          · rw [if_neg a1,if_pos a2,if_neg (by omega),if_pos (by omega)]
          · rw [if_neg a1,if_neg a2,if_neg (by omega),if_neg (by omega)]
theorem B73 {N:Nat} {a b:List Nat} {n m:Nat} {t o t' o':Bool} {K:Int→Option R} (hn:n=a.length) (hm:m=b.length) (ha:Ah a) (hb:Ah b) (hf:fit (a.length+b.length) N) :
    Zu N (Ae a) n t o (Ae b) m t' o' K=K (Gv (val a) (val b)):=by
  subst hn hm
  have h1:=hf.1;have h2:=hf.2
  rw [Avm];unfold Aqq Aqp
  dsimp only
  rw [Dl rfl ha (hf.le (by omega)),Dl rfl hb (hf.le (by omega))]
  have la:=(Bs ha).2
  have lb:=(Bs hb).2
  by_cases he:(dig (val a)).length=(dig (val b)).length
  · rw [show ((((dig (val a)).length:Nat):Int) != (((dig (val b)).length:Nat):Int))=false by simp;omega,cf,i64 (by omega),Byn (Ad _) (Ad _) (by omega) he _ N (Nat.le_refl _) (by omega),List.take_length,he,List.take_length,Ag,Ag]
  · rw [show ((((dig (val a)).length:Nat):Int) != (((dig (val b)).length:Nat):Int))=true by simp;omega,ct]
    by_cases hl:(dig (val a)).length<(dig (val b)).length
    · have:=At2 hl
      rw [ltT hl,ct]
      unfold Gv;rw [if_pos this]
    · have:=At2 (show (dig (val b)).length<(dig (val a)).length by omega)
      rw [ltF (by omega),cf]
      unfold Gv;rw [if_neg (by omega),if_pos this]
end
end Gx

namespace Gx
open Go Go.Proofs
section
variable {R:Type}
theorem Ccf (a b:Nat):Qp (a:Int) (b:Int)=((max a b:Nat):Int):=by
  unfold Qp
  by_cases h:(b:Int)>(a:Int)
  · rw [decide_eq_true h];show (b:Int)=_;omega
  · rw [decide_eq_false h];show (a:Int)=_;omega
theorem Byo {N:Nat} {a b:List Nat} {t o t' o':Bool} {n:Nat} (ha:Ah a) (hb:Ah b) (hla:a.length<n) (hlb:b.length<n) (hn:n≤max a.length b.length+1) (hf:fit n N):∀ (m d fuel:Nat) (S:List Nat) (c:Nat),d+m=n→m<fuel→Ah S→S.length=n→zer S d→c≤1 →
    val S+4294967296 ^ d*c=val (a.take d)+val (b.take d) →
    ∀ K:Nat→LA→Option R,Hp N K (Ae a) a.length t o (Ae b) b.length t' o' fuel n (c:Int) (d:Int) (Ae S)=K (dig (val a+val b)).length (Ae (dig (val a+val b)))
  | 0,d,fuel+1,S,c,hd,_,hS,hl,hz,hc,hv=>by
    intro K
    have hd':d=n:=by omega
    subst hd'
    rw [List.take_of_length_le (by omega),List.take_of_length_le (by omega)] at hv
    have hc0:c=0:=by
      rcases Nat.eq_zero_or_pos c with h | h
      · exact h
      · exfalso
        have hc1:c=1:=by omega
        subst hc1
        obtain ⟨e,rfl⟩:∃ e,d=e+1:=⟨d - 1,by omega⟩
        have x1:=Bn ha
        have x2:=Bn hb
        have y1:4294967296 ^ a.length≤4294967296 ^ e:=Nat.pow_le_pow_right (by omega) (by omega)
        have y2:4294967296 ^ b.length≤4294967296 ^ e:=Nat.pow_le_pow_right (by omega) (by omega)
        rw [Nat.pow_succ] at hv
        omega
    subst hc0
    have hv2:val S=val a+val b:=by omega
    rw [Hp];unfold Ai0
    rw [ltF (Nat.le_refl _),cf,Nat.mul_one,List.take_of_length_le (by rw [B4];omega),Dl hl.symm hS (by rw [hl];exact hf),hv2]
  | m+1,d,fuel+1,S,c,hd,hfu,hS,hl,hz,hc,hv=>by
    intro K
    have h1:=hf.1;have h2:=hf.2
    have ga:=Aex ha d
    have gb:=Aex hb d
    have step:∀ s:Nat,s=c+a.getD d 0+b.getD d 0→val (S.set d (s%4294967296))+4294967296 ^ (d+1)*(s/4294967296)=val (a.take (d+1))+val (b.take (d+1)):=by
      intro s hs
      rw [Y6 hz (by omega),Rv a d,Rv b d,Nat.pow_succ]
      have e:=Mu (4294967296 ^ d) s
      have e2:4294967296 ^ d*s=4294967296 ^ d*c+4294967296 ^ d*a.getD d 0+4294967296 ^ d*b.getD d 0:=by rw [hs,Nat.mul_add,Nat.mul_add]
      omega
    have next:∀ s:Nat,s=c+a.getD d 0+b.getD d 0→Hp N K (Ae a) a.length t o (Ae b) b.length t' o' fuel n ((s/4294967296:Nat):Int) ((d+1:Nat):Int) (Ae (S.set d (s%4294967296)))=K (dig (val a+val b)).length (Ae (dig (val a+val b))):=by
      intro s hs
      exact Byo ha hb hla hlb hn hf m (d+1) fuel (S.set d (s%4294967296)) (s/4294967296) (by omega) (by omega) (Cs hS (by omega) d) (by simpa using hl) (Ak2 hz) (by omega) (step s hs) K
    have second:∀ w:Nat,w=c+a.getD d 0→Afn N (Hp N K (Ae a) a.length t o (Ae b) b.length t' o' fuel) K (Ae a) a.length t o (Ae b) b.length t' o' n (Ae S) (w:Int) (d:Int)=K (dig (val a+val b)).length (Ae (dig (val a+val b))):=by
      intro w hw
      unfold Afn Axx
      by_cases hdb:d<b.length
      · have hg:b.getD d 0=b[d]:=by rw [List.getD_eq_getElem?_getD,List.getElem?_eq_getElem hdb];rfl
        rw [ltT hdb,ct,Ac hdb,ct,rdl hdb,Ac (by omega),ct,st1 (by omega),ct,w64 (show b[d]<18446744073709551616 by omega),Ao9,w64 (show w+b[d]<18446744073709551616 by omega),Biz,Ba5,A0v,wS (by omega)]
        exact next _ (by rw [hw,hg])
      · have hg:b.getD d 0=0:=by rw [List.getD_eq_getElem?_getD,List.getElem?_eq_none (by omega)];rfl
        rw [ltF (by omega),cf,Ac (by omega),ct,st1 (by omega),ct,Biz,Ba5,A0v,wS (by omega)]
        exact next _ (by rw [hw,hg];rfl)
    rw [Hp];unfold Ai0
    rw [ltT (by omega),ct]
    by_cases hda:d<a.length
    · have hg:a.getD d 0=a[d]:=by rw [List.getD_eq_getElem?_getD,List.getElem?_eq_getElem hda];rfl
      rw [ltT hda,ct,Ac hda,ct,rdl hda,w64 (show a[d]<18446744073709551616 by omega),Ao9,w64 (show c+a[d]<18446744073709551616 by omega)]
      exact second _ (by rw [hg])
    · have hg:a.getD d 0=0:=by rw [List.getD_eq_getElem?_getD,List.getElem?_eq_none (by omega)];rfl
      rw [ltF (by omega),cf]
      exact second _ (by rw [hg];rfl)
theorem Bi5 {N:Nat} {a b:List Nat} {n m:Nat} {t o t' o':Bool} {K:Nat→LA→Option R} (hn:n=a.length) (hm:m=b.length) (ha:Ah a) (hb:Ah b) (hf:fit (a.length+b.length+1) N) :
    Aql N (Ae a) n t o (Ae b) m t' o' K=K (dig (val a+val b)).length (Ae (dig (val a+val b))):=by
  subst hn hm
  have h1:=hf.1;have h2:=hf.2
  rw [Bk5];unfold Bp0 Bpz
  rw [Ccf,wS (by omega),mk4 (by omega),ct,Int.toNat_natCast,Dd]
  exact Byo ha hb (n:=max a.length b.length+1) (by omega) (by omega) (Nat.le_refl _) (hf.le (by omega)) (max a.length b.length+1) 0 N (List.replicate (max a.length b.length+1) 0) 0 (by omega) (by omega) (Cq _) (by simp) (K8 _) (by omega) (by rw [D1];simp [val]) K
theorem Byp {N:Nat} {a b:List Nat} (ha:Ah a) (hb:Ah b) (hf:fit a.length N) (hab:b.length≤a.length) (hle:val b≤val a):∀ (m d fuel:Nat) (S:List Nat) (c:Nat),d+m=a.length→m<fuel→Ah S→S.length=a.length→zer S d→c≤1 →
    val S+val (b.take d)=val (a.take d)+4294967296 ^ d*c →
    ∀ K:Nat→Bool→LA→Option R,Hq N K a.length b.length (Ae a) (Ae b) fuel (c:Int) (d:Int) (Ae S)=K (dig (val a - val b)).length true (Ae (dig (val a - val b)))
  | 0,d,fuel+1,S,c,hd,_,hS,hl,hz,hc,hv=>by
    intro K
    have hd':d=a.length:=by omega
    subst hd'
    rw [List.take_length,List.take_of_length_le hab] at hv
    have hlt:=Bn hS
    rw [hl] at hlt
    have hc0:c=0:=by
      rcases Nat.lt_or_ge 0 c with h | h
      · exfalso
        have:c=1:=by omega
        subst this
        omega
      · omega
    subst hc0
    have hv2:val S=val a - val b:=by omega
    rw [Hq];unfold Ai3
    rw [ltF (Nat.le_refl _),cf,Nat.mul_one,List.take_of_length_le (by rw [B4];omega),Dl hl.symm hS (by rw [hl];exact hf),hv2]
  | m+1,d,fuel+1,S,c,hd,hfu,hS,hl,hz,hc,hv=>by
    intro K
    have h1:=hf.1;have h2:=hf.2
    have hda:d<a.length:=by omega
    have ad:=A3 ha hda
    have gb:=Aex hb d
    have step:∀ y g c':Nat,y=c+b.getD d 0→a[d]+4294967296*c'=g+y→val (S.set d g)+val (b.take (d+1))=val (a.take (d+1))+4294967296 ^ (d+1)*c':=by
      intro y g c' hy hg
      rw [Y6 hz (by omega),Av hda,Rv b d,Nat.pow_succ,Nat.mul_assoc]
      have e:4294967296 ^ d*(a[d]+4294967296*c')=4294967296 ^ d*(g+(c+b.getD d 0)):=by rw [hg,hy]
      rw [Nat.mul_add,Nat.mul_add,Nat.mul_add] at e
      omega
    have next:∀ y g c':Nat,g<4294967296→c'≤1→y=c+b.getD d 0→a[d]+4294967296*c'=g+y→Hq N K a.length b.length (Ae a) (Ae b) fuel (c':Int) ((d+1:Nat):Int) (Ae (S.set d g))=K (dig (val a - val b)).length true (Ae (dig (val a - val b))):=by
      intro y g c' hg hc' hy he
      exact Byp ha hb hf hab hle m (d+1) fuel (S.set d g) c' (by omega) (by omega) (Cs hS hg d) (by simpa using hl) (Ak2 hz) hc' (step y g c' hy he) K
    have second:∀ y:Nat,y=c+b.getD d 0→Afp N (Hq N K a.length b.length (Ae a) (Ae b) fuel) K a.length b.length (Ae a) (Ae b) (Ae S) (d:Int) (y:Int)=K (dig (val a - val b)).length true (Ae (dig (val a - val b))):=by
      intro y hy
      unfold Afp Ax1
      rw [Ac hda,ct,Bev hda,w64 (show a[d]<18446744073709551616 by omega)]
      by_cases hlt:a[d]<y
      · rw [ltT hlt,ct,ct,st1 (by omega),ct,show ((a[d]:Nat):Int)+4294967296=((a[d]+4294967296:Nat):Int) by omega,w64 (show a[d]+4294967296<18446744073709551616 by omega),Biy (by omega) (by omega),w32 (by omega),A0v,wS (by omega)]
        exact next y (a[d]+4294967296 - y) 1 (by omega) (by omega) hy (by omega)
      · rw [ltF (by omega),cf,ct,st1 (by omega),ct,Biy (by omega) (by omega),w32 (by omega),A0v,wS (by omega)]
        exact next y (a[d] - y) 0 (by omega) (by omega) hy (by omega)
    rw [Hq];unfold Ai3
    rw [ltT hda,ct]
    by_cases hdb:d<b.length
    · have hg:b.getD d 0=b[d]:=by rw [List.getD_eq_getElem?_getD,List.getElem?_eq_getElem hdb];rfl
      rw [ltT hdb,ct,Ac hdb,ct,Bev hdb,w64 (show b[d]<18446744073709551616 by omega),Ao9,w64 (show c+b[d]<18446744073709551616 by omega)]
      exact second _ (by rw [hg])
    · have hg:b.getD d 0=0:=by rw [List.getD_eq_getElem?_getD,List.getElem?_eq_none (by omega)];rfl
      rw [ltF (by omega),cf]
      exact second _ (by rw [hg];rfl)
theorem Bi6 {N:Nat} {a b:List Nat} {n m:Nat} {t o t' o':Bool} {K:Nat→Bool→LA→Option R} (hn:n=a.length) (hm:m=b.length) (ha:Ah a) (hb:Ah b) (hf:fit (a.length+b.length) N) :
    Aqr N (Ae a) n t o (Ae b) m t' o' K=if val b≤val a then K (dig (val a - val b)).length true (Ae (dig (val a - val b))) else K 0 false []:=by
  subst hn hm
  have h1:=hf.1;have h2:=hf.2
  have la:=(Bs ha).2
  have lb:=(Bs hb).2
  rw [Bk7];unfold Bqb Bqa
  dsimp only
  rw [B73 rfl rfl ha hb hf]
  by_cases hle:val b≤val a
  · have hll:=Cc hle
    rw [if_pos hle,show decide (Gv (val a) (val b)<0)=false by (unfold Gv;rw [if_neg (by omega)];split<;>rfl),cf,Dl rfl ha (hf.le (by omega)),Dl rfl hb (hf.le (by omega)),mk4 (by omega),ct,Dd]
    have:=Byp (R:=R) (N:=N) (a:=dig (val a)) (b:=dig (val b)) (Ad _) (Ad _) (hf.le (by omega)) hll (by rw [Ag,Ag];exact hle) (dig (val a)).length 0 N (List.replicate (dig (val a)).length 0) 0 (by omega) (by omega) (Cq _) (by simp) (K8 _) (by omega) (by rw [D1];simp [val]) K
    rw [Ag,Ag] at this
    exact this
  · rw [if_neg hle,show decide (Gv (val a) (val b)<0)=true by (unfold Gv;rw [if_pos (by omega)];rfl),ct]
theorem B6x {N:Nat} {x y:List Nat} {c d c' d':Bool} {f:Nat} (hx:Ah x) (hy:Ah y) (hf:f<x.length) (hs:x.length+y.length≤1000000000000):∀ (m l fuel:Nat) (S:List Nat) (p:Nat) (v:Nat),l+m=y.length→m<fuel→Ah S→S.length=x.length+y.length→zer S (f+y.length)→p<4294967296 →
    val S+4294967296 ^ (f+l)*p=v+4294967296 ^ f*(x[f]*val (y.take l)) →
    ∃ S',Ah S'∧S'.length=x.length+y.length∧val S'=v+4294967296 ^ f*(x[f]*val y)∧∀ (k1:Nat→Int→LA→Option R) (K:Nat→LA→Option R),Q3 N k1 K (Ae x) x.length c d (Ae y) y.length c' d' (x.length+y.length) fuel (f:Int) (p:Int) (l:Int) (Ae S)=k1 (x.length+y.length) ((f+1:Nat):Int) (Ae S')
  | 0,l,fuel+1,S,p,v,hl,_,hS,hlen,hz,hp,hv=>by
    have hl':l=y.length:=by omega
    subst hl'
    rw [List.take_length] at hv
    refine ⟨S.set (f+y.length) p,Cs hS hp _,by simpa using hlen,by rw [Y6 hz (by omega),hv],fun k1 K=>?_⟩
    rw [Q3];unfold Ajw
    rw [ltF (Nat.le_refl _),cf,wA (by omega),Ac (by omega),ct,st1 (by omega),ct,w32 hp,A0v,wS (by omega)]
  | m+1,l,fuel+1,S,p,v,hl,hfu,hS,hlen,hz,hp,hv=>by
    have hly:l<y.length:=by omega
    have yl:=A3 hy hly
    have hq:=A3 hx hf
    have hi:f+l<S.length:=by omega
    have sl:=A3 hS hi
    have hw:=B3h hp hq yl sl
    have hqy:x[f]*y[l]<18446744073709551616:=by omega
    generalize hsd:p+(x[f]*y[l]+S[f+l])=s at *
    have hset:=Bex (v:=s%4294967296) hi
    have key:val (S.set (f+l) (s%4294967296))+4294967296 ^ (f+(l+1))*(s/4294967296)=v+4294967296 ^ f*(x[f]*val (y.take (l+1))):=by
      rw [Av hly,← Nat.add_assoc f l 1,Nat.pow_succ]
      have e:=Mu (4294967296 ^ (f+l)) s
      have e2:4294967296 ^ (f+l)*s=4294967296 ^ (f+l)*p+(4294967296 ^ (f+l)*(x[f]*y[l])+4294967296 ^ (f+l)*S[f+l]):=by rw [← hsd,Nat.mul_add,Nat.mul_add]
      have e3:4294967296 ^ f*(x[f]*(val (y.take l)+4294967296 ^ l*y[l]))=4294967296 ^ f*(x[f]*val (y.take l))+4294967296 ^ (f+l)*(x[f]*y[l]):=by
        rw [Nat.mul_add,Nat.mul_add,Nat.pow_add]
        congr 1
        rw [Nat.mul_assoc];congr 1
        rw [← Nat.mul_assoc,← Nat.mul_assoc,Nat.mul_comm x[f]]
      omega
    obtain ⟨S',q1,q2,q3,q4⟩:=B6x (N:=N) (c:=c) (d:=d) (c':=c') (d':=d') hx hy hf hs m (l+1) fuel (S.set (f+l) (s%4294967296)) (s/4294967296) v (by omega) (by omega) (Cs hS (by omega) _) (by simpa using hlen) (fun j hj hk=>by
      rw [List.getElem_set,if_neg (by omega)];exact hz j (by simpa using hj) hk) (by omega) key
    refine ⟨S',q1,q2,q3,fun k1 K=>?_⟩
    rw [Q3];unfold Ajw
    rw [ltT hly,ct,wA (by omega),Ac (by omega),ct,Bev hi,Ac hf,ct,rdl hf,Ac hly,ct,rdl hly,ct,st1 hi,ct,w64 (show x[f]<18446744073709551616 by omega),w64 (show y[l]<18446744073709551616 by omega),w64 (show S[f+l]<18446744073709551616 by omega),Btp,w64 hqy,Ao9,Nat.add_comm S[f+l],w64 (by omega),Ao9,hsd,w64 hw,Biz,Ba5,A0v,wS (by omega)]
    exact q4 k1 K
theorem B3o {N:Nat} {x y:List Nat} {c d c' d':Bool} (hx:Ah x) (hy:Ah y) (hfit:fit (x.length+y.length) N):∀ (m f fuel:Nat) (S:List Nat),f+m=x.length→m<fuel→Ah S→S.length=x.length+y.length →
    val S=val (x.take f)*val y →
    ∀ K:Nat→LA→Option R,Jt N K (Ae x) x.length c d (Ae y) y.length c' d' fuel (x.length+y.length) (f:Int) (Ae S)=K (dig (val x*val y)).length (Ae (dig (val x*val y)))
  | 0,f,fuel+1,S,hf,_,hS,hlen,hv=>by
    intro K
    have hf':f=x.length:=by omega
    subst hf'
    rw [List.take_length] at hv
    rw [Jt];unfold Ajx
    rw [ltF (Nat.le_refl _),cf,Nat.mul_one,List.take_of_length_le (by rw [B4];omega),Dl hlen.symm hS (by rw [hlen];exact hfit),hv]
  | m+1,f,fuel+1,S,hf,hfu,hS,hlen,hv=>by
    intro K
    have h1:=hfit.1;have h2:=hfit.2
    have hfx:f<x.length:=by omega
    have b1:=Bn (Cn hx f)
    rw [List.length_take,Nat.min_eq_left (by omega)] at b1
    have b2:=Bn hy
    have hbound:val S<4294967296 ^ (f+y.length):=by
      rw [hv,Nat.pow_add];exact Nat.mul_lt_mul'' b1 b2
    have hnext:val (x.take (f+1))*val y=val S+4294967296 ^ f*(x[f]*val y):=by
      rw [Av hfx,Nat.add_mul,hv,Nat.mul_assoc]
    obtain ⟨S1,p1,p2,p3,p4⟩:=B6x (R:=R) (N:=N) (x:=x) (y:=y) (c:=c) (d:=d) (c':=c') (d':=d') (f:=f) hx hy hfx (by omega) y.length 0 N S 0 (val S) (by omega) (by omega) hS hlen (B9a hbound) (by omega) (by simp [val])
    rw [Jt];unfold Ajx
    rw [ltT hfx,ct]
    have:=p4 (Jt N K (Ae x) x.length c d (Ae y) y.length c' d' fuel) K
    simp only [Int.natCast_zero] at this
    dsimp only
    rw [this]
    exact B3o hx hy hfit m (f+1) fuel S1 (by omega) (by omega) p1 p2 (by rw [p3,hnext]) K
theorem B74 {N:Nat} {a b:List Nat} {n m:Nat} {t o t' o':Bool} {K:Nat→LA→Option R} (hn:n=a.length) (hm:m=b.length) (ha:Ah a) (hb:Ah b) (hf:fit (a.length+b.length) N) :
    Bdt N (Ae a) n t o (Ae b) m t' o' K=K (dig (val a*val b)).length (Ae (dig (val a*val b))):=by
  subst hn hm
  have h1:=hf.1;have h2:=hf.2
  rw [Bls];unfold Br6 Br5
  rw [wA (by omega),mk4 (by omega),ct,Int.toNat_natCast,Dd]
  exact B3o ha hb hf a.length 0 N (List.replicate (a.length+b.length) 0) (by omega) (by omega) (Cq _) (by simp) (by rw [D1];simp [val]) K
end
end Gx

namespace Gx
open Go Go.Proofs
section
variable {R:Type}
theorem Bt0 {N:Nat}:∀ (k fuel n v:Nat),v<2 ^ k→k<fuel→n+k≤1000000000000→∃ b:Nat,b≤k∧v<2 ^ b∧(v≠0→2 ^ b≤2*v)∧(v=0→b=0)∧∀ K:Int→Option R,Mb N K fuel (n:Int) (v:Int)=K ((n+b:Nat):Int)
  | 0,fuel+1,n,v,hv,_,_=>by
    have h0:v=0:=by simpa using hv
    subst h0
    refine ⟨0,by omega,by simp,fun h=>absurd rfl h,fun _=>rfl,fun K=>?_⟩
    rw [Mb];unfold Sm
    rw [show decide (((0:Nat):Int)>0)=false by rfl,cf];rfl
  | k+1,fuel+1,n,v,hv,hf,hn=>by
    by_cases h0:v=0
    · subst h0
      refine ⟨0,by omega,by simp,fun h=>absurd rfl h,fun _=>rfl,fun K=>?_⟩
      rw [Mb];unfold Sm
      rw [show decide (((0:Nat):Int)>0)=false by rfl,cf];rfl
    · obtain ⟨b,b1,b2,b3,b4,b5⟩:=Bt0 (N:=N) k fuel (n+1) (v/2) (by rw [Nat.pow_succ] at hv;omega) (by omega) (by omega)
      refine ⟨b+1,by omega,by rw [Nat.pow_succ];omega,fun _=>?_,fun h=>absurd h h0,fun K=>?_⟩
      · by_cases h1:v/2=0
        · rw [b4 h1];simp;omega
        · have:=b3 h1;rw [Nat.pow_succ];omega
      · rw [Mb];unfold Sm
        rw [show decide (((v:Nat):Int)>0)=true by rw [decide_eq_true_eq];omega,ct,wS (by omega),Ur v 1,show v/2 ^ 1=v/2 by rfl,b5]
        congr 2;omega
theorem B5x {N:Nat} {a:List Nat} {n:Nat} {t o:Bool} (hn:n=a.length) (ha:Ah a) (hf:fit a.length N):∃ nb:Nat,nb≤32*a.length∧val a<2 ^ nb∧(val a≠0→2 ^ nb≤2*val a)∧(val a=0→nb=0)∧∀ K:Int→Option R,Axv N (Ae a) n t o K=K (nb:Int):=by
  have h1:=hf.1;have h2:=hf.2
  have la:=(Bs ha).2
  by_cases h0:val a=0
  · refine ⟨0,by omega,by rw [h0];simp,fun h=>absurd h0 h,fun _=>rfl,fun K=>?_⟩
    rw [Aqi];unfold A22 A21
    rw [Dl hn ha hf,h0,Du];rfl
  · have hl:(dig (val a)).length≠0:=fun h=>h0 (Bz.1 h)
    obtain ⟨k,hk⟩:∃ k,(dig (val a)).length=k+1:=⟨(dig (val a)).length - 1,by omega⟩
    have top:=A3 (Ad (val a)) (show k<(dig (val a)).length by omega)
    have htop0:(dig (val a))[k]'(by omega)≠0:=by
      have:=Bto (val a) (Ba4 h0)
      rw [List.getLast_eq_getElem] at this
      simp only [hk,Nat.add_sub_cancel] at this
      exact this
    have tf:=Apd hk
    have tl:=At5 (Ad (val a)) hk
    rw [Ag] at tf tl
    obtain ⟨b,b1,b2,b3,b4,b5⟩:=Bt0 (R:=R) (N:=N) 32 N (32*k) ((dig (val a))[k]'(by omega)) (by exact top) (by omega) (by omega)
    have hp:(2:Nat) ^ (32*k+b)=4294967296 ^ k*2 ^ b:=by rw [Nat.pow_add,Nat.pow_mul]
    refine ⟨32*k+b,by omega,?_,fun _=>?_,fun h=>absurd h h0,fun K=>?_⟩
    · rw [hp]
      have:((dig (val a))[k]'(by omega)+1)*4294967296 ^ k≤2 ^ b*4294967296 ^ k:=Nat.mul_le_mul_right _ b2
      rw [Nat.mul_comm (2 ^ b)] at this;omega
    · rw [hp]
      have:=Nat.mul_le_mul_left (4294967296 ^ k) (b3 htop0)
      rw [Nat.mul_left_comm] at this
      omega
    · rw [Aqi];unfold A22 A21
      have w1:IntKind.wrap .i64 ((((dig (val a)).length:Nat):Int) - 1)=((k:Nat):Int):=by rw [i64 (by omega)];omega
      have w2:IntKind.wrap .i64 ((32:Int)*((k:Nat):Int))=((32*k:Nat):Int):=by rw [i64 (by omega)];omega
      rw [Dl hn ha hf,i0F hl,cf,w1,Ac (by omega),ct,Bev (by omega),w2]
      exact b5 K
theorem B3p {a:List Nat} {j:Nat} (h:j<a.length):val a=val (a.take j)+4294967296 ^ j*(a[j]+4294967296*val (a.drop (j+1))):=by
  have:=Q8 (a.take j) (a.drop j)
  rw [List.take_append_drop,List.length_take,Nat.min_eq_left (by omega),A0y h] at this
  exact this
theorem Bi7 (j k:Nat):(2:Nat) ^ (32*j+k)=4294967296 ^ j*2 ^ k:=by rw [Nat.pow_add,Nat.pow_mul]
theorem Can {a:List Nat} {j k:Nat} (ha:Ah a) (h:j<a.length) (hk:k<32):val a/2 ^ (32*j+k)%2=a[j]/2 ^ k%2:=by
  have tl:=Bn (Cn ha j)
  rw [List.length_take,Nat.min_eq_left (by omega)] at tl
  have hP:0<4294967296 ^ j:=Nat.pow_pos (by omega)
  have hp:0<2 ^ k:=Nat.pow_pos (by omega)
  rw [Bi7,← Nat.div_div_eq_div_mul,B3p h,Nat.add_mul_div_left _ _ hP,Nat.div_eq_of_lt tl,Nat.zero_add]
  have e:4294967296=2 ^ k*(2*2 ^ (31 - k)):=by rw [← Nat.pow_succ',← Nat.pow_add,show k+(31 - k+1)=32 by omega]
  have e2:4294967296*val (a.drop (j+1))=2 ^ k*(2*(2 ^ (31 - k)*val (a.drop (j+1)))):=by
    rw [← Nat.mul_assoc 2,← Nat.mul_assoc,← e]
  rw [e2,Nat.add_mul_div_left _ _ hp,Nat.add_mul_mod_self_left]
theorem B75 {N:Nat} {a:List Nat} {n:Nat} {t o:Bool} {i:Nat} {K:Int→Option R} (hn:n=a.length) (ha:Ah a) (hi:i<32*a.length) (hs:a.length≤1000000000):Bcl N (Ae a) n t o (i:Int) K=K ((val a/2 ^ i%2:Nat):Int):=by
  subst hn
  have hj:i/32<a.length:=by omega
  have aj:=A3 ha hj
  rw [Bk6];unfold Bp6 Bp5
  have w1:IntKind.wrap .i64 (Int.tdiv ((i:Nat):Int) 32)=((i/32:Nat):Int):=by rw [show (32:Int)=((32:Nat):Int) by rfl,A6v,i64 (by omega)]
  have w2:IntKind.wrap .u64 (Int.tmod ((i:Nat):Int) 32)=((i%32:Nat):Int):=by rw [show (32:Int)=((32:Nat):Int) by rfl,A0x,w64 (by omega)]
  rw [w1,w2,show decide (((i/32:Nat):Int)≥((a.length:Nat):Int))=false by rw [decide_eq_false_iff_not];omega,cf,Ac hj,ct,rdl hj,show decide (((i%32:Nat):Int)<0)=false by rw [decide_eq_false_iff_not];omega,cf,Int.toNat_natCast,Nat.min_eq_left (by omega),Ur]
  have hle:a[i/32]/2 ^ (i%32)<4294967296:=Nat.lt_of_le_of_lt (Nat.div_le_self _ _) aj
  have e:=B5q (k:=.u32) rfl (a:=a[i/32]/2 ^ (i%32)) (b:=1) hle (by decide)
  rw [show (1:Int)=((1:Nat):Int) by rfl,e,Nat.and_one_is_mod]
  have:=Can ha hj (k:=i%32) (by omega)
  rw [Nat.div_add_mod] at this
  rw [this]
theorem B9l {Q:List Nat} {j k:Nat} (hQ:Ah Q) (h:j<Q.length) (hk:k<32) (hd:2 ^ (32*j+k+1)∣val Q):2 ^ (k+1)∣Q[j]:=by
  have tl:=Bn (Cn hQ j)
  rw [List.length_take,Nat.min_eq_left (by omega)] at tl
  have hP:0<4294967296 ^ j:=Nat.pow_pos (by omega)
  rw [Nat.add_assoc,Bi7,B3p h] at hd
  have h0:val (Q.take j)=0:=by
    have x1:4294967296 ^ j∣val (Q.take j):=(Nat.dvd_add_left (Nat.dvd_mul_right _ _)).1 (Nat.dvd_trans (Nat.dvd_mul_right _ _) hd)
    exact Nat.eq_zero_of_dvd_of_lt x1 tl
  rw [h0,Nat.zero_add] at hd
  have x2:=Nat.dvd_of_mul_dvd_mul_left hP hd
  have x3:2 ^ (k+1)∣4294967296*val (Q.drop (j+1)):=Nat.dvd_trans ⟨2 ^ (31 - k),by rw [← Nat.pow_add,show k+1+(31 - k)=32 by omega]⟩ (Nat.dvd_mul_right _ _)
  exact (Nat.dvd_add_left x3).1 x2
theorem Bi8 {N:Nat} {a b:List Nat} {t o:Bool} {B:Nat} (ha:Ah a) (hb:b=dig B) (hB:0<B) (hf:fit (a.length+2*b.length+4) N):∀ (i fuel:Nat) (Q:List Nat) (r:Nat),i<fuel→i≤32*a.length→Ah Q→Q.length=a.length→r=val a/2 ^ i%B→val Q=val a/2 ^ i/B*2 ^ i →
    ∀ K:Nat→Nat→Bool→LA→LA→Option R,Dx N K (Ae a) a.length t o b.length (Ae b) fuel (dig r).length ((i:Int) - 1) (Ae Q) (Ae (dig r))=K (dig (val a/B)).length (dig (val a%B)).length true (Ae (dig (val a/B))) (Ae (dig (val a%B)))
  | 0,fuel+1,Q,r,_,_,hQ,hl,hr,hv=>by
    intro K
    rw [Nat.pow_zero,Nat.div_one] at hr hv
    rw [Nat.mul_one] at hv
    have lr:(dig r).length≤b.length:=by
      rw [hb];apply Cc;rw [hr];exact Nat.le_of_lt (Nat.mod_lt _ hB)
    rw [Dx];unfold Sp
    rw [show decide ((((0:Nat):Int) - 1)≥0)=false by rfl,cf,Nat.mul_one,List.take_of_length_le (by rw [B4];omega),Dl hl.symm hQ (by rw [hl];exact hf.le (by omega)),Nat.mul_one,List.take_of_length_le (by rw [B4];omega),Dl rfl (Ad _) (hf.le (by omega)),Ag,hv,hr]
  | i+1,fuel+1,Q,r,hfu,hi,hQ,hl,hr,hv=>by
    intro K
    have h1:=hf.1;have h2:=hf.2
    have hrB:r<B:=by rw [hr];exact Nat.mod_lt _ hB
    have lr:(dig r).length≤b.length:=by rw [hb];exact Cc (Nat.le_of_lt hrB)
    have hhalf:val a/2 ^ i=2*(val a/2 ^ (i+1))+val a/2 ^ i%2:=by
      have:=Nat.div_add_mod (val a/2 ^ i) 2
      rw [Nat.div_div_eq_div_mul,← Nat.pow_succ] at this
      exact this.symm
    have hdm:=Nat.div_add_mod (val a/2 ^ (i+1)) B
    have hb2:val a/2 ^ i%2<2:=Nat.mod_lt _ (by omega)
    generalize hH:val a/2 ^ (i+1)=H at *
    generalize hbit:val a/2 ^ i%2=bt at *
    have hsum:val a/2 ^ i=B*(2*(H/B))+(2*r+bt):=by
      rw [hhalf,hr,Nat.mul_left_comm];omega
    clear hr hdm hhalf
    have hj:i/32<Q.length:=by omega
    have qj:=A3 hQ hj
    have hdvd:2 ^ (32*(i/32)+i%32+1)∣val Q:=by rw [Nat.div_add_mod,hv];exact Nat.dvd_mul_left _ _
    have hfree:=B9l hQ hj (Nat.mod_lt _ (by omega)) hdvd
    have hpw:2 ^ i=4294967296 ^ (i/32)*2 ^ (i%32):=by rw [← Bi7,Nat.div_add_mod]
    have hpk:2 ^ (i%32+1)≤4294967296:=(Nat.pow_le_pow_right (by omega) (show i%32+1≤32 by omega):2 ^ (i%32+1)≤2 ^ 32)
    have hor:Rf .u32 ((Q[i/32]:Nat):Int) (IntKind.wrap .u32 ((1:Int)*2 ^ (min (Int.toNat ((i%32:Nat):Int)) 32)))=((Q[i/32]+2 ^ (i%32):Nat):Int)∧Q[i/32]+2 ^ (i%32)<4294967296:=by
      obtain ⟨c,hc⟩:=hfree
      have hpos:0<2 ^ (i%32):=Nat.pow_pos (by omega)
      have hlt:Q[i/32]+2 ^ (i%32)<4294967296:=by
        obtain ⟨w,hw⟩:∃ w,4294967296=2 ^ (i%32+1)*w:=⟨2 ^ (31 - i%32),by rw [← Nat.pow_add,show i%32+1+(31 - i%32)=32 by omega]⟩
        have x1:c<w:=by rw [hc,hw] at qj;exact Nat.lt_of_mul_lt_mul_left qj
        have x2:=Nat.mul_le_mul_left (2 ^ (i%32+1)) (show c+1≤w from x1)
        rw [Nat.mul_add,← hw,← hc,Nat.mul_one,Nat.pow_succ] at x2
        omega
      refine ⟨?_,hlt⟩
      rw [Int.toNat_natCast,Nat.min_eq_left (by omega),Int.one_mul,show (2:Int) ^ (i%32)=((2 ^ (i%32):Nat):Int) by simp,w32 (by rw [Nat.pow_succ] at hpk;omega),Bye (k:=.u32) rfl qj (by show 2 ^ (i%32)<4294967296;rw [Nat.pow_succ] at hpk;omega)]
      congr 1
      have e:Q[i/32]=c*2 ^ (i%32+1):=by rw [hc,Nat.mul_comm]
      rw [e];exact Bi0 (by rw [Nat.pow_succ];omega)
    have w1:IntKind.wrap .i64 (Int.tdiv ((i:Nat):Int) 32)=((i/32:Nat):Int):=by rw [show (32:Int)=((32:Nat):Int) by rfl,A6v,i64 (by omega)]
    have w2:IntKind.wrap .u64 (Int.tmod ((i:Nat):Int) 32)=((i%32:Nat):Int):=by rw [show (32:Int)=((32:Nat):Int) by rfl,A0x,w64 (by omega)]
    have l2:(dig (2*r+bt)).length≤b.length+1:=by
      apply Dc
      have x1:=Bn (Ad B)
      rw [Ag,← hb] at x1
      rw [Nat.pow_succ];omega
    have second:Ku N (Dx N K (Ae a) a.length t o b.length (Ae b) fuel) K (Ae a) a.length t o b.length ((i:Nat):Int) (Ae b) (Ae Q) (dig (2*r+bt)).length (Ae (dig (2*r+bt)))=K (dig (val a/B)).length (dig (val a%B)).length true (Ae (dig (val a/B))) (Ae (dig (val a%B))):=by
      unfold Ku Afq
      have lb:Ah b:=by rw [hb];exact Ad _
      have vb:val b=B:=by rw [hb,Ag]
      rw [Nat.mul_one,Nat.mul_one,List.take_of_length_le (by rw [B4];omega),List.take_of_length_le (by rw [B4];omega),Bi6 rfl rfl (Ad _) lb (hf.le (by omega)),Ag,vb]
      by_cases hge:B≤2*r+bt
      · have hq1 : val a / 2 ^ i / B = 2 * (H / B) + 1 := by
          rw [hsum,show B*(2*(H/B))+(2*r+bt)=B*(2*(H/B)+1)+(2*r+bt - B) by rw [Nat.mul_add];omega,Nat.mul_add_div hB,Nat.div_eq_of_lt (show 2*r+bt - B<B by omega),Nat.add_zero]
        have hm1:val a/2 ^ i%B=2*r+bt - B:=by
          rw [hsum,show B*(2*(H/B))+(2*r+bt)=B*(2*(H/B)+1)+(2*r+bt - B) by rw [Nat.mul_add];omega,Nat.mul_add_mod,Nat.mod_eq_of_lt (by omega)]
        rw [if_pos hge,ct,w1,w2,Ac (by omega),ct,Bev hj,show decide (((i%32:Nat):Int)<0)=false by rw [decide_eq_false_iff_not];omega,cf,ct,st1 hj,ct,hor.1,A0v,i64 (by omega)]
        refine Bi8 ha hb hB hf i fuel (Q.set (i/32) (Q[i/32]+2 ^ (i%32))) (2*r+bt - B) (by omega) (by omega) (Cs hQ hor.2 _) (by simpa using hl) hm1.symm ?_ K
        have x1:=Bex (v:=Q[i/32]+2 ^ (i%32)) hj
        rw [Nat.mul_add,← hpw] at x1
        rw [hq1,Nat.add_mul,Nat.one_mul,Nat.mul_comm 2,Nat.mul_assoc,Nat.mul_comm 2,← Nat.pow_succ,← hv]
        omega
      · have hq1:val a/2 ^ i/B=2*(H/B):=by rw [hsum,Nat.mul_add_div hB,Nat.div_eq_of_lt (show 2*r+bt<B by omega),Nat.add_zero]
        have hm1:val a/2 ^ i%B=2*r+bt:=by rw [hsum,Nat.mul_add_mod,Nat.mod_eq_of_lt (by omega)]
        rw [if_neg hge,cf,i64 (by omega)]
        refine Bi8 ha hb hB hf i fuel Q (2*r+bt) (by omega) (by omega) hQ hl hm1.symm ?_ K
        rw [hq1,Nat.mul_comm 2,Nat.mul_assoc,Nat.mul_comm 2,← Nat.pow_succ,← hv]
    rw [Dx];unfold Sp
    rw [show (((i+1:Nat):Int) - 1)=((i:Nat):Int) by omega,show decide (((i:Nat):Int)≥0)=true by rw [decide_eq_true_eq];omega,ct,Nat.mul_one,List.take_of_length_le (by rw [B4];omega),Bi5 rfl rfl (Ad _) (Ad _) (hf.le (by omega)),Ag,B75 rfl ha (by omega) (by omega),hbit]
    have l3:(dig (r+r)).length≤b.length+1:=by
      apply Dc
      have x1:=Bn (Ad B)
      rw [Ag,← hb] at x1
      rw [Nat.pow_succ];omega
    rcases (show bt=0∨bt=1 by omega) with rfl | rfl
    · rw [show (((0:Nat):Int)==1)=false by rfl,cf]
      rw [show 2*r+0=r+r by omega] at second
      exact second
    · rw [show (((1:Nat):Int)==1)=true by rfl,ct,Nat.mul_one,List.take_of_length_le (by rw [B4];omega)]
      have:=Bi5 (R:=R) (N:=N) (a:=dig (r+r)) (b:=[1]) (n:=(dig (r+r)).length) (m:=1) (t:=false) (o:=true) (t':=false) (o':=true) (K:=fun af ag=>Ku N (Dx N K (Ae a) a.length t o b.length (Ae b) fuel) K (Ae a) a.length t o b.length ((i:Nat):Int) (Ae b) (Ae Q) af ag) rfl rfl (Ad _) (by intro x hx;simp at hx;omega) (hf.le (by simp;omega))
      rw [Ag,show val [1]=1 by rfl,show r+r+1=2*r+1 by omega] at this
      exact this.trans second
end
end Gx

namespace Gx
open Go Go.Proofs
section
variable {R:Type}
theorem At7 {N:Nat} {a b:List Nat} {n m:Nat} {t o t' o':Bool} {K:Nat→Nat→Bool→LA→LA→Option R} (hn:n=a.length) (hm:m=b.length) (ha:Ah a) (hb:Ah b) (hb0:val b≠0) (hf:fit (a.length+2*b.length+4) N) :
    V0 N (Ae a) n t o (Ae b) m t' o' K=K (dig (val a/val b)).length (dig (val a%val b)).length true (Ae (dig (val a/val b))) (Ae (dig (val a%val b))):=by
  have h1:=hf.1;have h2:=hf.2
  have lb:=(Bs hb).2
  have hbl:(dig (val b)).length≠0:=fun h=>hb0 (Bz.1 h)
  rw [Ax4];unfold Ax3 Ax2
  dsimp only
  have long:X0 N K (Ae a) n t o (dig (val b)).length (Ae (dig (val b)))=K (dig (val a/val b)).length (dig (val a%val b)).length true (Ae (dig (val a/val b))) (Ae (dig (val a%val b))):=by
    obtain ⟨nb,n1,n2,n3,n4,n5⟩:=B5x (R:=R) (N:=N) (a:=a) (n:=n) (t:=false) (o:=o) hn ha (hf.le (by omega))
    unfold X0 Afr
    dsimp only
    rw [n5,hn,mk4 (by omega),ct,Dd,i64 (by omega)]
    have hz:val a/2 ^ nb=0:=Nat.div_eq_of_lt n2
    have:=Bi8 (R:=R) (N:=N) (a:=a) (b:=dig (val b)) (t:=t) (o:=o) (B:=val b) ha rfl (by omega) (hf.le (by omega)) nb N (List.replicate a.length 0) 0 (by omega) n1 (Cq _) (by simp) (by rw [hz];simp) (by rw [hz,D1];simp) K
    exact this
  rw [Dl hm hb (hf.le (by omega)),i0F hbl,cf,At6 hn ha (hf.le (by omega)),Nat.mul_one,List.take_of_length_le (by rw [B4];exact Nat.le_refl _)]
  by_cases ha2:val a<18446744073709551616
  · rw [if_pos ha2,At6 rfl (Ad _) (hf.le (by omega)),Ag]
    by_cases hb2:val b<18446744073709551616
    · have q64:val a/val b<18446744073709551616:=Nat.lt_of_le_of_lt (Nat.div_le_self _ _) ha2
      have r64:val a%val b<18446744073709551616:=Nat.lt_of_le_of_lt (Nat.mod_le _ _) ha2
      rw [if_pos hb2,show ((true:Bool)==true)=true by rfl,ct,ctB,ct,i0F hb0,cf,A6v,w64 q64,Ak3 q64 (by omega),cf,A0x,Ak3 r64 (by omega)]
    · rw [if_neg hb2,show ((true:Bool)==true)=true by rfl,ct,ctB,cf,long]
  · rw [if_neg ha2,At6 rfl (Ad _) (hf.le (by omega)),Ag]
    by_cases hb2:val b<18446744073709551616
    · rw [if_pos hb2,show ((false:Bool)==true)=false by rfl,cf,long]
    · rw [if_neg hb2,show ((false:Bool)==true)=false by rfl,cf,long]
theorem B76 {N:Nat}:∀ (k fuel A B:Nat),k<fuel→A*B<2 ^ k→B<A→fit (3*(dig A).length+4) N→∀ K:Nat→LA→Option R,Eb N K fuel (dig A).length (dig B).length (Ae (dig A)) (Ae (dig B))=K (dig (Nat.gcd A B)).length (Ae (dig (Nat.gcd A B))):=by
  have base:∀ (fuel A:Nat) (K:Nat→LA→Option R),Eb N K (fuel+1) (dig A).length (dig 0).length (Ae (dig A)) (Ae (dig 0))=K (dig (Nat.gcd A 0)).length (Ae (dig (Nat.gcd A 0))):=by
    intro fuel A K
    rw [Eb];unfold Rj
    rw [Du,show decide ((((([]:List Nat).length:Nat)):Int)>0)=false by decide,cf,Nat.gcd_zero_right]
  intro k
  induction k with
  | zero =>
    intro fuel A B hfu hxy hle hf K
    obtain ⟨fuel,rfl⟩:∃ F,fuel=F+1:=⟨fuel - 1,by omega⟩
    have hy:B=0:=by
      rcases Nat.eq_zero_or_pos B with h | h
      · exact h
      · have h3:=Nat.mul_le_mul_left A (show 1≤B by omega)
        rw [Nat.pow_zero] at hxy;omega
    subst hy
    exact base fuel A K
  | succ k ih =>
    intro fuel A B hfu hxy hle hf K
    have h1:=hf.1;have h2:=hf.2
    obtain ⟨fuel,rfl⟩:∃ F,fuel=F+1:=⟨fuel - 1,by omega⟩
    rcases Nat.eq_zero_or_pos B with h | h
    · subst h;exact base fuel A K
    have hll:=Cc (Nat.le_of_lt hle)
    have hbl:(dig B).length≠0:=fun h0=>by have:=Bz.1 h0;omega
    have hm:=Nat.mod_lt A h
    have hh:=A00 (show 1≤B by omega) (Nat.le_of_lt hle)
    have:=ih fuel B (A%B) (by omega) (by rw [Nat.pow_succ] at hxy;omega) hm (hf.le (by omega)) K
    have hg:Nat.gcd B (A%B)=Nat.gcd A B:=by rw [Nat.gcd_comm,← Nat.gcd_rec,Nat.gcd_comm]
    rw [hg] at this
    rw [Eb];unfold Rj
    rw [show decide ((((dig B).length:Nat):Int)>0)=true by rw [decide_eq_true_eq];omega,ct,Nat.mul_one,Nat.mul_one,List.take_of_length_le (by rw [B4];exact Nat.le_refl _),List.take_of_length_le (by rw [B4];exact Nat.le_refl _),At7 rfl rfl (Ad _) (Ad _) (by rw [Ag];omega) (hf.le (by omega)),Ag,Ag]
    exact this
theorem B77 {N:Nat} {a b:List Nat} {n m:Nat} {t o t' o':Bool} {K:Nat→LA→Option R} (hn:n=a.length) (hm:m=b.length) (ha:Ah a) (hb:Ah b) (hf:fit (3*(a.length+b.length)+4) N) :
    Bcn N (Ae a) n t o (Ae b) m t' o' K=K (dig (Nat.gcd (val a) (val b))).length (Ae (dig (Nat.gcd (val a) (val b)))):=by
  have h1:=hf.1;have h2:=hf.2
  have la:=(Bs ha).2
  have lb:=(Bs hb).2
  have hprod:val a*val b<2 ^ (32*(a.length+b.length)):=by rw [← B3m];exact Nat.mul_lt_mul'' (Bn ha) (Bn hb)
  rw [Bk8];unfold Bqi Bqh
  dsimp only
  rw [Dl hn ha (hf.le (by omega)),Dl hm hb (hf.le (by omega))]
  obtain ⟨F,hF⟩:∃ F,N=F+1:=⟨N - 1,by omega⟩
  rcases Nat.eq_zero_or_pos (val b) with h | h
  · rw [h,Du,Nat.gcd_zero_right,hF,Eb];unfold Rj
    rw [show decide ((((([]:List Nat).length:Nat)):Int)>0)=false by decide,cf]
  · have hm':=Nat.mod_lt (val a) h
    have hbl:(dig (val b)).length≠0:=fun h0=>by have:=Bz.1 h0;omega
    have hprod2:val b*(val a%val b)<2 ^ (32*(a.length+b.length)):=by
      have:val b*(val a%val b)≤val b*val a:=Nat.mul_le_mul_left _ (Nat.mod_le _ _)
      rw [Nat.mul_comm (val b) (val a)] at this;omega
    have:=B76 (R:=R) (N:=N) (32*(a.length+b.length)) F (val b) (val a%val b) (by omega) hprod2 hm' (hf.le (by omega)) K
    have hg:Nat.gcd (val b) (val a%val b)=Nat.gcd (val a) (val b):=by rw [Nat.gcd_comm,← Nat.gcd_rec,Nat.gcd_comm]
    rw [hg] at this
    have e:Eb N K (F+1) (dig (val a)).length (dig (val b)).length (Ae (dig (val a))) (Ae (dig (val b)))=Eb N K F (dig (val b)).length (dig (val a%val b)).length (Ae (dig (val b))) (Ae (dig (val a%val b))):=by
      rw [Eb];unfold Rj
      rw [show decide ((((dig (val b)).length:Nat):Int)>0)=true by rw [decide_eq_true_eq];omega,ct,Nat.mul_one,Nat.mul_one,List.take_of_length_le (by rw [B4];exact Nat.le_refl _),List.take_of_length_le (by rw [B4];exact Nat.le_refl _),At7 rfl rfl (Ad _) (Ad _) (by rw [Ag];omega) (hf.le (by omega)),Ag,Ag]
    conv=>lhs;rw [show (Eb N K N)=Eb N K (F+1) by rw [← hF]]
    rw [e];exact this
end
end Gx

namespace Gx
open Go Go.Proofs
section
variable {R:Type}
inductive LS where
  | nil
  | of (l:List Nat) (t o:Bool)
def LS.l:LS→List Nat
  | .nil=>[]
  | .of l _ _=>l
def LS.av:LS→AV
  | .nil=>.nsl
  | .of l t o=>.imm (Ae l) l.length 1 t o
theorem Bt1 {s:LS} {r:List AV} {f:List AV→Nat→Option R}:rdL 1 (s.av::r) f=f (Ae s.l) s.l.length:=by
  cases s<;>simp [rdL,LS.av,LS.l,B8k,Ae]
theorem Cbe {b:Bool} {r:List AV} {f:Bool→Option R}:rdB (.bool b::r) f=f b:=by simp [rdB,asBool]
def I9 (neg:Bool) (s:LS):List AV:=[.bool neg,s.av]
def Ar (neg:Bool) (s:LS):Int:=if neg then -(val s.l:Int) else (val s.l:Int)
theorem Cv (neg:Bool) (s:LS):(Ar neg s).natAbs=val s.l:=by unfold Ar;cases neg<;>simp
theorem Us {neg:Bool} {s:LS} {f:Bool→Option R}:rdB (I9 neg s) f=f neg:=Cbe
theorem Oy {neg:Bool} {s:LS} {f:List AV→Nat→Option R}:rdL 1 (List.drop 1 (I9 neg s)) f=f (Ae s.l) s.l.length:=by rw [I9,List.drop_succ_cons,List.drop_zero,Bt1]
theorem Mw {N:Nat} {c:Bool} {a:Nat} {b:LA} {K:Bool→Option R}:Ij N c a b K=K (c&&decide (0<a)):=by
  rw [A5q];unfold A8s A8r
  cases c<;>simp
theorem Aey {z:Int} {c:Bool} {m:Nat} (h:z=if c then -(m:Int) else (m:Int)):(c&&decide (0<(dig m).length))=decide (z<0)∧z.natAbs=m:=by
  have hz:z.natAbs=m:=by rw [h];cases c<;>simp
  refine ⟨?_,hz⟩
  by_cases h0:m=0
  · subst h0;rw [h,Du];cases c<;>simp
  · have : 0 < (dig m).length := by
      rcases Nat.eq_zero_or_pos (dig m).length with h1 | h1
      · exact absurd (Bz.1 h1) h0
      · exact h1
    rw [h];cases c<;>simp [this]<;>omega
theorem Bwb {N:Nat} {v:Int} (hv:-9223372036854775808≤v∧v≤9223372036854775807) (hN:4≤N):∃ S,Ah S∧val S=v.natAbs∧∀ K:Bool→Nat→LA→Option R,Afx N v K=K (decide (v<0)) (dig v.natAbs).length (Ae S):=by
  have hb:v.natAbs<18446744073709551616:=by omega
  obtain ⟨S,s1,s2,s3⟩:=J3 (R:=R) (N:=N) hb hN
  refine ⟨S,s1,s2,fun K=>?_⟩
  rw [Ayf];unfold Aye Ayd
  by_cases h:v<0
  · have e:IntKind.wrap .u64 ((0:Int) - IntKind.wrap .u64 v)=(v.natAbs:Int):=by rw [Ba6,Ba6];omega
    rw [decide_eq_true h,ct,e,s3,Mw]
    have h0:v.natAbs≠0:=by omega
    have:0<(dig v.natAbs).length:=by
      rcases Nat.eq_zero_or_pos (dig v.natAbs).length with h1 | h1
      · exact absurd (Bz.1 h1) h0
      · exact h1
    simp [this]
  · have e:IntKind.wrap .u64 v=(v.natAbs:Int):=by rw [Ba6];omega
    rw [decide_eq_false h,cf,e,s3,Mw];rfl
theorem Ba9 {N:Nat} {neg:Bool} {s:LS} {o:Bool} {K:Int→Option R} (hs:Ah s.l) (hf:fit s.l.length N):Ard N (I9 neg s) o K=K (Ar neg s).sign:=by
  rw [Blg];unfold Bq3 Bq2
  rw [Oy,Btu rfl hs hf]
  unfold Ar
  by_cases h:val s.l=0
  · rw [h,Aew,show ((0:Int)==0)=true by rfl,ct];cases neg<;>rfl
  · have:Gv (val s.l) 0=1:=by unfold Gv;rw [if_neg (by omega),if_pos (by omega)]
    rw [this,show ((1:Int)==0)=false by rfl,cf,Us]
    cases neg
    · rw [cf];simp only [Bool.false_eq_true,if_false]
      congr 1
      rw [Int.sign_eq_one_of_pos];omega
    · rw [ct];simp only [if_true]
      congr 1
      rw [Int.sign_eq_neg_one_of_neg];omega
theorem Ape {N:Nat} {n1 n2:Bool} {s1 s2:LS} {o1 o2:Bool} (h1:Ah s1.l) (h2:Ah s2.l) (hf:fit (s1.l.length+s2.l.length) N):∃ S,Ah S∧val S=(Ar n1 s1*Ar n2 s2).natAbs∧∀ K:Bool→Nat→LA→Option R,Arq N (I9 n1 s1) o1 (I9 n2 s2) o2 K=K (decide (Ar n1 s1*Ar n2 s2<0)) (dig (Ar n1 s1*Ar n2 s2).natAbs).length (Ae S):=by
  obtain ⟨S,a1,a2,a3⟩:=A0w (R:=R) (N:=N) (a:=s1.l) (b:=s2.l) (t:=false) (o:=o1) (t':=false) (o':=o2) rfl rfl h1 h2 hf
  have hz:Ar n1 s1*Ar n2 s2=if (!(n1==n2)) then -((val s1.l*val s2.l:Nat):Int) else ((val s1.l*val s2.l:Nat):Int):=by
    unfold Ar;cases n1<;>cases n2<;>simp [Int.mul_neg,Int.neg_mul]
  obtain ⟨c1,c2⟩:=Aey hz
  refine ⟨S,a1,by rw [a2,c2],fun K=>?_⟩
  rw [Bre];unfold B0d B0c
  rw [Us,Us,Oy,Oy,a3,Mw,c1,c2]
theorem Byq {N:Nat} {n1 n2:Bool} {s1 s2:LS} {o1 o2:Bool} (h1:Ah s1.l) (h2:Ah s2.l) (hf:fit (s1.l.length+s2.l.length+1) N):∃ S,Ah S∧val S=(Ar n1 s1+Ar n2 s2).natAbs∧∀ K:Bool→Nat→LA→Option R,Bhv N (I9 n1 s1) o1 (I9 n2 s2) o2 K=K (decide (Ar n1 s1+Ar n2 s2<0)) (dig (Ar n1 s1+Ar n2 s2).natAbs).length (Ae S):=by
  by_cases hn:n1=n2
  · subst hn
    obtain ⟨S,a1,a2,a3⟩:=B88 (R:=R) (N:=N) (a:=s1.l) (b:=s2.l) (t:=false) (o:=o1) (t':=false) (o':=o2) rfl rfl h1 h2 hf
    have hz:Ar n1 s1+Ar n1 s2=if n1 then -((val s1.l+val s2.l:Nat):Int) else ((val s1.l+val s2.l:Nat):Int):=by
      unfold Ar;cases n1<;>simp;omega
    obtain ⟨c1,c2⟩:=Aey hz
    refine ⟨S,a1,by rw [a2,c2],fun K=>?_⟩
    rw [Ar9];unfold Bdj Bdi
    rw [Us,Us,show (n1==n1)=true by simp,ct,Us,Oy,Oy,a3,Mw,c1,c2]
  · have hne:(n1==n2)=false:=by simp [hn]
    by_cases hle:val s2.l≤val s1.l
    · obtain ⟨S,a1,a2,a3⟩:=Btx (R:=R) (N:=N) (a:=s1.l) (b:=s2.l) (t:=false) (o:=o1) (t':=false) (o':=o2) rfl rfl h1 h2 (hf.le (by omega)) hle
      have hz:Ar n1 s1+Ar n2 s2=if n1 then -((val s1.l - val s2.l:Nat):Int) else ((val s1.l - val s2.l:Nat):Int):=by
        unfold Ar;cases n1<;>cases n2<;>simp at hn ⊢<;>omega
      obtain ⟨c1,c2⟩:=Aey hz
      refine ⟨S,a1,by rw [a2,c2],fun K=>?_⟩
      rw [Ar9];unfold Bdj Bdi
      rw [Us,Us,hne,cf,Oy,Oy,a3,ct,Us,Mw,c1,c2]
    · obtain ⟨S,a1,a2,a3⟩:=Btx (R:=R) (N:=N) (a:=s2.l) (b:=s1.l) (t:=false) (o:=o2) (t':=false) (o':=o1) rfl rfl h2 h1 (hf.le (by omega)) (by omega)
      have hz:Ar n1 s1+Ar n2 s2=if n2 then -((val s2.l - val s1.l:Nat):Int) else ((val s2.l - val s1.l:Nat):Int):=by
        unfold Ar;cases n1<;>cases n2<;>simp at hn ⊢<;>omega
      obtain ⟨c1,c2⟩:=Aey hz
      refine ⟨S,a1,by rw [a2,c2],fun K=>?_⟩
      rw [Ar9];unfold Bdj Bdi
      rw [Us,Us,hne,cf,Oy,Oy,B89 rfl rfl h1 h2 (hf.le (by omega)) (by omega),cf,Oy,Oy,a3,Us,Mw,c1,c2]
theorem B5y {N:Nat} {n1:Bool} {s1:LS} {o1:Bool} {K:Bool→Nat→LA→Option R} (h1:Ah s1.l) (hf:fit s1.l.length N):Bc4 N (I9 n1 s1) o1 K=K (decide (Ar n1 s1<0)) (dig (Ar n1 s1).natAbs).length (Ae (dig (Ar n1 s1).natAbs)):=by
  obtain ⟨c1,c2⟩:=Aey (z:=Ar n1 s1) (c:=n1) (m:=val s1.l) (by unfold Ar;cases n1<;>simp)
  rw [Blo];unfold Brl Brk
  rw [Us,Oy,A4m rfl h1 hf,Mw,c1,c2]
def Be2 (x y:Int):Int:=if x<y then -1 else if y<x then 1 else 0
theorem B9m (x y:Nat):Be2 (x:Int) (y:Int)=Gv x y:=by unfold Be2 Gv;simp
theorem B9n (x y:Nat):Be2 (-(x:Int)) (-(y:Int))=Gv y x:=by
  unfold Be2 Gv
  by_cases h:y<x
  · rw [if_pos (by omega),if_pos h]
  · rw [if_neg (by omega),if_neg h]
    by_cases h2:x<y
    · rw [if_pos (by omega),if_pos h2]
    · rw [if_neg (by omega),if_neg h2]
theorem Bwc {N:Nat} {n1 n2:Bool} {s1 s2:LS} {o1 o2:Bool} {K:Int→Option R} (h1:Ah s1.l) (h2:Ah s2.l) (hf:fit (s1.l.length+s2.l.length) N):Agb N (I9 n1 s1) o1 (I9 n2 s2) o2 K=K (Be2 (Ar n1 s1) (Ar n2 s2)):=by
  rw [Ayt];unfold Ays Ayr
  have l2:∀ n s,List.take 2 (I9 n s)=I9 n s:=fun n s=>rfl
  have l3:∀ n s,Nat.ble 2 (List.length (I9 n s))=true:=fun n s=>rfl
  rw [l2,l2,l3,l3,ct,Ba9 h1 (hf.le (by omega)),ct,Ba9 h2 (hf.le (by omega))]
  have sg:∀ z:Int,z.sign=if z<0 then -1 else if 0<z then 1 else 0:=by
    intro z
    rcases Int.lt_trichotomy z 0 with h | h | h
    · rw [Int.sign_eq_neg_one_of_neg h,if_pos h]
    · subst h;rfl
    · rw [Int.sign_eq_one_of_pos h,if_neg (by omega),if_pos h]
  by_cases c1:(Ar n1 s1).sign<(Ar n2 s2).sign
  · rw [decide_eq_true c1,ct]
    rw [sg,sg] at c1
    unfold Be2;rw [if_pos]
    split at c1<;>split at c1<;>(try split at c1)<;>(try split at c1)<;>omega
  · rw [decide_eq_false c1,cf]
    by_cases c2:(Ar n1 s1).sign>(Ar n2 s2).sign
    · rw [decide_eq_true c2,ct]
      rw [sg,sg] at c2
      unfold Be2;rw [if_neg,if_pos]
      · split at c2<;>split at c2<;>(try split at c2)<;>(try split at c2)<;>omega
      · split at c2<;>split at c2<;>(try split at c2)<;>(try split at c2)<;>omega
    · rw [decide_eq_false c2,cf]
      have he:(Ar n1 s1).sign=(Ar n2 s2).sign:=by omega
      by_cases c3:(Ar n1 s1).sign<0
      · rw [decide_eq_true c3,ct,Oy,Oy,Ru rfl rfl h2 h1 (hf.le (by omega))]
        have p1:Ar n1 s1<0:=by rw [sg] at c3;split at c3;assumption;split at c3<;>omega
        have p2:Ar n2 s2<0:=by rw [he,sg] at c3;split at c3;assumption;split at c3<;>omega
        have e1:Ar n1 s1=-(val s1.l:Int):=by unfold Ar at p1 ⊢;cases n1<;>simp at p1 ⊢;omega
        have e2:Ar n2 s2=-(val s2.l:Int):=by unfold Ar at p2 ⊢;cases n2<;>simp at p2 ⊢;omega
        rw [e1,e2,B9n]
      · rw [decide_eq_false c3,cf,Oy,Oy,Ru rfl rfl h1 h2 (hf.le (by omega))]
        have p1:0≤Ar n1 s1:=by
          apply Int.not_lt.1;intro h;rw [Int.sign_eq_neg_one_of_neg h] at c3;omega
        have p2:0≤Ar n2 s2:=by
          apply Int.not_lt.1;intro h;rw [he,Int.sign_eq_neg_one_of_neg h] at c3;omega
        have e1:Ar n1 s1=(val s1.l:Int):=by have:=Cv n1 s1;omega
        have e2:Ar n2 s2=(val s2.l:Int):=by have:=Cv n2 s2;omega
        rw [e1,e2,B9m]
end
end Gx

namespace Gx
open Go Go.Proofs
section
variable {R:Type}
theorem Bt2 (z:Int) (d:Nat) (hd:d≠0):(mkRat z d).num.natAbs=z.natAbs/Nat.gcd z.natAbs d∧((mkRat z d).num<0↔z<0)∧(mkRat z d).den=d/Nat.gcd z.natAbs d:=by
  have hg:0<Nat.gcd z.natAbs d:=Nat.gcd_pos_of_pos_right _ (by omega)
  rw [Rat.num_mkRat,Rat.den_mkRat,if_neg hd,if_neg hd,Nat.gcd_comm d]
  have hdv:((Nat.gcd z.natAbs d:Nat):Int)∣z:=Int.dvd_natAbs.1 (Int.natCast_dvd_natCast.2 (Nat.gcd_dvd_left _ _))
  obtain ⟨c,hc⟩:=hdv
  have hgz:z.natAbs.gcd d=Nat.gcd z.natAbs d:=rfl
  generalize Nat.gcd z.natAbs d=g at *
  refine ⟨?_,?_,rfl⟩
  · rw [hc,Int.mul_ediv_cancel_left _ (by omega),Int.natAbs_mul,Int.natAbs_natCast,Nat.mul_div_cancel_left _ hg]
  · rw [hc,Int.mul_ediv_cancel_left _ (by omega)]
    constructor
    · intro h;exact Int.mul_neg_of_pos_of_neg (by omega) h
    · intro h;rcases Int.lt_or_le c 0 with h1 | h1
      · exact h1
      · have:=Int.mul_nonneg (show (0:Int)≤g by omega) h1;omega
structure RatD where
  neg:Bool
  ns:LS
  ds:LS
def RatD.av (x:RatD):List AV:=[.bool x.neg,x.ns.av,x.ds.av]
def RatD.ok (x:RatD):Prop:=Ah x.ns.l∧Ah x.ds.l
def RatD.m (x:RatD):Nat:=max x.ns.l.length x.ds.l.length
def RatD.q (x:RatD):Rat:=mkRat (Ar x.neg x.ns) (val x.ds.l)
def RatD.can (x:RatD) (q:Rat):Prop:=x.neg=decide (q.num<0)∧x.ns.l=dig q.num.natAbs∧x.ds.l=dig q.den
def qm (q:Rat):Nat:=max (dig q.num.natAbs).length (dig q.den).length
theorem RatD.can.ok {x:RatD} {q:Rat} (h:x.can q):x.ok:=⟨by rw [h.2.1];exact Ad _,by rw [h.2.2];exact Ad _⟩
theorem RatD.can.m {x:RatD} {q:Rat} (h:x.can q):x.m=qm q:=by unfold RatD.m qm;rw [h.2.1,h.2.2]
theorem RatD.can.q {x:RatD} {q:Rat} (h:x.can q):x.q=q:=by
  unfold RatD.q Ar
  rw [h.1,h.2.1,h.2.2,Ag,Ag]
  have:(if decide (q.num<0)=true then -(q.num.natAbs:Int) else (q.num.natAbs:Int))=q.num:=by
    by_cases h0:q.num<0
    · rw [if_pos (by simpa using h0)];omega
    · rw [if_neg (by simpa using h0)];omega
  rw [this,Rat.mkRat_self]
theorem Cbv {x:RatD} {f:Bool→Option R}:rdB x.av f=f x.neg:=Cbe
theorem B9o {x:RatD} {f:List AV→Nat→Option R}:rdL 1 (List.drop 1 x.av) f=f (Ae x.ns.l) x.ns.l.length:=by rw [RatD.av,List.drop_succ_cons,List.drop_zero,Bt1]
theorem Bt3 {x:RatD} {f:List AV→Nat→Option R}:rdL 1 (List.drop 2 x.av) f=f (Ae x.ds.l) x.ds.l.length:=by rw [RatD.av,List.drop_succ_cons,List.drop_succ_cons,List.drop_zero,Bt1]
theorem G0 (x:RatD):Nat.ble 3 (List.length x.av)=true:=rfl
theorem Dm (x:RatD):List.take 3 x.av=x.av:=rfl
theorem Cbf (x:RatD):List.take 2 x.av=I9 x.neg x.ns:=rfl
theorem Ccg (x:RatD):Nat.beq (List.length x.av) 3=true:=rfl
theorem A6w (n:Bool) (s:LS):((Nat.beq 0 0)&&((Nat.beq (List.length (I9 n s)) 2)&&(Nat.beq 2 2)))=true:=rfl
theorem Bba (n:Bool) (s:LS):Nat.ble 2 (List.length (I9 n s))=true:=rfl
theorem tk2 (n:Bool) (s:LS):List.take 2 (I9 n s)=I9 n s:=rfl
theorem B9p:([.int .u32 1]:List AV)=Ae [1]:=rfl
theorem B78:Ah [1]:=by intro x hx;simp at hx;omega
theorem Adl:dig 1=[1]:=by rw [Atx (by omega)];simp [Du]
theorem D5 {v:Nat} {S:List Nat} (h1:Ah S) (h2:val S=v):List.take ((dig v).length*1) (Ae S)=Ae (dig v):=by rw [← h2,K6 h1]
theorem ofA (neg:Bool) (l:List Nat) (t o:Bool):([.bool neg,.imm (Ae l) l.length 1 t o]:List AV)=I9 neg (.of l t o):=rfl
theorem H9 {z:Int} {t o:Bool}:Ar (decide (z<0)) (.of (dig z.natAbs) t o)=z:=by
  unfold Ar LS.l;rw [Ag]
  by_cases h:z<0
  · rw [if_pos (by simpa using h)];omega
  · rw [if_neg (by simpa using h)];omega
theorem Bwd {N:Nat} {v:Int} (hv:-9223372036854775808≤v∧v≤9223372036854775807) (hN:4≤N):∃ d:RatD,d.can (v:Rat)∧∀ K:LA→Option R,B0 N v K=K d.av:=by
  obtain ⟨S,s1,s2,s3⟩:=Bwb (R:=R) (N:=N) hv hN
  refine ⟨⟨decide (v<0),.of (dig v.natAbs) false false,.of (dig 1) false false⟩,⟨rfl,rfl,rfl⟩,fun K=>?_⟩
  rw [Ayi];unfold Ayh Ayg
  rw [s3,D5 s1 s2,Adl];rfl
theorem Mx {N:Nat} {x:RatD} {o:Bool} (hx:x.ok) (hf:fit x.m N):∃ (neg:Bool) (s:LS) (l:List Nat) (o1 o2:Bool),Ah s.l∧Ah l∧val l≠0∧s.l.length≤x.m∧l.length≤max x.m 1∧mkRat (Ar neg s) (val l)=x.q∧∀ K:LA→Bool→LA→Nat→Bool→Option R,Kd N x.av o K=K (I9 neg s) o1 (Ae l) l.length o2:=by
  have hm1:x.ns.l.length≤x.m:=Nat.le_max_left _ _
  have hm2:x.ds.l.length≤x.m:=Nat.le_max_right _ _
  by_cases h0:val x.ds.l=0
  · refine ⟨false,.nil,[1],false,false,Xa,B78,by decide,by simp [LS.l],by simp;omega,?_,fun K=>?_⟩
    · unfold RatD.q;rw [h0];simp [Ar,LS.l,val]
    · rw [Arc];unfold A3b A3a
      rw [Bt3,Btu rfl hx.2 (hf.le hm2),h0,Aew];rfl
  · refine ⟨x.neg,x.ns,x.ds.l,o,o,hx.1,hx.2,h0,hm1,by omega,rfl,fun K=>?_⟩
    have:Gv (val x.ds.l) 0=1:=by unfold Gv;rw [if_neg (by omega),if_pos (by omega)]
    rw [Arc];unfold A3b A3a
    rw [Bt3,Btu rfl hx.2 (hf.le hm2),this,show ((1:Int)==0)=false by rfl,cf,show Nat.ble 2 (List.length x.av)=true by rfl,ct,Bt3,Cbf,A6w,ct,Bba,ct,tk2]
theorem Cch (z:Int) (d:Nat) (hd:d≠0):(mkRat z d).num.sign=z.sign:=by
  obtain ⟨h1,h2,_⟩:=Bt2 z d hd
  rcases Int.lt_trichotomy z 0 with h | h | h
  · rw [Int.sign_eq_neg_one_of_neg h,Int.sign_eq_neg_one_of_neg (h2.2 h)]
  · subst h;simp
  · have hn:¬ (mkRat z d).num<0:=fun hh=>by have:=h2.1 hh;omega
    have h0:(mkRat z d).num≠0:=fun hh=>by
      have:mkRat z d=0:=Rat.num_eq_zero.1 hh
      rw [Rat.mkRat_eq_zero hd] at this;omega
    rw [Int.sign_eq_one_of_pos h,Int.sign_eq_one_of_pos (by omega)]
theorem J4 {N:Nat} {x:RatD} {o:Bool} {K:Int→Option R} (hx:x.ok) (hf:fit x.m N):Po N x.av o K=K x.q.num.sign:=by
  obtain ⟨neg,s,l,o1,o2,p1,p2,p3,p4,p5,p6,p7⟩:=Mx (R:=R) (o:=o) hx hf
  rw [Blh];unfold Bq7 Bq6
  rw [G0,ct,Dm,p7,A6w,ct,Bba,ct,tk2,Ba9 p1 (hf.le p4),← p6,Cch _ _ p3]
theorem Hu {N:Nat} {x:RatD} {o:Bool} (hx:x.ok) (hf:fit x.m N):(∃ (n:Int) (d:Nat),-2147483648<n∧n<2147483648∧0<d∧d<2147483648∧mkRat n d=x.q∧∀ K:Int→Int→Bool→Option R,Gf N x.av o K=K n (d:Int) true)∨(∀ K:Int→Int→Bool→Option R,Gf N x.av o K=K 0 0 false):=by
  have hm1:x.ns.l.length≤x.m:=Nat.le_max_left _ _
  have hm2:x.ds.l.length≤x.m:=Nat.le_max_right _ _
  by_cases h1:val x.ns.l<2147483648
  · by_cases h2:val x.ds.l<2147483648
    · left
      have e:∀ K:Int→Int→Bool→Option R,Gf N x.av o K=Fr N K (val x.ns.l:Int) (val x.ds.l:Int) o x.av false:=by
        intro K
        rw [Acr];unfold Aol Aok
        rw [B9o,Mv rfl hx.1 (hf.le hm1),if_pos (by omega),Bt3,Mv rfl hx.2 (hf.le hm2),if_pos (by omega)]
        rw [show ((!true)==false)=true by rfl,ct,show ((cond false true (!true))==false)=true by rfl,ct,show decide (((val x.ns.l:Nat):Int)≥2147483648)=false by rw [decide_eq_false_iff_not];omega,show ((cond false true false)==false)=true by rfl,ct,show decide (((val x.ds.l:Nat):Int)≥2147483648)=false by rw [decide_eq_false_iff_not];omega]
        rfl
      by_cases h0:val x.ds.l=0
      · refine ⟨0,1,by omega,by omega,by omega,by omega,by unfold RatD.q;rw [h0];simp,fun K=>?_⟩
        rw [e];unfold Fr Fj
        rw [cf,i0T h0,ct];rfl
      · have hn:=Cv x.neg x.ns
        refine ⟨Ar x.neg x.ns,val x.ds.l,by omega,by omega,by omega,h2,rfl,fun K=>?_⟩
        rw [e];unfold Fr Fj
        rw [cf,i0F h0,cf,Cbv,i64 (a:=((val x.ns.l:Nat):Int)) (by omega),i64 (a:=((val x.ds.l:Nat):Int)) (by omega)]
        unfold Ar
        cases x.neg
        · rfl
        · rw [ct,i64 (by omega),Int.zero_sub];rfl
    · right
      intro K
      rw [Acr];unfold Aol Aok
      rw [B9o,Mv rfl hx.1 (hf.le hm1),if_pos (by omega),Bt3,Mv rfl hx.2 (hf.le hm2),show ((!true)==false)=true by rfl]
      by_cases h3:val x.ds.l<18446744073709551616
      · rw [if_pos h3,ct,show ((cond false true (!true))==false)=true by rfl,ct,show decide (((val x.ns.l:Nat):Int)≥2147483648)=false by rw [decide_eq_false_iff_not];omega,show ((cond false true false)==false)=true by rfl,ct,show decide (((val x.ds.l:Nat):Int)≥2147483648)=true by rw [decide_eq_true_eq];omega]
        unfold Fr Fj;rfl
      · rw [if_neg h3,ct,show ((cond false true (!false))==false)=false by rfl,cf]
        unfold Fr Fj;rfl
  · right
    intro K
    rw [Acr];unfold Aol Aok
    rw [B9o,Mv rfl hx.1 (hf.le hm1)]
    by_cases h3:val x.ns.l<18446744073709551616
    · rw [if_pos h3,Bt3,Mv rfl hx.2 (hf.le hm2),show ((!true)==false)=true by rfl,show decide (((val x.ns.l:Nat):Int)≥2147483648)=true by rw [decide_eq_true_eq];omega]
      by_cases h4:val x.ds.l<18446744073709551616
      · rw [if_pos h4,ct,show ((cond false true (!true))==false)=true by rfl,ct]
        unfold Fr Fj;rfl
      · rw [if_neg h4,ct,show ((cond false true (!false))==false)=false by rfl,cf]
        unfold Fr Fj;rfl
    · rw [if_neg h3,Bt3,Mv rfl hx.2 (hf.le hm2),show ((!false)==false)=false by rfl]
      split<;>(rw [cf];unfold Fr Fj;rfl)
theorem Byr {N:Nat} {a b c:Nat} {s:Int} (hN:4≤N) (ha:a<18446744073709551616) (hb:b<9223372036854775808) (hg0:0<c) (hga:c∣a):∀ (k fuel x y:Nat),k<fuel→x*y<2 ^ k→y≤x→Nat.gcd x y=c→∃ d:RatD,d.neg=decide (s<0)∧d.ns.l=dig (a/c)∧d.ds.l=dig (b/c)∧∀ K:LA→Option R,Da N K s (b:Int) (a:Int) fuel (x:Int) (y:Int)=K d.av:=by
  have base:∀ (fuel:Nat),∃ d:RatD,d.neg=decide (s<0)∧d.ns.l=dig (a/c)∧d.ds.l=dig (b/c)∧∀ K:LA→Option R,Da N K s (b:Int) (a:Int) (fuel+1) (c:Int) ((0:Nat):Int)=K d.av:=by
    intro fuel
    have q1:a/c<18446744073709551616:=Nat.lt_of_le_of_lt (Nat.div_le_self _ _) ha
    have q2:b/c<18446744073709551616:=Nat.lt_of_le_of_lt (Nat.div_le_self _ _) (by omega)
    obtain ⟨S1,s1,s2,s3⟩:=J3 (R:=R) (N:=N) q1 hN
    obtain ⟨S2,t1,t2,t3⟩:=J3 (R:=R) (N:=N) q2 hN
    refine ⟨⟨decide (s<0),.of (dig (a/c)) false false,.of (dig (b/c)) false false⟩,rfl,rfl,rfl,fun K=>?_⟩
    rw [Da];unfold Kg
    rw [show (((0:Nat):Int) != 0)=false by rfl,cf,i0F (by omega),cf,A6v,w64 q1,s3,cf,w64 (show b<18446744073709551616 by omega),A6v,w64 q2,t3,D5 s1 s2,D5 t1 t2];rfl
  intro k
  induction k with
  | zero =>
    intro fuel x y hf hxy hle hg
    obtain ⟨fuel,rfl⟩:∃ F,fuel=F+1:=⟨fuel - 1,by omega⟩
    have hy:y=0:=by
      rcases Nat.eq_zero_or_pos y with h | h
      · exact h
      · have h3:=Nat.mul_le_mul_left x (show 1≤y by omega)
        rw [Nat.pow_zero] at hxy;omega
    subst hy
    rw [Nat.gcd_zero_right] at hg;subst hg
    exact base fuel
  | succ k ih =>
    intro fuel x y hf hxy hle hg
    obtain ⟨fuel,rfl⟩:∃ F,fuel=F+1:=⟨fuel - 1,by omega⟩
    rcases Nat.eq_zero_or_pos y with h | h
    · subst h;rw [Nat.gcd_zero_right] at hg;subst hg;exact base fuel
    · have hh:=A00 (show 1≤y by omega) hle
      have hm:=Nat.mod_lt x h
      have hg2:Nat.gcd y (x%y)=Nat.gcd x y:=by rw [Nat.gcd_comm,← Nat.gcd_rec,Nat.gcd_comm]
      obtain ⟨d,d1,d2,d3,d4⟩:=ih fuel y (x%y) (by omega) (by rw [Nat.pow_succ] at hxy;omega) (by omega) (by rw [hg2,hg])
      refine ⟨d,d1,d2,d3,fun K=>?_⟩
      rw [Da];unfold Kg
      rw [show ((y:Int) != 0)=true by rw [bne_iff_ne];omega,ct,i0F (by omega),cf,A0x]
      exact d4 K
theorem Am7 {N:Nat} {s:Int} {b:Nat} (hs:-9223372036854775808≤s∧s≤9223372036854775807) (hb0:0<b) (hb:b<9223372036854775808) (hN:1000≤N):∃ d:RatD,d.can (mkRat s b)∧∀ K:LA→Option R,Jd N s (b:Int) K=K d.av:=by
  obtain ⟨m1,m2,m3⟩:=Bt2 s b (by omega)
  have hcan:∀ d:RatD,d.neg=decide (s<0)→d.ns.l=dig (s.natAbs/Nat.gcd s.natAbs b)→d.ds.l=dig (b/Nat.gcd s.natAbs b)→d.can (mkRat s b):=by
    intro d h1 h2 h3
    exact ⟨by rw [h1];congr 1;exact propext m2.symm,by rw [h2,m1],by rw [h3,m3]⟩
  have ha:s.natAbs<18446744073709551616:=by omega
  have start:∀ K:LA→Option R,Jd N s (b:Int) K=Da N K s (b:Int) (s.natAbs:Int) N (b:Int) (s.natAbs:Int):=by
    intro K
    rw [Avo];unfold Aru Art Agd Aat
    dsimp only
    by_cases h:s<0
    · have e:IntKind.wrap .u64 ((0:Int) - IntKind.wrap .u64 s)=(s.natAbs:Int):=by rw [Ba6,Ba6];omega
      rw [decide_eq_true h,ct,e,w64 (by omega)]
    · have e:IntKind.wrap .u64 s=(s.natAbs:Int):=by rw [Ba6];omega
      rw [decide_eq_false h,cf,e,w64 (by omega)]
  have hg0:0<Nat.gcd s.natAbs b:=Nat.gcd_pos_of_pos_right _ hb0
  by_cases hle:s.natAbs≤b
  · obtain ⟨d, d1, d2, d3, d4⟩ := Byr (R := R) (N := N) (a := s.natAbs) (b := b) (c := Nat.gcd s.natAbs b) (s := s) (by omega) ha hb hg0 (Nat.gcd_dvd_left _ _) 128 N b s.natAbs (by omega) (by
      have:=Nat.mul_lt_mul'' (show b<18446744073709551616 by omega) ha;exact this) hle (Nat.gcd_comm _ _)
    exact ⟨d,hcan d d1 d2 d3,fun K=>by rw [start,d4]⟩
  · obtain ⟨F,hF⟩:∃ F,N=F+1:=⟨N - 1,by omega⟩
    obtain ⟨d,d1,d2,d3,d4⟩:=Byr (R:=R) (N:=N) (a:=s.natAbs) (b:=b) (c:=Nat.gcd s.natAbs b) (s:=s) (by omega) ha hb hg0 (Nat.gcd_dvd_left _ _) 128 F s.natAbs (b%s.natAbs) (by omega) (by
      rw [Nat.mod_eq_of_lt (by omega)]
      have:=Nat.mul_lt_mul'' ha (show b<18446744073709551616 by omega);exact this) (by rw [Nat.mod_eq_of_lt (by omega)];omega) (by rw [Nat.mod_eq_of_lt (by omega)])
    refine ⟨d,hcan d d1 d2 d3,fun K=>?_⟩
    rw [start,← d4 K]
    conv=>lhs;rw [show (Da N K s (b:Int) (s.natAbs:Int) N)=Da N K s (b:Int) (s.natAbs:Int) (F+1) by rw [← hF]]
    rw [Da];unfold Kg
    rw [show (((s.natAbs:Nat):Int) != 0)=true by rw [bne_iff_ne];omega,ct,i0F (by omega),cf,A0x]
end
end Gx

namespace Gx
open Go Go.Proofs
section
variable {R:Type}
theorem Cao {S:List Nat} {g:Nat} (h1:Ah S) (h2:val S=g) (hl:(dig g).length=1) {f:Int→Option R}:rdI .u32 (Ae S) f=f (g:Int):=by
  have h3:=(Bs h1).2
  rw [h2,hl] at h3
  have h4:=B3d h1
  rw [h2,hl] at h4
  obtain ⟨a,hd⟩:∃ a,dig g=[a]:=by
    match h:dig g,hl with
    | [a],_=>exact ⟨a,rfl⟩
  have ha:a=g:=by have:=Ag g;rw [hd] at this;simpa [val] using this
  rw [hd,ha] at h4
  match S,h3,h4 with
  | x::r,_,h4 =>
    simp at h4;subst h4
    rw [Aev,Bv]
theorem Ak4 {N:Nat} {neg:Bool} {s:LS} {l:List Nat} {n:Nat} {o t o':Bool} (hn:n=l.length) (hs:Ah s.l) (hl:Ah l) (hl0:val l≠0) (hf:fit (2*(s.l.length+l.length)+8) N) :
    ∃ d:RatD,d.can (mkRat (Ar neg s) (val l))∧∀ K:LA→Option R,Nz N (I9 neg s) o (Ae l) n t o' K=K d.av:=by
  obtain ⟨m1,m2,m3⟩:=Bt2 (Ar neg s) (val l) hl0
  have hna:=Cv neg s
  have ls:=(Bs hs).2
  have ll:=(Bs hl).2
  generalize hz:Ar neg s=z at *
  have start:∀ K:LA→Option R,Nz N (I9 neg s) o (Ae l) n t o' K=cond ((((dig z.natAbs).length:Nat):Int)==(0:Int)) (K [(.bool false),.nsl,(.imm [(.int .u32 1)] 1 1 false false)]) (A9q N (Ae (dig z.natAbs)) (dig z.natAbs).length false true (Ae (dig (val l))) (dig (val l)).length false true (fun f g=>(cond ((((f:Nat):Int) != (1:Int))==false) (cond (Aj (0:Int) f) (rdI .u32 g fun y=>(cond (cond false true (y != (1:Int))) (Eg N (Ae (dig z.natAbs)) (dig z.natAbs).length false true (List.take (f*1) g) f false true (fun p ae af z2 ag=>(Eg N (Ae (dig (val l))) (dig (val l)).length false true (List.take (f*1) g) f false true (fun q ah ai aa aj=>(K [(.bool (decide (z<0))),(.imm (List.take (p*1) z2) p 1 false false),(.imm (List.take (q*1) aa) q 1 false false)]))))) (K [(.bool (decide (z<0))),(.imm (Ae (dig z.natAbs)) (dig z.natAbs).length 1 false false),(.imm (Ae (dig (val l))) (dig (val l)).length 1 false false)]))) none) (Eg N (Ae (dig z.natAbs)) (dig z.natAbs).length false true (List.take (f*1) g) f false true (fun r ak al ab am=>(Eg N (Ae (dig (val l))) (dig (val l)).length false true (List.take (f*1) g) f false true (fun s an ao ac ap=>(K [(.bool (decide (z<0))),(.imm (List.take (r*1) ab) r 1 false false),(.imm (List.take (s*1) ac) s 1 false false)])))))))):=by
    intro K
    rw [A6h];unfold A9s A9r
    have tk:∀ v:Nat,List.take ((dig v).length*1) (Ae (dig v))=Ae (dig v):=fun v=>D5 (Ad _) (Ag v)
    rw [Us,Oy,show Nat.beq (List.length (I9 neg s)) 2=true by rfl,ct,ofA,B5y (s1:=.of s.l false o) hs (hf.le (by simp [LS.l];omega)),show Ar neg (.of s.l false o)=z by rw [← hz];rfl,A4m hn hl (hf.le (by omega)),tk,tk]
  by_cases h0:z=0
  · refine ⟨⟨false,.nil,.of [1] false false⟩,?_,fun K=>?_⟩
    · rw [h0];simp only [Rat.zero_mkRat]
      exact ⟨rfl,rfl,Adl.symm⟩
    · rw [start,h0];rfl
  · have hz0:z.natAbs≠0:=by omega
    have hlen:(dig z.natAbs).length≠0:=fun h=>hz0 (Bz.1 h)
    have hg0:0<Nat.gcd z.natAbs (val l):=Nat.gcd_pos_of_pos_right _ (by omega)
    have lz:(dig z.natAbs).length≤s.l.length:=by rw [hna];exact ls
    obtain ⟨G,g1,g2,g3⟩:=B9j (R:=R) (N:=N) (a:=dig z.natAbs) (b:=dig (val l)) (t:=false) (o:=true) (t':=false) (o':=true) rfl rfl (Ad _) (Ad _) (hf.le (by omega))
    rw [Ag,Ag] at g2 g3
    have lg:(dig (Nat.gcd z.natAbs (val l))).length≤l.length:=Nat.le_trans (Cc (Nat.gcd_le_right _ (by omega))) ll
    obtain ⟨Q1,R1,a1,a2,a3,a4,a5⟩:=A0z (R:=R) (N:=N) (a:=dig z.natAbs) (b:=dig (Nat.gcd z.natAbs (val l))) (t:=false) (o:=true) (t':=false) (o':=true) rfl rfl (Ad _) (Ad _) (by rw [Ag];omega) (hf.le (by omega))
    obtain ⟨Q2,R2,b1,b2,b3,b4,b5⟩:=A0z (R:=R) (N:=N) (a:=dig (val l)) (b:=dig (Nat.gcd z.natAbs (val l))) (t:=false) (o:=true) (t':=false) (o':=true) rfl rfl (Ad _) (Ad _) (by rw [Ag];omega) (hf.le (by omega))
    rw [Ag,Ag] at a2 a5 b2 b5
    have hn2:decide (z<0)=decide ((mkRat z (val l)).num<0):=by congr 1;exact propext m2.symm
    refine ⟨⟨decide (z<0),.of (dig (z.natAbs/Nat.gcd z.natAbs (val l))) false false,.of (dig (val l/Nat.gcd z.natAbs (val l))) false false⟩,⟨hn2,by rw [m1];rfl,by rw [m3];rfl⟩,fun K=>?_⟩
    rw [start,i0F hlen,cf,g3,D5 g1 g2]
    by_cases hl1:(dig (Nat.gcd z.natAbs (val l))).length=1
    · rw [show ((((((dig (Nat.gcd z.natAbs (val l))).length:Nat):Int) != (1:Int))==false))=true by rw [hl1];rfl,ct,show Aj 0 (dig (Nat.gcd z.natAbs (val l))).length=true by rw [hl1];rfl,ct,Cao g1 g2 hl1]
      by_cases he:Nat.gcd z.natAbs (val l)=1
      · rw [he,show (cond false true (((1:Nat):Int) != 1))=false by rfl,cf,Nat.div_one,Nat.div_one];rfl
      · rw [show (cond false true (((Nat.gcd z.natAbs (val l):Nat):Int) != 1))=true by (show (((Nat.gcd z.natAbs (val l):Nat):Int) != 1)=true;rw [bne_iff_ne];omega),ct,a5,b5,D5 a1 a2,D5 b1 b2];rfl
    · rw [show ((((((dig (Nat.gcd z.natAbs (val l))).length:Nat):Int) != (1:Int))==false))=false by (rw [show ((((dig (Nat.gcd z.natAbs (val l))).length:Nat):Int) != (1:Int))=true by rw [bne_iff_ne];omega];rfl),cf,a5,b5,D5 a1 a2,D5 b1 b2];rfl
theorem At8 {N:Nat} {x:RatD} {o:Bool} (hx:x.ok) (hf:fit (4*x.m+10) N):∃ d:RatD,d.can x.q∧∀ K:LA→Option R,Ajs N x.av o K=K d.av:=by
  have h1:=hf.1
  rcases Hu (R:=R) (N:=N) (o:=o) hx (hf.le (by omega)) with ⟨n,d,n1,n2,d1,d2,e,hK⟩ | hK
  · obtain ⟨c,c1,c2⟩:=Am7 (R:=R) (N:=N) (s:=n) (b:=d) (by omega) d1 (by omega) (by omega)
    rw [e] at c1
    refine ⟨c,c1,fun K=>?_⟩
    rw [Azd];unfold Bdg Bdf
    rw [G0,ct,Dm,hK,ct,c2];rfl
  · obtain ⟨neg,s,l,o1,o2,p1,p2,p3,p4,p5,p6,p7⟩:=Mx (R:=R) (N:=N) (o:=o) hx (hf.le (by omega))
    obtain ⟨c,c1,c2⟩:=Ak4 (R:=R) (N:=N) (neg:=neg) (s:=s) (l:=l) (n:=l.length) (o:=o1) (t:=false) (o':=o2) rfl p1 p2 p3 (hf.le (by omega))
    rw [p6] at c1
    refine ⟨c,c1,fun K=>?_⟩
    rw [Azd];unfold Bdg Bdf
    rw [G0,ct,Dm,hK,cf,ct,p7,c2];rfl
def Ahp (x y:Rat):Int:=if x<y then -1 else if y<x then 1 else 0
theorem B6y {d:Nat} (h:0<d):(0:Rat)<(d:Rat):=Rat.natCast_pos.2 h
theorem B6z {a c:Int} {b d:Nat} (hb:0<b) (hd:0<d):mkRat a b<mkRat c d↔a*d<c*b:=by
  rw [Rat.mkRat_eq_div,Rat.mkRat_eq_div,Rat.div_lt_iff (B6y hb)]
  have e:(c:Rat)/(d:Rat)*(b:Rat)=(c*b:Rat)/(d:Rat):=by rw [Rat.div_def,Rat.div_def,Rat.mul_assoc,Rat.mul_assoc,Rat.mul_comm (d:Rat)⁻¹]
  rw [e,Rat.lt_div_iff (B6y hd)]
  have e1:(a:Rat)*(d:Rat)=((a*d:Int):Rat):=by rw [Rat.intCast_mul];rfl
  have e2:(c:Rat)*(b:Rat)=((c*b:Int):Rat):=by rw [Rat.intCast_mul];rfl
  rw [e1,e2,Rat.intCast_lt_intCast]
theorem B60 {a c:Int} {b d:Nat} (hb:0<b) (hd:0<d):Ahp (mkRat a b) (mkRat c d)=Be2 (a*d) (c*b):=by
  unfold Ahp Be2
  by_cases h:a*d<c*b
  · rw [if_pos h,if_pos ((B6z hb hd).2 h)]
  · rw [if_neg h,if_neg (fun hh=>h ((B6z hb hd).1 hh))]
    by_cases h2:c*b<a*d
    · rw [if_pos h2,if_pos ((B6z hd hb).2 h2)]
    · rw [if_neg h2,if_neg (fun hh=>h2 ((B6z hd hb).1 hh))]
theorem B3q {N:Nat} {a b:Int} {K:Int→Option R}:Ke N a b K=K (Be2 a b):=by
  rw [Abp];unfold Wa V9
  rw [Ajj];unfold Af2 Af1
  rw [show (a != a)=false by simp,show (b != b)=false by simp]
  dsimp only
  rw [cf,cf]
  unfold Be2
  by_cases h:a<b
  · rw [decide_eq_true h,ct,if_pos h]
  · rw [decide_eq_false h,cf,if_neg h]
    by_cases h2:b<a
    · rw [decide_eq_true (show a>b from h2),ct,if_pos h2]
    · rw [decide_eq_false (show ¬ a>b from h2),cf,if_neg h2]
theorem Bwe {N:Nat} {a b:Int} {K:Int→Option R}:He N a b K=K (Be2 a b):=by
  rw [Vn];unfold Qx Qw
  rw [Abq];unfold Wd Wc
  rw [show (a != a)=false by simp,show (b != b)=false by simp]
  dsimp only
  rw [cf,cf]
  unfold Be2
  by_cases h:a<b
  · rw [decide_eq_true h,ct,if_pos h]
  · rw [decide_eq_false h,cf,if_neg h]
    by_cases h2:b<a
    · rw [decide_eq_true (show a>b from h2),ct,if_pos h2]
    · rw [decide_eq_false (show ¬ a>b from h2),cf,if_neg h2]
theorem B9q {p q:Rat} (h:p.num.sign<q.num.sign):p<q:=by
  rw [Rat.lt_iff]
  have hp:=p.den_pos;have hq:=q.den_pos
  rcases Int.lt_trichotomy p.num 0 with h1 | h1 | h1
  · rcases Int.lt_or_le q.num 0 with h2 | h2
    · rw [Int.sign_eq_neg_one_of_neg h1,Int.sign_eq_neg_one_of_neg h2] at h;omega
    · have x1:p.num*q.den<0:=Int.mul_neg_of_neg_of_pos h1 (by omega)
      have x2:0≤q.num*p.den:=Int.mul_nonneg h2 (by omega)
      omega
  · rw [h1] at h ⊢
    have:0<q.num:=by simpa using h
    have x2:0<q.num*p.den:=Int.mul_pos this (by omega)
    rw [Int.zero_mul];exact x2
  · rw [Int.sign_eq_one_of_pos h1] at h
    have:=Int.sign_trichotomy q.num
    omega
theorem At9 {a b:Int} (h1:-2147483648<a∧a<2147483648) (h2:-2147483648<b∧b<2147483648):-4611686018427387904<a*b∧a*b<4611686018427387904:=by
  have h3:a.natAbs*b.natAbs≤2147483647*2147483647:=Nat.mul_le_mul (by omega) (by omega)
  rw [← Int.natAbs_mul] at h3
  omega
theorem Am8 {N:Nat} {x y:RatD} {o o':Bool} {K:Int→Option R} (hx:x.ok) (hy:y.ok) (hf:fit (4*(x.m+y.m)+10) N):E6 N x.av o y.av o' K=K (Ahp x.q y.q):=by
  have h1:=hf.1
  rw [Ayw];unfold Ayv Ayu
  rw [G0,ct,Dm,J4 hx (hf.le (by omega)),G0,ct,Dm,J4 hy (hf.le (by omega))]
  by_cases hs:x.q.num.sign=y.q.num.sign
  · rw [show (x.q.num.sign != y.q.num.sign)=false by simp [hs],cf,ct]
    have gen:Yb N K o x.av o' y.av=K (Ahp x.q y.q):=by
      obtain ⟨n1,s1,l1,a1,b1,p1,p2,p3,p4,p5,p6,p7⟩:=Mx (R:=R) (N:=N) (o:=o) hx (hf.le (by omega))
      obtain ⟨n2,s2,l2,a2,b2,q1,q2,q3,q4,q5,q6,q7⟩:=Mx (R:=R) (N:=N) (o:=o') hy (hf.le (by omega))
      obtain ⟨S1,t1,t2,t3⟩:=Ape (R:=R) (N:=N) (n1:=n1) (n2:=false) (s1:=s1) (s2:=.of l2 false b2) (o1:=a1) (o2:=(b2||false)) p1 q2 (hf.le (show s1.l.length+l2.length≤_ by omega))
      obtain ⟨S2,u1,u2,u3⟩:=Ape (R:=R) (N:=N) (n1:=n2) (n2:=false) (s1:=s2) (s2:=.of l1 false b1) (o1:=a2) (o2:=(b1||false)) q1 p2 (hf.le (show s2.l.length+l1.length≤_ by omega))
      have v1:Ar false (.of l2 false b2)=(val l2:Int):=rfl
      have v2:Ar false (.of l1 false b1)=(val l1:Int):=rfl
      rw [v1] at t2 t3;rw [v2] at u2 u3
      have l1':(dig (Ar n1 s1*(val l2:Int)).natAbs).length≤x.m+max y.m 1:=Nat.le_trans (Dc (by
        rw [Int.natAbs_mul,Cv,Int.natAbs_natCast,Nat.pow_add]
        exact Nat.mul_lt_mul'' (Nat.lt_of_lt_of_le (Bn p1) (Nat.pow_le_pow_right (by omega) p4)) (Nat.lt_of_lt_of_le (Bn q2) (Nat.pow_le_pow_right (by omega) q5)))) (Nat.le_refl _)
      have l2':(dig (Ar n2 s2*(val l1:Int)).natAbs).length≤y.m+max x.m 1:=Nat.le_trans (Dc (by
        rw [Int.natAbs_mul,Cv,Int.natAbs_natCast,Nat.pow_add]
        exact Nat.mul_lt_mul'' (Nat.lt_of_lt_of_le (Bn q1) (Nat.pow_le_pow_right (by omega) q4)) (Nat.lt_of_lt_of_le (Bn p2) (Nat.pow_le_pow_right (by omega) p5)))) (Nat.le_refl _)
      unfold Yb Agc
      rw [G0,ct,Dm,p7,A6w,ct,G0,ct,Dm,q7,A6w,ct,Bba,ct,tk2,ofA,t3,Bba,ct,tk2,ofA,u3,D5 t1 t2,D5 u1 u2,ofA,ofA,Bwc (s1:=.of (dig (Ar n1 s1*(val l2:Int)).natAbs) false true) (s2:=.of (dig (Ar n2 s2*(val l1:Int)).natAbs) false true) (Ad _) (Ad _) (hf.le (show (dig (Ar n1 s1*(val l2:Int)).natAbs).length+(dig (Ar n2 s2*(val l1:Int)).natAbs).length≤_ by omega)),H9,H9,← p6,← q6,B60 (by omega) (by omega)]
    rcases Hu (R:=R) (N:=N) (o:=o) hx (hf.le (by omega)) with ⟨n,d,n1,n2,d1,d2,e,hK⟩ | hK
    · rcases Hu (R:=R) (N:=N) (o:=o') hy (hf.le (by omega)) with ⟨n',d',n1',n2',d1',d2',e',hK'⟩ | hK'
      · have b1:=At9 (a:=n) (b:=(d':Int)) ⟨n1,n2⟩ (by omega)
        have b2:=At9 (a:=n') (b:=(d:Int)) ⟨n1',n2'⟩ (by omega)
        rw [hK,ct,hK',show ((true:Bool)==true)=true by rfl,ct,ctB,ct,Bwe,i64 (by omega),i64 (by omega),← e,← e',B60 d1 d1']
      · rw [hK,ct,hK',show ((true:Bool)==true)=true by rfl,ct,ctB,cf,gen]
    · rcases Hu (R:=R) (N:=N) (o:=o') hy (hf.le (by omega)) with ⟨n',d',n1',n2',d1',d2',e',hK'⟩ | hK'
      · rw [hK,ct,hK',show ((false:Bool)==true)=false by rfl,cf,gen]
      · rw [hK,ct,hK',show ((false:Bool)==true)=false by rfl,cf,gen]
  · rw [show (x.q.num.sign != y.q.num.sign)=true by simp [hs],ct,B3q]
    congr 1
    unfold Be2 Ahp
    by_cases h:x.q.num.sign<y.q.num.sign
    · rw [if_pos h,if_pos (B9q h)]
    · have h2:y.q.num.sign<x.q.num.sign:=by omega
      have:=B9q h2
      rw [if_neg h,if_pos h2,if_neg (fun hh=>absurd (Rat.le_of_lt this) (Rat.not_le.2 hh)),if_pos this]
end
end Gx

namespace Gx
open Go Go.Proofs
section
variable {R:Type}
theorem B3r {q:Rat} (h:q.num.sign=0):q=0:=Rat.num_eq_zero.1 (Int.sign_eq_zero_iff_zero.1 h)
theorem I3 {a b:Int} {k l:Nat} (ha:a.natAbs<4294967296 ^ k) (hb:b.natAbs<4294967296 ^ l):(a*b).natAbs<4294967296 ^ (k+l):=by
  rw [Int.natAbs_mul,Nat.pow_add];exact Nat.mul_lt_mul'' ha hb
theorem Be3 {a b:Int} {k:Nat} (ha:a.natAbs<4294967296 ^ k) (hb:b.natAbs<4294967296 ^ k):(a+b).natAbs<4294967296 ^ (k+1):=by
  rw [Nat.pow_succ];omega
theorem Gp {k l:Nat} (h:k≤l):4294967296 ^ k≤4294967296 ^ l:=Nat.pow_le_pow_right (by omega) h
theorem B9r {v k:Nat} (h:(dig v).length≤k):v<4294967296 ^ k:=by
  have:=Bn (Ad v);rw [Ag] at this
  exact Nat.lt_of_lt_of_le this (Gp h)
theorem B3s (p r:Int) (d:Nat) (hd:d≠0):mkRat (p+r) d=mkRat p d+mkRat r d:=by
  rw [Rat.mkRat_add_mkRat _ _ hd hd,← Int.add_mul]
  exact (Rat.mkRat_mul_right hd).symm
theorem Cap {N:Nat} {x y:RatD} {o o':Bool} (hx:x.ok) (hy:y.ok) (hf:fit (8*(x.m+y.m)+40) N):∃ d:RatD,d.can (x.q+y.q)∧∀ K:LA→Option R,Aoz N K o x.av o' y.av=K d.av:=by
  obtain ⟨n1,s1,l1,a1,b1,p1,p2,p3,p4,p5,p6,p7⟩:=Mx (R:=R) (N:=N) (o:=o) hx (hf.le (by omega))
  obtain ⟨n2,s2,l2,a2,b2,q1,q2,q3,q4,q5,q6,q7⟩:=Mx (R:=R) (N:=N) (o:=o') hy (hf.le (by omega))
  have zl1:(Ar n1 s1).natAbs<4294967296 ^ x.m:=by rw [Cv];exact Nat.lt_of_lt_of_le (Bn p1) (Gp p4)
  have zl2:(Ar n2 s2).natAbs<4294967296 ^ y.m:=by rw [Cv];exact Nat.lt_of_lt_of_le (Bn q1) (Gp q4)
  have dl1:((val l1:Nat):Int).natAbs<4294967296 ^ (x.m+1):=by rw [Int.natAbs_natCast];exact Nat.lt_of_lt_of_le (Bn p2) (Gp (by omega))
  have dl2:((val l2:Nat):Int).natAbs<4294967296 ^ (y.m+1):=by rw [Int.natAbs_natCast];exact Nat.lt_of_lt_of_le (Bn q2) (Gp (by omega))
  by_cases he:val l1=val l2
  · obtain ⟨S,t1,t2,t3⟩:=Byq (R:=R) (N:=N) (n1:=n1) (n2:=n2) (s1:=s1) (s2:=s2) (o1:=a1) (o2:=a2) p1 q1 (hf.le (by omega))
    have lz:(dig (Ar n1 s1+Ar n2 s2).natAbs).length≤x.m+y.m+1:=Dc (Be3 (k:=x.m+y.m) (Nat.lt_of_lt_of_le zl1 (Gp (by omega))) (Nat.lt_of_lt_of_le zl2 (Gp (by omega))))
    obtain ⟨c,c1,c2⟩:=Ak4 (R:=R) (N:=N) (neg:=decide (Ar n1 s1+Ar n2 s2<0)) (s:=.of (dig (Ar n1 s1+Ar n2 s2).natAbs) false true) (l:=l1) (n:=l1.length) (o:=true) (t:=false) (o':=b1) rfl (Ad _) p2 p3 (hf.le (show 2*((dig (Ar n1 s1+Ar n2 s2).natAbs).length+l1.length)+8≤_ by omega))
    rw [H9,B3s _ _ _ p3,p6] at c1
    rw [show mkRat (Ar n2 s2) (val l1)=y.q by rw [he,q6]] at c1
    refine ⟨c,c1,fun K=>?_⟩
    unfold Aoz Asb
    rw [G0,ct,Dm,p7,A6w,ct,G0,ct,Dm,q7,A6w,ct,Ru rfl rfl p2 q2 (hf.le (by omega)),he,Aew,show ((0:Int)==0)=true by rfl,ct,Bba,ct,Bba,ct,tk2,tk2,t3,D5 t1 t2,ofA,c2];rfl
  · obtain ⟨S1,t1,t2,t3⟩:=Ape (R:=R) (N:=N) (n1:=n1) (n2:=false) (s1:=s1) (s2:=.of l2 false b2) (o1:=a1) (o2:=(b2||false)) p1 q2 (hf.le (show s1.l.length+l2.length≤_ by omega))
    obtain ⟨S2,u1,u2,u3⟩:=Ape (R:=R) (N:=N) (n1:=n2) (n2:=false) (s1:=s2) (s2:=.of l1 false b1) (o1:=a2) (o2:=(b1||false)) q1 p2 (hf.le (show s2.l.length+l1.length≤_ by omega))
    rw [show Ar false (.of l2 false b2)=(val l2:Int) by rfl] at t2 t3
    rw [show Ar false (.of l1 false b1)=(val l1:Int) by rfl] at u2 u3
    have z1:=I3 zl1 dl2
    have z2:=I3 zl2 dl1
    have L1:=Dc z1
    have L2:=Dc z2
    obtain ⟨S3,w1,w2,w3⟩:=Byq (R:=R) (N:=N) (n1:=decide (Ar n1 s1*(val l2:Int)<0)) (n2:=decide (Ar n2 s2*(val l1:Int)<0)) (s1:=.of (dig (Ar n1 s1*(val l2:Int)).natAbs) false true) (s2:=.of (dig (Ar n2 s2*(val l1:Int)).natAbs) false true) (o1:=true) (o2:=true) (Ad _) (Ad _) (hf.le (show (dig (Ar n1 s1*(val l2:Int)).natAbs).length+(dig (Ar n2 s2*(val l1:Int)).natAbs).length+1≤_ by omega))
    rw [H9,H9] at w2 w3
    obtain ⟨S4,v1,v2,v3⟩:=A0w (R:=R) (N:=N) (a:=l1) (b:=l2) (t:=false) (o:=b1) (t':=false) (o':=b2) rfl rfl p2 q2 (hf.le (by omega))
    have z3:=Be3 (k:=x.m+y.m+1) (Nat.lt_of_lt_of_le z1 (Gp (by omega))) (Nat.lt_of_lt_of_le z2 (Gp (by omega)))
    have L3:=Dc z3
    have z4:val l1*val l2<4294967296 ^ (x.m+1+(y.m+1)):=by
      have:=I3 dl1 dl2;rw [Int.natAbs_mul,Int.natAbs_natCast,Int.natAbs_natCast] at this;exact this
    have L4:=Dc z4
    obtain ⟨c,c1,c2⟩:=Ak4 (R:=R) (N:=N) (neg:=decide (Ar n1 s1*(val l2:Int)+Ar n2 s2*(val l1:Int)<0)) (s:=.of (dig (Ar n1 s1*(val l2:Int)+Ar n2 s2*(val l1:Int)).natAbs) false true) (l:=dig (val l1*val l2)) (n:=(dig (val l1*val l2)).length) (o:=true) (t:=false) (o':=true) rfl (Ad _) (Ad _) (by rw [Ag];exact Nat.mul_ne_zero p3 q3) (hf.le (show 2*((dig (Ar n1 s1*(val l2:Int)+Ar n2 s2*(val l1:Int)).natAbs).length+(dig (val l1*val l2)).length)+8≤_ by omega))
    rw [H9,Ag,← Rat.mkRat_add_mkRat _ _ p3 q3,p6,q6] at c1
    refine ⟨c,c1,fun K=>?_⟩
    unfold Aoz Asb
    have hc:(Gv (val l1) (val l2)==0)=false:=by
      rw [beq_eq_false_iff_ne];unfold Gv;split
      · omega
      · rw [if_pos (by omega)];omega
    rw [G0,ct,Dm,p7,A6w,ct,G0,ct,Dm,q7,A6w,ct,Ru rfl rfl p2 q2 (hf.le (by omega)),hc,cf,Bba,ct,tk2,ofA,t3,Bba,ct,tk2,ofA,u3,D5 t1 t2,D5 u1 u2,ofA,ofA,w3,v3,D5 w1 w2,D5 v1 v2,ofA,c2];rfl
theorem Bi9 {N:Nat} {x y:RatD} {o o':Bool} (hx:x.ok) (hy:y.ok) (hf:fit (8*(x.m+y.m)+40) N):∃ d:RatD,d.can (x.q+y.q)∧∀ K:LA→Option R,Mi N x.av o y.av o' K=K d.av:=by
  have h1:=hf.1
  by_cases hz:x.q.num.sign=0
  · obtain ⟨c,c1,c2⟩:=At8 (R:=R) (N:=N) (o:=o') hy (hf.le (by omega))
    refine ⟨c,by rw [B3r hz,Rat.zero_add];exact c1,fun K=>?_⟩
    rw [Asd];unfold Bdl Bdk
    rw [G0,ct,Dm,J4 hx (hf.le (by omega)),hz,show ((0:Int)==0)=true by rfl,ct,G0,ct,Dm,c2];rfl
  · have hzb:(x.q.num.sign==0)=false:=by rw [beq_eq_false_iff_ne];exact hz
    by_cases hw:y.q.num.sign=0
    · obtain ⟨c,c1,c2⟩:=At8 (R:=R) (N:=N) (o:=o) hx (hf.le (by omega))
      refine ⟨c,by rw [B3r hw,Rat.add_zero];exact c1,fun K=>?_⟩
      rw [Asd];unfold Bdl Bdk
      rw [G0,ct,Dm,J4 hx (hf.le (by omega)),hzb,cf,G0,ct,Dm,J4 hy (hf.le (by omega)),hw,show ((0:Int)==0)=true by rfl,ct,ct,c2];rfl
    · have hwb:(y.q.num.sign==0)=false:=by rw [beq_eq_false_iff_ne];exact hw
      have start:∀ K:LA→Option R,Mi N x.av o y.av o' K=Gf N x.av o (fun g e aw=>Gf N y.av o' (fun i f ax=>(cond (aw==true) (Wv N K g e i f o x.av o' y.av (cond true ax false)) (Wv N K g e i f o x.av o' y.av false)))):=by
        intro K
        rw [Asd];unfold Bdl Bdk
        rw [G0,ct,Dm,J4 hx (hf.le (by omega)),hzb,cf,G0,ct,Dm,J4 hy (hf.le (by omega)),hwb,cf,ct];rfl
      have gen:∃ d:RatD,d.can (x.q+y.q)∧∀ (K:LA→Option R) (g e i f:Int),Wv N K g e i f o x.av o' y.av false=K d.av:=by
        obtain ⟨c,c1,c2⟩:=Cap (R:=R) (N:=N) (o:=o) (o':=o') hx hy hf
        exact ⟨c,c1,fun K g e i f=>by unfold Wv Asc;rw [cf,c2]⟩
      rcases Hu (R:=R) (N:=N) (o:=o) hx (hf.le (by omega)) with ⟨n,d,n1,n2,d1,d2,e,hK⟩ | hK
      · rcases Hu (R:=R) (N:=N) (o:=o') hy (hf.le (by omega)) with ⟨n',d',n1',n2',d1',d2',e',hK'⟩ | hK'
        · have b1:=At9 (a:=n) (b:=(d':Int)) ⟨n1,n2⟩ (by omega)
          have b2:=At9 (a:=n') (b:=(d:Int)) ⟨n1',n2'⟩ (by omega)
          have b3:=At9 (a:=(d:Int)) (b:=(d':Int)) (by omega) (by omega)
          have b4:((d*d':Nat):Int)=(d:Int)*(d':Int):=by simp
          obtain ⟨c,c1,c2⟩:=Am7 (R:=R) (N:=N) (s:=n*d'+n'*d) (b:=d*d') (by omega) (Nat.mul_pos d1 d1') (by omega) (by omega)
          rw [← Rat.mkRat_add_mkRat _ _ (by omega) (by omega),e,e'] at c1
          refine ⟨c,c1,fun K=>?_⟩
          rw [start,hK,hK',show ((true:Bool)==true)=true by rfl,ct,ctB]
          unfold Wv Asc
          rw [ct,i64 (a:=n*(d':Int)) (by omega),i64 (a:=n'*(d:Int)) (by omega),i64 (by omega),i64 (by omega),← b4,c2];rfl
        · obtain ⟨c,c1,c2⟩:=gen
          refine ⟨c,c1,fun K=>?_⟩
          rw [start,hK,hK',show ((true:Bool)==true)=true by rfl,ct,ctB,c2]
      · obtain ⟨c,c1,c2⟩:=gen
        refine ⟨c,c1,fun K=>?_⟩
        rw [start,hK]
        rcases Hu (R:=R) (N:=N) (o:=o') hy (hf.le (by omega)) with ⟨n',d',n1',n2',d1',d2',e',hK'⟩ | hK'
        · rw [hK',show ((false:Bool)==true)=false by rfl,cf,c2]
        · rw [hK',show ((false:Bool)==true)=false by rfl,cf,c2]
theorem B3t (n:Bool) (s:LS):Ar (!n) s=-Ar n s:=by unfold Ar;cases n<;>simp
theorem Bys {N:Nat} {x y:RatD} {o o':Bool} (hx:x.ok) (hy:y.ok) (hf:fit (8*(x.m+y.m)+40) N):∃ d:RatD,d.can (x.q - y.q)∧∀ K:LA→Option R,Agx N x.av o y.av o' K=K d.av:=by
  obtain ⟨c,c1,c2⟩:=Bi9 (R:=R) (N:=N) (x:=⟨x.neg,.of x.ns.l false o,.of x.ds.l false o⟩) (y:=⟨!y.neg,.of y.ns.l false o',.of y.ds.l false o'⟩) (o:=(o||(o||false))) (o':=(o'||(o'||false))) hx hy hf
  have e1:RatD.q ⟨x.neg,.of x.ns.l false o,.of x.ds.l false o⟩=x.q:=rfl
  have e2:RatD.q ⟨!y.neg,.of y.ns.l false o',.of y.ds.l false o'⟩=-y.q:=by
    show mkRat (Ar (!y.neg) (.of y.ns.l false o')) (val y.ds.l)=_
    rw [B3t,← Rat.neg_mkRat];rfl
  rw [e1,e2,← Rat.sub_eq_add_neg] at c1
  refine ⟨c,c1,fun K=>?_⟩
  rw [Brv];unfold B0q B0p
  rw [Cbv,B9o,Bt3,Ccg,ct,Cbv,B9o,Bt3,Ccg,ct]
  exact (c2 _).trans rfl
theorem Caq {N:Nat} {x y:RatD} {o o':Bool} (hx:x.ok) (hy:y.ok) (hf:fit (8*(x.m+y.m)+40) N):∃ d:RatD,d.can (x.q*y.q)∧∀ K:LA→Option R,A3y N K o x.av o' y.av=K d.av:=by
  obtain ⟨n1,s1,l1,a1,b1,p1,p2,p3,p4,p5,p6,p7⟩:=Mx (R:=R) (N:=N) (o:=o) hx (hf.le (by omega))
  obtain ⟨n2,s2,l2,a2,b2,q1,q2,q3,q4,q5,q6,q7⟩:=Mx (R:=R) (N:=N) (o:=o') hy (hf.le (by omega))
  have zl1:(Ar n1 s1).natAbs<4294967296 ^ x.m:=by rw [Cv];exact Nat.lt_of_lt_of_le (Bn p1) (Gp p4)
  have zl2:(Ar n2 s2).natAbs<4294967296 ^ y.m:=by rw [Cv];exact Nat.lt_of_lt_of_le (Bn q1) (Gp q4)
  have dl1:((val l1:Nat):Int).natAbs<4294967296 ^ (x.m+1):=by rw [Int.natAbs_natCast];exact Nat.lt_of_lt_of_le (Bn p2) (Gp (by omega))
  have dl2:((val l2:Nat):Int).natAbs<4294967296 ^ (y.m+1):=by rw [Int.natAbs_natCast];exact Nat.lt_of_lt_of_le (Bn q2) (Gp (by omega))
  obtain ⟨S1,t1,t2,t3⟩:=Ape (R:=R) (N:=N) (n1:=n1) (n2:=n2) (s1:=s1) (s2:=s2) (o1:=a1) (o2:=a2) p1 q1 (hf.le (by omega))
  have L1:=Dc (I3 zl1 zl2)
  obtain ⟨S4,v1,v2,v3⟩:=A0w (R:=R) (N:=N) (a:=l1) (b:=l2) (t:=false) (o:=b1) (t':=false) (o':=b2) rfl rfl p2 q2 (hf.le (by omega))
  have z4:val l1*val l2<4294967296 ^ (x.m+1+(y.m+1)):=by
    have:=I3 dl1 dl2;rw [Int.natAbs_mul,Int.natAbs_natCast,Int.natAbs_natCast] at this;exact this
  have L4:=Dc z4
  obtain ⟨c,c1,c2⟩:=Ak4 (R:=R) (N:=N) (neg:=decide (Ar n1 s1*Ar n2 s2<0)) (s:=.of (dig (Ar n1 s1*Ar n2 s2).natAbs) false true) (l:=dig (val l1*val l2)) (n:=(dig (val l1*val l2)).length) (o:=true) (t:=false) (o':=true) rfl (Ad _) (Ad _) (by rw [Ag];exact Nat.mul_ne_zero p3 q3) (hf.le (show 2*((dig (Ar n1 s1*Ar n2 s2).natAbs).length+(dig (val l1*val l2)).length)+8≤_ by omega))
  rw [H9,Ag,← Rat.mkRat_mul_mkRat,p6,q6] at c1
  refine ⟨c,c1,fun K=>?_⟩
  unfold A3y A9z
  rw [G0,ct,Dm,p7,A6w,ct,G0,ct,Dm,q7,A6w,ct,Bba,ct,Bba,ct,tk2,tk2,t3,v3,D5 t1 t2,D5 v1 v2,ofA,c2];rfl
theorem Byt {N:Nat} {x y:RatD} {o o':Bool} (hx:x.ok) (hy:y.ok) (hf:fit (8*(x.m+y.m)+40) N):∃ d:RatD,d.can (x.q*y.q)∧∀ K:LA→Option R,Ash N x.av o y.av o' K=K d.av:=by
  have h1:=hf.1
  obtain ⟨g,g1,g2⟩:=Caq (R:=R) (N:=N) (o:=o) (o':=o') hx hy hf
  rcases Hu (R:=R) (N:=N) (o:=o) hx (hf.le (by omega)) with ⟨n,d,n1,n2,d1,d2,e,hK⟩ | hK
  · rcases Hu (R:=R) (N:=N) (o:=o') hy (hf.le (by omega)) with ⟨n',d',n1',n2',d1',d2',e',hK'⟩ | hK'
    · have b1:=At9 (a:=n) (b:=n') ⟨n1,n2⟩ ⟨n1',n2'⟩
      have b3:=At9 (a:=(d:Int)) (b:=(d':Int)) (by omega) (by omega)
      have b4:((d*d':Nat):Int)=(d:Int)*(d':Int):=by simp
      obtain ⟨c,c1,c2⟩:=Am7 (R:=R) (N:=N) (s:=n*n') (b:=d*d') (by omega) (Nat.mul_pos d1 d1') (by omega) (by omega)
      rw [← Rat.mkRat_mul_mkRat,e,e'] at c1
      refine ⟨c,c1,fun K=>?_⟩
      rw [Asi];unfold Bdo Bdn
      rw [G0,ct,Dm,hK,G0,ct,Dm,hK',show ((true:Bool)==true)=true by rfl,ct,ctB,ct,i64 (by omega),i64 (by omega),← b4,c2];rfl
    · refine ⟨g,g1,fun K=>?_⟩
      rw [Asi];unfold Bdo Bdn
      rw [G0,ct,Dm,hK,G0,ct,Dm,hK',show ((true:Bool)==true)=true by rfl,ct,ctB,cf,g2]
  · refine ⟨g,g1,fun K=>?_⟩
    rw [Asi];unfold Bdo Bdn
    rcases Hu (R:=R) (N:=N) (o:=o') hy (hf.le (by omega)) with ⟨n',d',n1',n2',d1',d2',e',hK'⟩ | hK'
    · rw [G0,ct,Dm,hK,G0,ct,Dm,hK',show ((false:Bool)==true)=false by rfl,cf,g2]
    · rw [G0,ct,Dm,hK,G0,ct,Dm,hK',show ((false:Bool)==true)=false by rfl,cf,g2]
theorem Be4 {a b:Rat}:Ahp a b≤0↔a≤b:=by
  unfold Ahp
  by_cases h:a<b
  · rw [if_pos h];exact ⟨fun _=>Rat.le_of_lt h,fun _=>by omega⟩
  · rw [if_neg h]
    by_cases h2:b<a
    · rw [if_pos h2];exact ⟨fun hh=>by omega,fun hh=>absurd hh (Rat.not_le.2 h2)⟩
    · rw [if_neg h2];exact ⟨fun _=>Rat.not_lt.1 h2,fun _=>by omega⟩
theorem B79 {N:Nat} {x y:RatD} {o o':Bool} (hx:x.ok) (hy:y.ok) (hf:fit (8*(x.m+y.m)+40) N):∃ d:RatD,d.can (if x.q≤y.q then x.q else y.q)∧∀ K:LA→Option R,Bh2 N x.av o y.av o' K=K d.av:=by
  by_cases h:x.q≤y.q
  · obtain ⟨c,c1,c2⟩:=At8 (R:=R) (N:=N) (o:=o) hx (hf.le (by omega))
    refine ⟨c,by rw [if_pos h];exact c1,fun K=>?_⟩
    rw [A9y];unfold Bok Boj
    rw [G0,ct,G0,ct,Dm,Dm,Am8 hx hy (hf.le (by omega)),decide_eq_true (Be4.2 h),ct,ct,c2];rfl
  · obtain ⟨c,c1,c2⟩:=At8 (R:=R) (N:=N) (o:=o') hy (hf.le (by omega))
    refine ⟨c,by rw [if_neg h];exact c1,fun K=>?_⟩
    rw [A9y];unfold Bok Boj
    rw [G0,ct,G0,ct,Dm,Dm,Am8 hx hy (hf.le (by omega)),decide_eq_false (fun hh=>h (Be4.1 hh)),cf,ct,c2];rfl
end
end Gx

namespace Gx
open Go Go.Proofs
section
variable {R:Type}
def Fn (z:Int):List AV:=I9 (decide (z<0)) (.of (dig z.natAbs) false false)
theorem Be5 (z:Int) (K:LA→Option R):(cond ((Nat.beq 0 0)&&((Nat.beq (List.length (Fn z)) 2)&&(Nat.beq 2 2))) (cond (Nat.ble 2 (List.length (Fn z))) (K (List.take 2 (Fn z))) none) none)=K (Fn z):=rfl
theorem tkc (z:Int):List.take 2 (Fn z)=Fn z:=rfl
theorem Ccr (z:Int):Nat.beq (List.length (Fn z)) 2=true:=rfl
theorem tkd (v:Nat):List.take ((dig v).length*1) (Ae (dig v))=Ae (dig v):=D5 (Ad _) (Ag v)
theorem Gq {N:Nat} {neg:Bool} {l:List Nat} {n:Nat} {t o:Bool} {K:LA→Option R} (hn:n=l.length) (hl:Ah l) (hf:fit l.length N):Fg N neg (Ae l) n t o K=K (Fn (if neg then -(val l:Int) else (val l:Int))):=by
  obtain ⟨c1,c2⟩:=Aey (z:=if neg then -(val l:Int) else (val l:Int)) (c:=neg) (m:=val l) rfl
  rw [Bce];unfold Bgn Bgm
  rw [Dl hn hl hf,tkd]
  unfold Fn
  rw [← c1,c2]
  cases neg
  · rfl
  · rw [show ((true:Bool)==true)=true by rfl,ct,ctB];simp [I9,LS.av]
theorem A6x {N:Nat} {v:Int} {K:LA→Option R} (hv:-9223372036854775808≤v∧v≤9223372036854775807) (hN:2000≤N):Jb N v K=K (Fn v):=by
  have hb:v.natAbs<18446744073709551616:=by omega
  have hl:=At3 hb
  rw [Avl];unfold Aqg Aqf
  by_cases h:v<0
  · have e : IntKind.wrap .u64 (IntKind.wrap .u64 (IntKind.wrap .i64 ((0 : Int) - IntKind.wrap .i64 (v + 1))) + 1) = (v.natAbs : Int) := by
      rw [i64 (a:=v+1) (by omega),i64 (by omega),Ba6,Ba6];omega
    rw [decide_eq_true h,ct,e,Ak3 hb (by omega),tkd,Gq rfl (Ad _) ⟨by omega,by omega⟩,Ag]
    have:(if true=true then -(v.natAbs:Int) else (v.natAbs:Int))=v:=by rw [if_pos rfl];omega
    rw [this];exact Be5 _ _
  · have e:IntKind.wrap .u64 v=(v.natAbs:Int):=by rw [Ba6];omega
    rw [decide_eq_false h,cf,e,Ak3 hb (by omega),tkd,Gq rfl (Ad _) ⟨by omega,by omega⟩,Ag]
    have:(if false=true then -(v.natAbs:Int) else (v.natAbs:Int))=v:=by rw [if_neg (by decide)];omega
    rw [this];exact Be5 _ _
theorem Bbb {N:Nat} {n:Bool} {s:LS} {o:Bool} {K:LA→Option R} (hs:Ah s.l) (hf:fit s.l.length N):Afk N (I9 n s) o K=K (Fn (Ar n s)):=by
  rw [Bcf];unfold Bgp Bgo
  rw [Us,Oy,Gq rfl hs hf];exact Be5 _ _
theorem Bt4 {N:Nat} {n:Bool} {s:LS} {o:Bool} {K:Int→Option R} (hs:Ah s.l) (hf:fit s.l.length N):Afl N (I9 n s) o K=K (Ar n s).sign:=by
  rw [Bcg];unfold Bgr Bgq
  rw [Bba,ct,tk2,Bbb hs hf,Ccr,show ((true&&(true&&(!false))))=true by rfl,ct]
  have e:setCells (I9 n s) 0 (Fn (Ar n s))=Fn (Ar n s):=rfl
  rw [e]
  generalize Ar n s=z
  unfold Fn
  rw [Us]
  rcases Int.lt_trichotomy z 0 with h | h | h
  · rw [decide_eq_true h,ct,Int.sign_eq_neg_one_of_neg h]
  · subst h;rfl
  · rw [decide_eq_false (by omega),cf,Oy]
    have:(dig z.natAbs).length≠0:=fun hh=>by have:=Bz.1 hh;omega
    simp only [LS.l]
    rw [i0F this,cf,Int.sign_eq_one_of_pos h]
theorem B8a {N:Nat} {n:Bool} {s:LS} {o:Bool} {K:LA→Option R} (hs:Ah s.l) (hf:fit s.l.length N):Acg N (I9 n s) o K=K (Fn (-Ar n s)):=by
  rw [Blb];unfold Bqw Bqv
  rw [Us,Oy,Gq rfl hs hf,← B3t];exact Be5 _ _
theorem B5z {N:Nat} {n1 n2:Bool} {s1 s2:LS} {o1 o2:Bool} {K:LA→Option R} (h1:Ah s1.l) (h2:Ah s2.l) (hf:fit (s1.l.length+s2.l.length) N):Yo N (I9 n1 s1) o1 (I9 n2 s2) o2 K=K (Fn (Ar n1 s1*Ar n2 s2)):=by
  have hl:(dig (val s1.l*val s2.l)).length≤s1.l.length+s2.l.length:=Dc (by rw [Nat.pow_add];exact Nat.mul_lt_mul'' (Bn h1) (Bn h2))
  rw [Blt];unfold Bsb Bsa
  rw [Us,Us,Oy,Oy,B74 rfl rfl h1 h2 hf,tkd,Gq rfl (Ad _) (hf.le hl),Ag]
  have hz:Ar n1 s1*Ar n2 s2=if (!(n1==n2)) then -((val s1.l*val s2.l:Nat):Int) else ((val s1.l*val s2.l:Nat):Int):=by
    unfold Ar;cases n1<;>cases n2<;>simp [Int.mul_neg,Int.neg_mul]
  rw [← hz];exact Be5 _ _
theorem B50 {N:Nat} {n1 n2:Bool} {s1 s2:LS} {o1 o2:Bool} {K:LA→Option R} (h1:Ah s1.l) (h2:Ah s2.l) (hf:fit (s1.l.length+s2.l.length+1) N):Acf N (I9 n1 s1) o1 (I9 n2 s2) o2 K=K (Fn (Ar n1 s1+Ar n2 s2)):=by
  have v1:=Bn h1
  have v2:=Bn h2
  have w1:=Gp (show s1.l.length≤s1.l.length+s2.l.length by omega)
  have w2:=Gp (show s2.l.length≤s1.l.length+s2.l.length by omega)
  rw [Bla];unfold Bqt Bqs
  rw [Us,Us]
  by_cases hn:n1=n2
  · subst hn
    have hl:(dig (val s1.l+val s2.l)).length≤s1.l.length+s2.l.length+1:=Dc (by rw [Nat.pow_succ];omega)
    have hz:Ar n1 s1+Ar n1 s2=if n1 then -((val s1.l+val s2.l:Nat):Int) else ((val s1.l+val s2.l:Nat):Int):=by
      unfold Ar;cases n1<;>simp;omega
    rw [show (n1==n1)=true by simp,ct,Us,Oy,Oy,Bi5 rfl rfl h1 h2 hf,tkd,Gq rfl (Ad _) (hf.le hl),Ag,← hz];exact Be5 _ _
  · rw [show (n1==n2)=false by simp [hn],cf,Oy,Oy,Bi6 rfl rfl h1 h2 (hf.le (by omega))]
    by_cases hle:val s2.l≤val s1.l
    · have hl:(dig (val s1.l - val s2.l)).length≤s1.l.length+s2.l.length+1:=Dc (by rw [Nat.pow_succ];omega)
      have hz:Ar n1 s1+Ar n2 s2=if n1 then -((val s1.l - val s2.l:Nat):Int) else ((val s1.l - val s2.l:Nat):Int):=by
        unfold Ar;cases n1<;>cases n2<;>simp at hn ⊢<;>omega
      rw [if_pos hle,ct,Us,tkd,Gq rfl (Ad _) (hf.le hl),Ag,← hz];exact Be5 _ _
    · have hl:(dig (val s2.l - val s1.l)).length≤s1.l.length+s2.l.length+1:=Dc (by rw [Nat.pow_succ];omega)
      have hz:Ar n1 s1+Ar n2 s2=if n2 then -((val s2.l - val s1.l:Nat):Int) else ((val s2.l - val s1.l:Nat):Int):=by
        unfold Ar;cases n1<;>cases n2<;>simp at hn ⊢<;>omega
      rw [if_neg hle,cf,Oy,Oy,Bi6 rfl rfl h2 h1 (hf.le (by omega)),if_pos (by omega),Us,tkd,Gq rfl (Ad _) (hf.le hl),Ag,← hz];exact Be5 _ _
theorem B8b {N:Nat} {n1 n2:Bool} {s1 s2:LS} {o1 o2:Bool} {K:LA→Option R} (h1:Ah s1.l) (h2:Ah s2.l) (hf:fit (3*(s1.l.length+s2.l.length)+4) N):Bco N (I9 n1 s1) o1 (I9 n2 s2) o2 K=K (Fn ((Nat.gcd (Ar n1 s1).natAbs (Ar n2 s2).natAbs:Nat):Int)):=by
  have hl:(dig (Nat.gcd (val s1.l) (val s2.l))).length≤s1.l.length+s2.l.length:=by
    rcases Nat.eq_zero_or_pos (val s1.l) with h | h
    · rw [h,Nat.gcd_zero_left];have:=(Bs h2).2;omega
    · have:=Cc (Nat.gcd_le_left (val s2.l) h);have:=(Bs h1).2;omega
  rw [Bk9];unfold Bqn Bqm
  rw [Oy,Oy,B77 rfl rfl h1 h2 hf,tkd,Gq rfl (Ad _) (hf.le (by omega)),Ag,Cv,Cv];exact Be5 _ _
theorem A01 {N:Nat} {n1:Bool} {s1:LS} {g:Nat} {o1 o2:Bool} {K:LA→LA→Bool→Option R} (h1:Ah s1.l) (hg:0<g) (hd:g∣val s1.l) (hf:fit (s1.l.length+2*(dig g).length+4) N):V3 N (I9 n1 s1) o1 (Fn (g:Int)) o2 K=K (Fn (Ar n1 s1/(g:Int))) (Fn 0) true:=by
  have hc:Fn (g:Int)=I9 false (.of (dig g) false false):=by
    unfold Fn;rw [decide_eq_false (by omega),Int.natAbs_natCast]
  have hq:(dig (val s1.l/g)).length≤s1.l.length:=Nat.le_trans (Cc (Nat.div_le_self _ _)) (Bs h1).2
  rw [hc,Ax7];unfold Ax6 Ax5
  rw [Oy,Oy,show (LS.of (dig g) false false).l=dig g by rfl]
  rw [At7 rfl rfl h1 (Ad _) (by rw [Ag];omega) hf,Ag,Nat.mod_eq_zero_of_dvd hd,show (!true)=false by rfl,cf,Us,Us,tkd,Gq rfl (Ad _) (hf.le (by omega)),Us,tkd,Gq rfl (Ad _) (hf.le (by simp [Du])),Ag,Ag]
  have e0:(if n1=true then -((0:Nat):Int) else ((0:Nat):Int))=0:=by cases n1<;>rfl
  have e1:(if (!(n1==false))=true then -((val s1.l/g:Nat):Int) else ((val s1.l/g:Nat):Int))=Ar n1 s1/(g:Int):=by
    obtain ⟨c,hc⟩:=hd
    have hv:val s1.l/g=c:=by rw [hc,Nat.mul_div_cancel_left _ hg]
    rw [hv];unfold Ar;rw [hc]
    cases n1
    · simp;rw [Int.mul_ediv_cancel_left _ (by omega)]
    · simp only [Bool.true_beq,Bool.not_false,if_true]
      rw [show -((g*c:Nat):Int)=(g:Int)*(-(c:Int)) by rw [Int.mul_neg];simp,Int.mul_ediv_cancel_left _ (by omega)]
  rw [e0,e1]
  generalize Ar n1 s1/(g:Int)=q
  have r0:∀ (f:Bool→Option R),rdB (Fn 0) f=f false:=fun f=>Us
  rw [show ((Nat.beq 0 0)&&((Nat.beq (List.length (Fn q)) 2)&&(Nat.beq 2 2)))=true by rfl,ct,show ((Nat.beq 0 0)&&((Nat.beq (List.length (Fn 0)) 2)&&(Nat.beq 2 2)))=true by rfl,ct,r0,cf]
  rfl
end
end Gx

namespace Gx
open Go Go.Proofs
section
variable {R:Type}
def cqD (q:Rat):RatD:=⟨decide (q.num<0),.of (dig q.num.natAbs) false false,.of (dig q.den) false false⟩
def cq (q:Rat):List AV:=(cqD q).av
theorem Bom (q:Rat):(cqD q).can q:=⟨rfl,rfl,rfl⟩
theorem Cbg (q:Rat):(cqD q).q=q:=(Bom q).q
theorem B9s (q:Rat):(cqD q).ok:=(Bom q).ok
theorem Cbh (q:Rat):(cqD q).m=qm q:=(Bom q).m
theorem Be6 (q:Rat) (K:LA→Option R):(cond ((Nat.beq 0 0)&&((Nat.beq (List.length (cq q)) 3)&&(Nat.beq 3 3))) (cond (Nat.ble 3 (List.length (cq q))) (K (List.take 3 (cq q))) none) none)=K (cq q):=rfl
theorem Byu (q:Rat):Nat.ble 2 (List.length (cq q))=true:=rfl
theorem Bja (q:Rat):List.take 2 (cq q)=Fn q.num:=rfl
theorem Car:cq 0=[(.bool false),(.imm [] 0 1 false false),(.imm [(.int .u32 1)] 1 1 false false)]:=by
  have e:cq 0=[.bool false,.imm (Ae (dig 0)) (dig 0).length 1 false false,.imm (Ae (dig 1)) (dig 1).length 1 false false]:=rfl
  rw [e,Adl];rfl
theorem Bbc {N:Nat} {K:LA→Option R}:Afm N K=K (cq 0):=by
  rw [Bch];unfold Bgt Bgs
  rw [Car]
theorem Ccs {N:Nat} {z:Int} {o:Bool} {K:LA→Option R} (hf:fit (dig z.natAbs).length N):Acg N (Fn z) o K=K (Fn (-z)):=by
  have:=B8a (R:=R) (N:=N) (n:=decide (z<0)) (s:=.of (dig z.natAbs) false false) (o:=o) (K:=K) (Ad _) hf
  rw [H9] at this;exact this
theorem Cci {N:Nat} {z:Int} {o:Bool} {K:Int→Option R} (hf:fit (dig z.natAbs).length N):Afl N (Fn z) o K=K z.sign:=by
  have:=Bt4 (R:=R) (N:=N) (n:=decide (z<0)) (s:=.of (dig z.natAbs) false false) (o:=o) (K:=K) (Ad _) hf
  rw [H9] at this;exact this
theorem B9t {N:Nat} {z w:Int} {o o':Bool} {K:LA→Option R} (hf:fit ((dig z.natAbs).length+(dig w.natAbs).length) N):Yo N (Fn z) o (Fn w) o' K=K (Fn (z*w)):=by
  have:=B5z (R:=R) (N:=N) (n1:=decide (z<0)) (s1:=.of (dig z.natAbs) false false) (n2:=decide (w<0)) (s2:=.of (dig w.natAbs) false false) (o1:=o) (o2:=o') (K:=K) (Ad _) (Ad _) hf
  rw [H9,H9] at this;exact this
theorem Cct {N:Nat} {z w:Int} {o o':Bool} {K:LA→Option R} (hf:fit ((dig z.natAbs).length+(dig w.natAbs).length+1) N):Acf N (Fn z) o (Fn w) o' K=K (Fn (z+w)):=by
  have:=B50 (R:=R) (N:=N) (n1:=decide (z<0)) (s1:=.of (dig z.natAbs) false false) (n2:=decide (w<0)) (s2:=.of (dig w.natAbs) false false) (o1:=o) (o2:=o') (K:=K) (Ad _) (Ad _) hf
  rw [H9,H9] at this;exact this
theorem B9u (z:Int):mkRat z 1=(z:Rat):=by
  apply Rat.ext
  · rw [Rat.num_mkRat,if_neg (by decide),Nat.gcd_one_left];simp
  · rw [Rat.den_mkRat,if_neg (by decide),Nat.gcd_one_left];simp
theorem Cas (z:Int) (w:Nat) (hw:w≠0):(mkRat z w).num=z/((Nat.gcd z.natAbs w:Nat):Int)∧(mkRat z w).den=w/Nat.gcd z.natAbs w:=by
  refine ⟨?_,?_⟩
  · rw [Rat.num_mkRat,if_neg hw,Nat.gcd_comm w]
  · rw [Rat.den_mkRat,if_neg hw,Nat.gcd_comm w]
theorem Bmm {N:Nat} {n1 n2:Bool} {s1 s2:LS} {o1 o2:Bool} {K:LA→Option R} (h1:Ah s1.l) (h2:Ah s2.l) (hpos:0≤Ar n2 s2) (hf:fit (4*(s1.l.length+s2.l.length)+10) N):O3 N (I9 n1 s1) o1 (I9 n2 s2) o2 K=K (cq (mkRat (Ar n1 s1) (Ar n2 s2).natAbs)):=by
  have hna:=Cv n2 s2
  have hna1:=Cv n1 s1
  rw [Bcp];unfold Bg5 Bg4
  rw [Bba,ct,tk2,Bt4 h2 (hf.le (by omega))]
  by_cases h0:Ar n2 s2=0
  · rw [h0,show ((0:Int).sign==0)=true by rfl,ct,Bbc]
    rw [show (0:Int).natAbs=0 by rfl,Rat.mkRat_zero];exact Be6 _ _
  · have hw:(Ar n2 s2).natAbs≠0:=by omega
    have hs1:((Ar n2 s2).sign==0)=false:=by rw [Int.sign_eq_one_of_pos (by omega)];rfl
    rw [hs1,cf,ct,Bbb h2 (hf.le (by omega)),show ((Nat.beq 0 0)&&((Nat.beq (List.length (Fn (Ar n2 s2))) 2)&&(Nat.beq 2 2)))=true by rfl,ct]
    have rb:∀ (z:Int) (f:Bool→Option R),rdB (Fn z) f=f (decide (z<0)):=fun z f=>Us
    have rl:∀ (z:Int) (f:List AV→Nat→Option R),rdL 1 (List.drop 1 (Fn z)) f=f (Ae (dig z.natAbs)) (dig z.natAbs).length:=fun z f=>Oy
    have l2:=(Bs h2).2
    have l1:=(Bs h1).2
    rw [rb,decide_eq_false (by omega),show ((!false)==true)=true by rfl,ct,rl,B9p,B9k (a:=dig (Ar n2 s2).natAbs) (b:=[1]) (m:=1) rfl rfl (hf.le (by rw [hna];omega)),ctB]
    by_cases hone:(Ar n2 s2).natAbs=1
    · rw [hone,Adl,show decide (([1]:List Nat)=[1])=true by decide,ct,Bba,ct,tk2,Bbb h1 (hf.le (by omega)),rl,hone,Adl]
      rw [B9u]
      have e2:cq ((Ar n1 s1:Int):Rat)=[.bool (decide (Ar n1 s1<0)),.imm (Ae (dig (Ar n1 s1).natAbs)) (dig (Ar n1 s1).natAbs).length 1 false false,.imm (Ae [1]) 1 1 false false]:=by
        unfold cq cqD RatD.av LS.av
        rw [Rat.num_intCast,Rat.den_intCast,Adl];rfl
      rw [e2];rfl
    · have hne : decide (dig (Ar n2 s2).natAbs = [1]) = false := by
        rw [decide_eq_false_iff_not];intro hh
        have:=congrArg val hh
        rw [Ag] at this;simp [val] at this;omega
      rw [hne,cf]
      unfold Ax8 Aq0
      have hg0:0<Nat.gcd (Ar n1 s1).natAbs (Ar n2 s2).natAbs:=Nat.gcd_pos_of_pos_right _ (by omega)
      have hgl:(dig (Nat.gcd (Ar n1 s1).natAbs (Ar n2 s2).natAbs)).length≤s2.l.length:=Nat.le_trans (Cc (Nat.gcd_le_right _ (by omega))) (by rw [hna];exact l2)
      have hd1:Nat.gcd (Ar n1 s1).natAbs (Ar n2 s2).natAbs∣val s1.l:=by rw [← hna1];exact Nat.gcd_dvd_left _ _
      have hd2:Nat.gcd (Ar n1 s1).natAbs (Ar n2 s2).natAbs∣val s2.l:=by rw [← hna];exact Nat.gcd_dvd_right _ _
      obtain ⟨q1,q2⟩:=Cas (Ar n1 s1) (Ar n2 s2).natAbs hw
      rw [Bba,ct,Bba,ct,tk2,tk2,B8b h1 h2 (hf.le (by omega))]
      generalize hgd:Nat.gcd (Ar n1 s1).natAbs (Ar n2 s2).natAbs=g at *
      rw [show ((Nat.beq 0 0)&&((Nat.beq (List.length (Fn (g:Int))) 2)&&(Nat.beq 2 2)))=true by rfl,ct,ct,show Nat.ble 2 (List.length (Fn (g:Int)))=true by rfl,ct,tkc,A01 h1 hg0 hd1 (hf.le (by omega))]
      rw [show ∀ z:Int,((Nat.beq 0 0)&&((Nat.beq (List.length (Fn z)) 2)&&(Nat.beq 2 2)))=true from fun z=>rfl,ct,show ((Nat.beq 0 0)&&((Nat.beq (List.length (Fn 0)) 2)&&(Nat.beq 2 2)))=true by rfl,ct,ct,A01 h2 hg0 hd2 (hf.le (by omega))]
      have hwz:Ar n2 s2/(g:Int)=(((Ar n2 s2).natAbs/g:Nat):Int):=by
        rw [show Ar n2 s2=(((Ar n2 s2).natAbs:Nat):Int) by omega];rfl
      rw [show ∀ z:Int,((Nat.beq 0 0)&&((Nat.beq (List.length (Fn z)) 2)&&(Nat.beq 2 2)))=true from fun z=>rfl,ct,ct,rb,hwz,decide_eq_false (by omega),cf,show ∀ z:Int,Nat.ble 2 (List.length (Fn z))=true from fun z=>rfl,ct,rl,Int.natAbs_natCast,← q2]
      rw [← q1];rfl
theorem B61 {N:Nat} {z w:Int} {o o':Bool} {K:LA→Option R} (hw:0≤w) (hf:fit (4*((dig z.natAbs).length+(dig w.natAbs).length)+10) N):O3 N (Fn z) o (Fn w) o' K=K (cq (mkRat z w.natAbs)):=by
  have:=Bmm (R:=R) (N:=N) (n1:=decide (z<0)) (s1:=.of (dig z.natAbs) false false) (n2:=decide (w<0)) (s2:=.of (dig w.natAbs) false false) (o1:=o) (o2:=o') (K:=K) (Ad _) (Ad _) (by rw [H9];exact hw) hf
  rw [H9,H9] at this;exact this
theorem Hk {N:Nat} {x:RatD} {o:Bool} {K:LA→Option R} (hx:x.ok) (hf:fit (8*x.m+10) N):It N x.av o K=K (cq x.q):=by
  have m1:x.ns.l.length≤x.m:=Nat.le_max_left _ _
  have m2:x.ds.l.length≤x.m:=Nat.le_max_right _ _
  rw [Bdr];unfold Bh8 Bh7
  rw [show Nat.ble 2 (List.length x.av)=true by rfl,ct,Bt3,Cbf,ofA,Bmm (s2:=.of x.ds.l false o) hx.1 hx.2 (by unfold Ar;simp) (hf.le (show 4*(x.ns.l.length+x.ds.l.length)+10≤_ by omega))]
  have:mkRat (Ar x.neg x.ns) (Ar false (.of x.ds.l false o)).natAbs=x.q:=by rw [Cv];rfl
  rw [this];exact Be6 _ _
theorem Xd {N:Nat} {x:RatD} {o:Bool} {K:LA→Option R} (hx:x.ok) (hf:fit (8*x.m+10) N):Ts N x.av o K=K (Fn (x.q.den:Int)):=by
  rw [Blq];unfold Brz Bry
  rw [G0,ct,Dm,Hk hx hf]
  have:=Bt3 (R:=R) (x:=cqD x.q) (f:=fun e f=>K [(.bool false),(.imm e f 1 false false)])
  refine this.trans ?_
  unfold Fn;rw [decide_eq_false (by omega),Int.natAbs_natCast];rfl
theorem A6y (x:RatD) (hx:x.ok):qm x.q≤x.m+1:=by
  have m1:x.ns.l.length≤x.m:=Nat.le_max_left _ _
  have m2:x.ds.l.length≤x.m:=Nat.le_max_right _ _
  unfold qm
  by_cases h:val x.ds.l=0
  · have:x.q=0:=by unfold RatD.q;rw [h,Rat.mkRat_zero]
    rw [this,Rat.zero_num,Rat.zero_den,Adl];simp [Du]
  · obtain ⟨a1,_,a3⟩:=Bt2 (Ar x.neg x.ns) (val x.ds.l) h
    have b1:x.q.num.natAbs≤val x.ns.l:=by show (mkRat _ _).num.natAbs≤_;rw [a1,Cv];exact Nat.div_le_self _ _
    have b2:x.q.den≤val x.ds.l:=by show (mkRat _ _).den≤_;rw [a3];exact Nat.div_le_self _ _
    have c1:=Nat.le_trans (Cc b1) (Bs hx.1).2
    have c2:=Nat.le_trans (Cc b2) (Bs hx.2).2
    omega
theorem Cbi (z:Int) (d:Nat) (k:Nat) (h1:z.natAbs<4294967296 ^ k) (h2:d<4294967296 ^ k) (hd:d≠0):qm (mkRat z d)≤k:=by
  obtain ⟨a1,_,a3⟩:=Bt2 z d hd
  unfold qm
  have b1:(mkRat z d).num.natAbs≤z.natAbs:=by rw [a1];exact Nat.div_le_self _ _
  have b2:(mkRat z d).den≤d:=by rw [a3];exact Nat.div_le_self _ _
  have c1:=Dc (Nat.lt_of_le_of_lt b1 h1)
  have c2:=Dc (Nat.lt_of_le_of_lt b2 h2)
  omega
theorem A02 (q:Rat):q.num.natAbs<4294967296 ^ qm q:=B9r (Nat.le_max_left _ _)
theorem Am9 (q:Rat):q.den<4294967296 ^ qm q:=B9r (Nat.le_max_right _ _)
theorem Fb (a b:Rat):qm (a+b)≤qm a+qm b+1:=by
  rw [Rat.add_def']
  have da:((a.den:Nat):Int).natAbs<4294967296 ^ qm a:=by rw [Int.natAbs_natCast];exact Am9 a
  have db:((b.den:Nat):Int).natAbs<4294967296 ^ qm b:=by rw [Int.natAbs_natCast];exact Am9 b
  refine Cbi _ _ _ ?_ ?_ (Nat.mul_ne_zero a.den_nz b.den_nz)
  · refine Be3 (I3 (A02 a) db) ?_
    have:=I3 (A02 b) da
    rwa [Nat.add_comm (qm b)] at this
  · rw [Nat.pow_succ,Nat.pow_add]
    have:=Nat.mul_lt_mul'' (Am9 a) (Am9 b)
    omega
theorem Ana (a b:Rat):qm (a*b)≤qm a+qm b:=by
  rw [Rat.mul_def']
  refine Cbi _ _ _ (I3 (A02 a) (A02 b)) ?_ (Nat.mul_ne_zero a.den_nz b.den_nz)
  rw [Nat.pow_add];exact Nat.mul_lt_mul'' (Am9 a) (Am9 b)
theorem B9v (a:Rat):qm (-a)=qm a:=by unfold qm;rw [Rat.neg_num,Rat.neg_den,Int.natAbs_neg]
theorem Xe (a b:Rat):qm (a - b)≤qm a+qm b+1:=by rw [Rat.sub_eq_add_neg,← B9v b];exact Fb _ _
theorem Cbw {v:Int} (h:v.natAbs<18446744073709551616):qm (v:Rat)≤2:=by
  unfold qm;rw [Rat.num_intCast,Rat.den_intCast,Adl]
  have:=At3 h
  simp;omega
theorem mkq {a:Int} {b:Nat}:mkRat a ((b:Int)).natAbs=mkRat a b:=by rw [Int.natAbs_natCast]
theorem B51 {N:Nat} {x:RatD} {o:Bool} {K:LA→Option R} (hx:x.ok) (hf:fit (16*x.m+40) N):Bds N x.av o K=K (cq (-x.q)):=by
  have hq:=A6y x hx
  have q1:(dig x.q.num.natAbs).length≤qm x.q:=Nat.le_max_left _ _
  have q2:(dig x.q.den).length≤qm x.q:=Nat.le_max_right _ _
  rw [Blr];unfold Br2 Br1
  rw [G0,ct,Dm,Hk hx (hf.le (by omega)),Byu,ct,Bja,Ccs (hf.le (show (dig x.q.num.natAbs).length≤_ by omega)),ct,Xd hx (hf.le (by omega)),B61 (by omega) (hf.le (show 4*((dig (-x.q.num).natAbs).length+(dig ((x.q.den:Nat):Int).natAbs).length)+10≤_ by rw [Int.natAbs_neg,Int.natAbs_natCast];omega)),mkq]
  have:mkRat (-x.q.num) x.q.den=-x.q:=by rw [← Rat.neg_mkRat,Rat.mkRat_self]
  rw [this];exact Be6 _ _
theorem Bt5 {N:Nat} {x y:RatD} {o o':Bool} {K:LA→Option R} (hx:x.ok) (hy:y.ok) (hf:fit (16*(x.m+y.m)+80) N):Lw N x.av o y.av o' K=K (cq (x.q+y.q)):=by
  have hqx:=A6y x hx
  have hqy:=A6y y hy
  have x1:=A02 x.q
  have x2:((x.q.den:Nat):Int).natAbs<4294967296 ^ qm x.q:=by rw [Int.natAbs_natCast];exact Am9 _
  have y1:=A02 y.q
  have y2:((y.q.den:Nat):Int).natAbs<4294967296 ^ qm y.q:=by rw [Int.natAbs_natCast];exact Am9 _
  have L1:=Dc x1
  have L2:=Dc x2
  have L3:=Dc y1
  have L4:=Dc y2
  have z1:=I3 x1 y2
  have z2:=I3 y1 x2
  have z3:=Be3 (k:=qm x.q+qm y.q) z1 (by rwa [Nat.add_comm])
  have z4:=I3 x2 y2
  have M1:=Dc z1
  have M2:=Dc z2
  have M3:=Dc z3
  have M4:=Dc z4
  rw [Blu];unfold Bsf Bse
  rw [G0,ct,Dm,Hk hx (hf.le (by omega)),G0,ct,Dm,Hk hy (hf.le (by omega)),show ∀ q,((Nat.beq 0 0)&&((Nat.beq (List.length (cq q)) 3)&&(Nat.beq 3 3)))=true from fun q=>rfl,ct,show ∀ q,((Nat.beq 0 0)&&((Nat.beq (List.length (cq q)) 3)&&(Nat.beq 3 3)))=true from fun q=>rfl,ct,Byu,ct,ct,Xd hy (hf.le (by omega)),Bja,B9t (hf.le (show (dig x.q.num.natAbs).length+(dig ((y.q.den:Nat):Int).natAbs).length≤_ by omega)),Byu,ct,ct,Xd hx (hf.le (by omega)),Bja,B9t (hf.le (show (dig y.q.num.natAbs).length+(dig ((x.q.den:Nat):Int).natAbs).length≤_ by omega)),Cct (hf.le (show (dig (x.q.num*((y.q.den:Nat):Int)).natAbs).length+(dig (y.q.num*((x.q.den:Nat):Int)).natAbs).length+1≤_ by omega)),ct,Xd hx (hf.le (by omega)),ct,Xd hy (hf.le (by omega)),B9t (hf.le (show (dig ((x.q.den:Nat):Int).natAbs).length+(dig ((y.q.den:Nat):Int).natAbs).length≤_ by omega)),B61 (Int.mul_nonneg (by omega) (by omega)) (hf.le (show 4*((dig (x.q.num*((y.q.den:Nat):Int)+y.q.num*((x.q.den:Nat):Int)).natAbs).length+(dig (((x.q.den:Nat):Int)*((y.q.den:Nat):Int)).natAbs).length)+10≤_ by omega))]
  have:mkRat (x.q.num*((y.q.den:Nat):Int)+y.q.num*((x.q.den:Nat):Int)) (((x.q.den:Nat):Int)*((y.q.den:Nat):Int)).natAbs=x.q+y.q:=by
    rw [Rat.add_def',Int.natAbs_mul,Int.natAbs_natCast,Int.natAbs_natCast]
  rw [this];exact Be6 _ _
theorem Bt6 {N:Nat} {x y:RatD} {o o':Bool} {K:LA→Option R} (hx:x.ok) (hy:y.ok) (hf:fit (16*(x.m+y.m)+100) N):Tt N x.av o y.av o' K=K (cq (x.q - y.q)):=by
  have hqy:=A6y y hy
  rw [Blv];unfold Bsi Bsh
  rw [G0,ct,G0,ct,Dm,Dm,B51 hy (hf.le (by omega))]
  have:=Bt5 (R:=R) (N:=N) (x:=x) (y:=cqD (-y.q)) (o:=o) (o':=false) (K:=fun e=>(cond ((Nat.beq 0 0)&&((Nat.beq (List.length e) 3)&&(Nat.beq 3 3))) (cond (Nat.ble 3 (List.length e)) (K (List.take 3 e)) none) none)) hx (B9s _) (hf.le (by rw [Cbh,B9v];omega))
  rw [Cbg,← Rat.sub_eq_add_neg] at this
  exact this.trans (Be6 _ _)
theorem Bmn {N:Nat} {x:RatD} {o:Bool} {K:Int→Option R} (hx:x.ok) (hf:fit (8*x.m+10) N):Z4 N x.av o K=K x.q.num.sign:=by
  have hq:=A6y x hx
  have q1:(dig x.q.num.natAbs).length≤qm x.q:=Nat.le_max_left _ _
  rw [Bdu];unfold Bif Bie
  rw [G0,ct,Dm,Hk hx hf,Byu,ct,Bja,Cci (hf.le (show (dig x.q.num.natAbs).length≤_ by omega))]
theorem B9w (a b:Rat):(a - b).num.sign=Ahp a b:=by
  unfold Ahp
  by_cases h:a<b
  · rw [if_pos h]
    have h1:a - b<0:=by grind
    have:(a - b).num<0:=by
      apply Int.not_le.1;intro h2
      exact absurd (Rat.num_nonneg.1 h2) (Rat.not_le.2 h1)
    exact Int.sign_eq_neg_one_of_neg this
  · rw [if_neg h]
    by_cases h2:b<a
    · rw [if_pos h2]
      have h1:0<a - b:=by grind
      have h3:0≤(a - b).num:=Rat.num_nonneg.2 (Rat.le_of_lt h1)
      have h4:(a - b).num≠0:=fun hh=>by
        have:=Rat.num_eq_zero.1 hh
        rw [this] at h1;exact absurd h1 Rat.lt_irrefl
      exact Int.sign_eq_one_of_pos (by omega)
    · rw [if_neg h2]
      have:a=b:=Rat.le_antisymm (Rat.not_lt.1 h2) (Rat.not_lt.1 h)
      rw [this,Rat.sub_self];rfl
theorem A03 {N:Nat} {x y:RatD} {o o':Bool} {K:Int→Option R} (hx:x.ok) (hy:y.ok) (hf:fit (16*(x.m+y.m)+100) N):Cf N x.av o y.av o' K=K (Ahp x.q y.q):=by
  have hqx:=A6y x hx
  have hqy:=A6y y hy
  have hs:=Xe x.q y.q
  rw [Avy];unfold Asq Asp
  rw [G0,ct,G0,ct,Dm,Dm,Bt6 hx hy hf]
  have:=Bmn (R:=R) (N:=N) (x:=cqD (x.q - y.q)) (o:=false) (K:=fun g=>K g) (B9s _) (hf.le (by rw [Cbh];omega))
  rw [Cbg,B9w] at this
  exact this
theorem B52 {N:Nat} {x y:RatD} {o o':Bool} {K:LA→Option R} (hx:x.ok) (hy:y.ok) (hf:fit (16*(x.m+y.m)+80) N):Aj3 N x.av o y.av o' K=K (cq (x.q*y.q)):=by
  have hqx:=A6y x hx
  have hqy:=A6y y hy
  have x1:=A02 x.q
  have x2:((x.q.den:Nat):Int).natAbs<4294967296 ^ qm x.q:=by rw [Int.natAbs_natCast];exact Am9 _
  have y1:=A02 y.q
  have y2:((y.q.den:Nat):Int).natAbs<4294967296 ^ qm y.q:=by rw [Int.natAbs_natCast];exact Am9 _
  have L1:=Dc x1
  have L2:=Dc x2
  have L3:=Dc y1
  have L4:=Dc y2
  have M1:=Dc (I3 x1 y1)
  have M4:=Dc (I3 x2 y2)
  rw [Blz];unfold Bsp Bso
  rw [G0,ct,Dm,Hk hx (hf.le (by omega)),Byu,ct,G0,ct,Dm,Hk hy (hf.le (by omega)),Byu,ct,Bja,Bja,B9t (hf.le (show (dig x.q.num.natAbs).length+(dig y.q.num.natAbs).length≤_ by omega)),ct,Xd hx (hf.le (by omega)),ct,Xd hy (hf.le (by omega)),B9t (hf.le (show (dig ((x.q.den:Nat):Int).natAbs).length+(dig ((y.q.den:Nat):Int).natAbs).length≤_ by omega)),B61 (Int.mul_nonneg (by omega) (by omega)) (hf.le (show 4*((dig (x.q.num*y.q.num).natAbs).length+(dig (((x.q.den:Nat):Int)*((y.q.den:Nat):Int)).natAbs).length)+10≤_ by omega))]
  have:mkRat (x.q.num*y.q.num) (((x.q.den:Nat):Int)*((y.q.den:Nat):Int)).natAbs=x.q*y.q:=by
    rw [Rat.mul_def',Int.natAbs_mul,Int.natAbs_natCast,Int.natAbs_natCast]
  rw [this];exact Be6 _ _
theorem Bt7 {N:Nat} {v:Int} {K:LA→Option R} (hv:-9223372036854775808≤v∧v≤9223372036854775807) (hN:4000≤N):Bf N v K=K (cq (v:Rat)):=by
  have hl:=At3 (show v.natAbs<18446744073709551616 by omega)
  rw [Avn];unfold Aq4 Aq3
  rw [A6x hv (by omega),A6x (by omega) (by omega),B61 (by omega) ⟨show 100*(4*((dig v.natAbs).length+(dig (1:Int).natAbs).length)+10)+1000≤N by (rw [show (1:Int).natAbs=1 by rfl,Adl];simp;omega),show 4*((dig v.natAbs).length+(dig (1:Int).natAbs).length)+10≤1000000000 by (rw [show (1:Int).natAbs=1 by rfl,Adl];simp;omega)⟩]
  have:mkRat v (1:Int).natAbs=(v:Rat):=B9u v
  rw [this];exact Be6 _ _
theorem B53 {N:Nat} {x y:RatD} {o o':Bool} {K:LA→Option R} (hx:x.ok) (hy:y.ok) (hf:fit (16*(x.m+y.m)+100) N):A32 N x.av o y.av o' K=K (cq (if x.q≤y.q then x.q else y.q)):=by
  rw [Bly];unfold Bsl Bsk
  rw [G0,ct,G0,ct,Dm,Dm,A03 hx hy hf]
  by_cases h:x.q≤y.q
  · rw [decide_eq_true (Be4.2 h),ct,ct,Hk hx (hf.le (by omega)),if_pos h];exact Be6 _ _
  · rw [decide_eq_false (fun hh=>h (Be4.1 hh)),cf,ct,Hk hy (hf.le (by omega)),if_neg h];exact Be6 _ _
end
end Gx

namespace Gx
open Go Go.Proofs
set_option maxRecDepth 100000
noncomputable section
variable {R:Type}
def Aua (N:Nat)  (r0:Bool→Option R) (b:LA) (a:Nat) (d e:Bool) (k0:Int→Option R)  (c:Int):Option R :=
 (cond (decide (c<((a:Nat):Int))) (cond (Aj c a) (rdL 1 (List.drop 1 (List.drop ((Int.toNat c)*3) b)) fun l g=>(cond ((decide (((g:Nat):Int)>(4:Int)))==false) (cond (Aj c a) (rdL 1 (List.drop 2 (List.drop ((Int.toNat c)*3) b)) fun m i=>(cond (cond false true (decide (((i:Nat):Int)>(4:Int)))) (r0 false) (k0 (IntKind.wrap .i64 (c+(1:Int)))))) none) (r0 false))) none) (r0 true))
def Aez (N:Nat)  (r0:Bool→Option R) (b:LA) (a:Nat) (d e:Bool):Nat→Int→Option R
 | 0,_=>none
 | n+1,c=>(Aua N r0 b a d e (Aez N r0 b a d e n) c)
def B04 (N:Nat) (r0:Bool→Option R) (q0:Int→Option R) (b:LA) (a:Nat) (d e:Bool):Option R :=
 (cond (decide (((a:Nat):Int)>(30:Int))) (r0 false) (q0 0))
def B05 (N:Nat) (b:LA) (a:Nat) (d e:Bool) (r0:Bool→Option R):Option R:=(B04 N r0 (fun c=>(Aez N r0 b a d e N c)) b a d e)
def A04:=(Ai (@B05 R)).1
theorem Bt8:@A04 R=@B05 R:=(Ai _).2
def A4n:Hints:={ H:=(hS (hR [0]) (hS (hS (hR [0,6]) (hN [0] (hS (hR [2]) hL) hL)) (hS (hS (hR [0,3]) (hS (hN [0,3] (hS (hS (hR [0,3,10]) (hN [0,3] hL hL)) (hS (hN [0,3] (hS (hR [0,3,29]) (hN [0,3] (hS (hR [2]) hL) hL)) hL) (hR [0,3]))) hL) hL)) (hS (hR [2]) hL)))),nils:=[],modes:=[],free:=[],cob:=[] }
def Be7 (N:Nat):List (Nat×Tw):=[]
def Be8 (N:Nat):Env:=mkE 30 A4n (Be7 N)
def B54 (N:Nat) (F:KF R):=Ao (Be8 N) Tryz.f18 A4n.modes [] F
def Byv (N:Nat) (F:KF R):=atF (Be8 N) [] N Tryz.f18 A4n (B54 N F)
def Apf  (F:KF R):Bool→Option R:=(fun j=>F (.bool j) [])
def Ae0 (b:LA) (a:Nat) (d e:Bool) (c:Int):St:={ s:=[(0,(.imm b a 3 d e)),(3,(.int .i64 c))],h:=[] }
def Byw (N:Nat) (F:KF R):St→Option R:=Bq (Be8 N) [] N (Byv N F [1,1,0,1,0] []) N
def A4o (N:Nat) (F:KF R) (n:Nat):St→Option R:=A4 (Be8 N) [] N (Byv N F [1,1,0,1,0] []) n
theorem B06 (N:Nat)  (F:KF R) (b:LA) (a:Nat) (d e:Bool):∀ (n:Nat) (c:Int),A4o N F n (Ae0 b a d e c)=(Aez N (Apf F) b a d e n c):=by
 intro n
 induction n with
 | zero=>intros;kernel_rfl
 | succ n ih =>
  intro c
  have e0:=funext fun c=>(show A4o N F n (Ae0 b a d e c)=_ from ih c)
  have hK:A4o N F (n+1) (Ae0 b a d e c)=(Aua N (Apf F) b a d e (fun c=>A4o N F n (Ae0 b a d e c)) c):=by kernel_rfl
  exact hK.trans (by rw [e0];rfl)
theorem Bjb (N:Nat) (b:LA) (a:Nat) (d e:Bool) (F:KF R):Ab Tryz.prog muts (Be7 N) A4n N 18 [(.imm b a 3 d e)] [] F=(A04 N b a d e (Apf F)):=by
 have e1:=funext fun c=>(show Byw N F (Ae0 b a d e c)=_ from (Ap ..).trans (B06 N F b a d e N c))
 have hK:Ab Tryz.prog muts (Be7 N) A4n N 18 [(.imm b a 3 d e)] [] F=(B04 N (Apf F) (fun c=>Byw N F (Ae0 b a d e c)) b a d e):=by kernel_rfl
 rw [Bt8]
 exact hK.trans (by rw [e1];rfl)
def Aub (N:Nat) (args:List AV) (h:Ak) (k:KF R):Option R :=
 match args,h with
 | [(.imm b a 3 d e)],[]=>(A04 N b a d e (Apf k))
 | _,_=>none
def Byx (N:Nat):Tw:=⟨Aub N,fun args h k=>by
 unfold Aub;split
 exact twE (Bjb ..) (Bjb ..)
 rfl⟩
theorem B8c (N:Nat):Ax Tryz.prog 18 (Byx N):=fun args h res f hh=>by
 change Aub N args h (fun v f=>some (v,f))=_ at hh
 unfold Aub at hh;split at hh
 exact Aa (T:=Be7 N) trivial follows ((Bjb ..).trans hh)
 cases hh
def A05 (N:Nat) (r0:Bool→Option R)  (a:LA) (b:Bool) (c d:Int):Option R :=
 (cond (Nat.ble 3 (List.length a)) (Bf N c (fun f=>(Cf N (List.take 3 a) b f false (fun g=>(cond ((decide (g≥(0:Int)))==true) (cond (Nat.ble 3 (List.length a)) (Bf N d (fun i=>(Cf N (List.take 3 a) b i false (fun j=>(r0 (cond true (decide (j≤(0:Int))) false)))))) none) (r0 false)))))) none)
def A06 (N:Nat) (a:LA) (b:Bool) (c d:Int) (r0:Bool→Option R):Option R:=(A05 N r0 a b c d)
def Ahq:=(Ai (@A06 R)).1
theorem A07:@Ahq R=@A06 R:=(Ai _).2
def A6z:Hints:={ H:=(hS (hR [1,2,3]) (hS (hR [6]) hL)),nils:=[],modes:=[],free:=[],cob:=[] }
def Auc (N:Nat):List (Nat×Tw):=[(20,Eu N),(25,Gl N)]
def Anb  (F:KF R):Bool→Option R:=(fun l=>F (.bool l) [])
theorem Anc (N:Nat) (a:LA) (b:Bool) (c d:Int) (F:KF R):Ab Tryz.prog muts (Auc N) A6z N 36 [(.pagg a b),(.int .i64 c),(.int .i64 d)] [] F=(Ahq N a b c d (Anb F)):=by
 have hK:Ab Tryz.prog muts (Auc N) A6z N 36 [(.pagg a b),(.int .i64 c),(.int .i64 d)] [] F=(A05 N (Anb F) a b c d):=by kernel_rfl
 rw [A07]
 exact hK
def Ut (N:Nat) (args:List AV) (h:Ak) (k:KF R):Option R :=
 match args,h with
 | [(.pagg a b),(.int .i64 c),(.int .i64 d)],[]=>(Ahq N a b c d (Anb k))
 | _,_=>none
def A60 (N:Nat):Tw:=⟨Ut N,fun args h k=>by
 unfold Ut;split
 exact twE (Anc ..) (Anc ..)
 rfl⟩
theorem Bwf (N:Nat):Ax Tryz.prog 36 (A60 N):=fun args h res e hh=>by
 change Ut N args h (fun v e=>some (v,e))=_ at hh
 unfold Ut at hh;split at hh
 exact Aa (T:=Auc N) ⟨Ge N,Iu N,trivial⟩ follows ((Anc ..).trans hh)
 cases hh
def Qg (N:Nat)  (r0:LA→Option R) (e:Bool) (a:LA) (k0:Int→LA→LA→Option R)  (c:Int) (d b:LA):Option R :=
 (rdL 2 (List.drop 4 a) fun af q=>(cond (decide (c<((q:Nat):Int))) (cond (Nat.ble 3 (List.length d)) (rdL 2 (List.drop 4 a) fun r t=>(cond (Aj c t) (rdI .i64 (List.drop ((Int.toNat c)*2) r) fun u=>(Bf N u (fun w=>(A32 N (List.take 3 d) false w false (fun i=>(cond ((Nat.beq 0 0)&&((Nat.beq (List.length i) 3)&&(Nat.beq 3 3))) (cond (Nat.ble 3 (List.length b)) (cond (Nat.ble 3 (List.length i)) (rdL 2 (List.drop 4 a) fun x y=>(cond (Aj c y) (rdI .i64 (List.drop 1 (List.drop ((Int.toNat c)*2) x)) fun z=>(Bf N z (fun aa=>(Aj3 N (List.take 3 i) false aa false (fun ab=>(Lw N (List.take 3 b) false ab false (fun j=>(cond ((Nat.beq (List.length j) 3)&&((Nat.ble 3 (List.length b))&&(!false))) (cond (Nat.ble 3 (List.length d)) (cond (Nat.ble 3 (List.length i)) (Tt N (List.take 3 d) false (List.take 3 i) false (fun l=>(cond ((Nat.beq (List.length l) 3)&&((Nat.ble 3 (List.length d))&&(!false))) (k0 (IntKind.wrap .i64 (c+(1:Int))) (setCells d 0 l) (setCells b 0 j)) none))) none) none) none)))))))) none)) none) none) none)))))) none)) none) (cond (Nat.ble 3 (List.length b)) (cond ((Nat.beq 0 0)&&((Nat.beq (List.length (List.take 3 b)) 3)&&(Nat.beq 3 3))) (cond (Nat.ble 3 (List.length (List.take 3 b))) (r0 (List.take 3 (List.take 3 b))) none) none) none)))
def I4 (N:Nat)  (r0:LA→Option R) (e:Bool) (a:LA):Nat→Int→LA→LA→Option R
 | 0,_,_,_=>none
 | n+1,c,d,b=>(Qg N r0 e a (I4 N r0 e a n) c d b)
def Aud (N:Nat) (r0:LA→Option R) (q0:Int→LA→LA→Option R) (a:LA) (e:Bool) (f:LA) (g:Bool):Option R :=
 (cond (Nat.ble 3 (List.length f)) (rdI .i64 (List.drop 2 a) fun ac=>(Bf N ac (fun ad=>(Tt N (List.take 3 f) g ad false (fun m=>(Afm N (fun o=>(cond ((Nat.beq 0 0)&&((Nat.beq (List.length m) 3)&&(Nat.beq 3 3))) (cond ((Nat.beq 0 0)&&((Nat.beq (List.length o) 3)&&(Nat.beq 3 3))) (q0 0 m o) none) none)))))))) none)
def Aue (N:Nat) (a:LA) (e:Bool) (f:LA) (g:Bool) (r0:LA→Option R):Option R:=(Aud N r0 (fun c d b=>(I4 N r0 e a N c d b)) a e f g)
def Aaf:=(Ai (@Aue R)).1
theorem Awc:@Aaf R=@Aue R:=(Ai _).2
def Uu:Hints:={ H:=(hS (hR [2,3,4]) (hS (hR [2,4,5,6]) (hS (hS (hR [2,4,5,6,7]) (hN [4,6] (hN [2,4,5,6,7] (hS (hS (hR [2,4,5,6,7,19]) (hN [2,4,5,6,7] hL hL)) (hS (hN [2,4,5,6,7] (hS (hR [2,4,5,6,7,8]) (hS (hR [2,4,5,6,7,8]) (hR [2,4,5,6,7]))) hL) (hR [2,4,5,6,7]))) hL) hL)) (hS (hR [4]) hL)))),nils:=[],modes:=[(3,0)],free:=[],cob:=[] }
def Y7 (N:Nat):List (Nat×Tw):=[(20,Eu N),(33,Agy N),(41,Aiv N),(97,Bsn N),(35,Asr N),(32,Ml N)]
def Y8 (N:Nat):Env:=mkE 46 Uu (Y7 N)
def Bnu (N:Nat) (F:KF R):=Ao (Y8 N) Tryz.f58 Uu.modes [] F
def A08 (N:Nat) (F:KF R):=atF (Y8 N) [] N Tryz.f58 Uu (Bnu N F)
def My  (F:KF R):LA→Option R:=(fun ae=>F (.pagg ae false) [])
def I5 (e:Bool) (a:LA) (c:Int) (d b:LA):St:={ s:=[(2,(.optr 300000 0)),(4,(.optr 300001 0)),(5,(.optr 300002 0)),(6,(.optr 300003 0)),(7,(.int .i64 c))],h:=[(300000,⟨false,false,true,e,0,a,false⟩),(300001,⟨false,false,false,false,0,[(.bool false),.nsl,.nsl],false⟩),(300002,⟨false,false,true,false,0,d,false⟩),(300003,⟨false,false,true,false,0,b,false⟩)] }
def A09 (N:Nat) (F:KF R):St→Option R:=Bq (Y8 N) [] N (A08 N F [1,1,0,1,0] []) N
def Uv (N:Nat) (F:KF R) (n:Nat):St→Option R:=A4 (Y8 N) [] N (A08 N F [1,1,0,1,0] []) n
theorem Be9 (N:Nat)  (F:KF R) (e:Bool) (a:LA):∀ (n:Nat) (c:Int) (d b:LA),Uv N F n (I5 e a c d b)=(I4 N (My F) e a n c d b):=by
 intro n
 induction n with
 | zero=>intros;kernel_rfl
 | succ n ih =>
  intro c d b
  have e0:=funext fun c=>funext fun d=>funext fun b=>(show Uv N F n (I5 e a c d b)=_ from ih c d b)
  have hK:Uv N F (n+1) (I5 e a c d b)=(Qg N (My F) e a (fun c d b=>Uv N F n (I5 e a c d b)) c d b):=by kernel_rfl
  exact hK.trans (by rw [e0];rfl)
theorem Ahr (N:Nat) (a:LA) (e:Bool) (f:LA) (g:Bool) (F:KF R):Ab Tryz.prog muts (Y7 N) Uu N 58 [(.pagg a e),(.pagg f g)] [] F=(Aaf N a e f g (My F)):=by
 have e1:=funext fun c=>funext fun d=>funext fun b=>(show A09 N F (I5 e a c d b)=_ from (Ap ..).trans (Be9 N F e a N c d b))
 have hK:Ab Tryz.prog muts (Y7 N) Uu N 58 [(.pagg a e),(.pagg f g)] [] F=(Aud N (My F) (fun c d b=>A09 N F (I5 e a c d b)) a e f g):=by kernel_rfl
 rw [Awc]
 exact hK.trans (by rw [e1];rfl)
def Qh (N:Nat) (args:List AV) (h:Ak) (k:KF R):Option R :=
 match args,h with
 | [(.pagg a e),(.pagg f g)],[]=>(Aaf N a e f g (My k))
 | _,_=>none
def A1a (N:Nat):Tw:=⟨Qh N,fun args h k=>by
 unfold Qh;split
 exact twE (Ahr ..) (Ahr ..)
 rfl⟩
theorem Bt9 (N:Nat):Ax Tryz.prog 58 (A1a N):=fun args h res p hh=>by
 change Qh N args h (fun v p=>some (v,p))=_ at hh
 unfold Qh at hh;split at hh
 exact Aa (T:=Y7 N) ⟨Ge N,Aso N,Axr N,B5m N,Baj N,Q5 N,trivial⟩ follows ((Ahr ..).trans hh)
 cases hh
end
end Gx

namespace Gx
open Go Go.Proofs
section
variable {R:Type}
theorem tk3 (x:RatD):List.take 3 x.av=x.av:=rfl
theorem b3 (x:RatD):Nat.ble 3 (List.length x.av)=true:=rfl
theorem c3 (x:RatD):((Nat.beq 0 0)&&((Nat.beq (List.length x.av) 3)&&(Nat.beq 3 3)))=true:=rfl
theorem c4 (x y:RatD):((Nat.beq (List.length x.av) 3)&&((Nat.ble 3 (List.length y.av))&&(!false)))=true:=rfl
theorem c4' (x:RatD):((Nat.beq (List.length x.av) 3)&&(true&&(!false)))=true:=rfl
theorem A43 (x y:RatD):setCells x.av 0 y.av=y.av:=rfl
section
variable {N:Nat} {X:Option R} {K:LA→Option R} {x y:RatD} {o o':Bool} {p q:Rat}
theorem Bua (hx:x.can p) (hy:y.can q) (hf:fit (8*(qm p+qm q)+40) N) (h:∀ d:RatD,d.can (p+q)→K d.av=X):Mi N x.av o y.av o' K=X:=by
  obtain ⟨d,hd,e⟩:=Bi9 (R:=R) (N:=N) (o:=o) (o':=o') hx.ok hy.ok (by rw [hx.m,hy.m];exact hf)
  rw [e];exact h d (by rw [hx.q,hy.q] at hd;exact hd)
theorem Cbx (hx:x.can p) (hy:y.can q) (hf:fit (8*(qm p+qm q)+40) N) (h:∀ d:RatD,d.can (p - q)→K d.av=X):Agx N x.av o y.av o' K=X:=by
  obtain ⟨d,hd,e⟩:=Bys (R:=R) (N:=N) (o:=o) (o':=o') hx.ok hy.ok (by rw [hx.m,hy.m];exact hf)
  rw [e];exact h d (by rw [hx.q,hy.q] at hd;exact hd)
theorem Cby (hx:x.can p) (hy:y.can q) (hf:fit (8*(qm p+qm q)+40) N) (h:∀ d:RatD,d.can (p*q)→K d.av=X):Ash N x.av o y.av o' K=X:=by
  obtain ⟨d,hd,e⟩:=Byt (R:=R) (N:=N) (o:=o) (o':=o') hx.ok hy.ok (by rw [hx.m,hy.m];exact hf)
  rw [e];exact h d (by rw [hx.q,hy.q] at hd;exact hd)
theorem Cbz (hx:x.can p) (hy:y.can q) (hf:fit (8*(qm p+qm q)+40) N) (h:∀ d:RatD,d.can (if p≤q then p else q)→K d.av=X):Bh2 N x.av o y.av o' K=X:=by
  obtain ⟨d,hd,e⟩:=B79 (R:=R) (N:=N) (o:=o) (o':=o') hx.ok hy.ok (by rw [hx.m,hy.m];exact hf)
  rw [e];exact h d (by rw [hx.q,hy.q] at hd;exact hd)
theorem Gt {v:Int} (hv:-9223372036854775808≤v∧v≤9223372036854775807) (hN:4≤N) (h:∀ d:RatD,d.can (v:Rat)→K d.av=X):B0 N v K=X:=by
  obtain ⟨d,hd,e⟩:=Bwd (R:=R) (N:=N) hv hN
  rw [e];exact h d hd
end
theorem Cat {q:Rat}:decide (q.num.sign≤0)=decide (q≤0):=by
  have e:q≤0↔q.num≤0:=by
    rw [Rat.le_iff_sub_nonneg,← Rat.num_nonneg,Rat.sub_eq_add_neg,Rat.zero_add,Rat.neg_num];omega
  rw [decide_eq_decide,e]
  rcases Int.lt_trichotomy q.num 0 with h | h | h
  · rw [Int.sign_eq_neg_one_of_neg h];omega
  · rw [h];simp
  · rw [Int.sign_eq_one_of_pos h];omega
theorem qi {v:Int} (h:-9223372036854775808≤v∧v≤9223372036854775807):qm (v:Rat)≤2:=Cbw (by omega)
def Ot:Rat→List SegD→Rat
  | _,[]=>0
  | Nf,s::r=>if Nf≤0 then 0 else (s.price:Rat)*(if Nf≤(s.width:Rat) then Nf else (s.width:Rat))+Ot (Nf - (if Nf≤(s.width:Rat) then Nf else (s.width:Rat))) r
def sgR (l:List SegD):Prop:=∀ s ∈ l,-1048576≤s.width∧s.width≤1048576∧-1048576≤s.price∧s.price≤1048576
theorem B9x {N:Nat} {X:Option R} {K:LA→Option R} {v:Int} {x:RatD} {q:Rat} {o:Bool} (hv:-9223372036854775808≤v∧v≤9223372036854775807) (hx:x.can q) (hf:fit (8*(2+qm q)+40) N) (h:∀ d:RatD,d.can ((v:Rat)*q)→K d.av=X):Ao6 N v x.av o K=X:=by
  rw [As9];unfold A39 A38
  refine Gt hv (by have:=hf.1;omega) fun d hd=>?_
  simp only [tk3,b3,ct]
  refine Cby hd hx (hf.le (by have:=qi hv;omega)) fun d' hd'=>?_
  simp only [tk3,b3,c3,ct]
  exact h d' hd'
theorem Cau {N:Nat} {X:Option R} {K:LA→Option R} {l:List SegD} {d:Bool} {A:Nat} (hl:sgR l) (h8:l.length≤8) (hA:2≤A) (hf:fit (100*A+6000) N):∀ (m j fuel:Nat) (x y:RatD) (p q:Rat),j+m=l.length→m<fuel→x.can p→y.can q→qm p≤A+3*j→qm q≤2+j*(A+31) →
    (∀ d:RatD,d.can (q+Ot p (l.drop j))→K d.av=X)→E1 N K (l.flatMap SegD.av) l.length d fuel (l.length:Int) (j:Int) x.av y.av=X:=by
  intro m
  induction m with
  | zero =>
    intro j fuel x y p q hj hfu hx hy _ _ hX
    obtain ⟨fuel,rfl⟩:∃ k,fuel=k+1:=⟨fuel - 1,by omega⟩
    rw [E1];unfold Jw
    rw [ltF (by omega),cf]
    simp only [tk3,b3,c3,ct]
    rw [Km (l:=l) (by omega)] at hX
    exact hX y (by rw [Ot,Rat.add_zero];exact hy)
  | succ m ih =>
    intro j fuel x y p q hj hfu hx hy hp hq hX
    obtain ⟨fuel,rfl⟩:∃ k,fuel=k+1:=⟨fuel - 1,by omega⟩
    rw [E1];unfold Jw
    have h:j<l.length:=by omega
    have hj8:j≤8:=by omega
    have hr:=hl l[j] (List.getElem_mem h)
    have hjA:j*(A+31)≤8*(A+31):=Nat.mul_le_mul_right _ hj8
    rw [ltT h,ct,Ac h,ct,Ba7 h]
    have p0:List.take 2 ((AV.int .i64 l[j].width)::(AV.int .i64 l[j].price)::(l.drop (j+1)).flatMap SegD.av)=[(.int .i64 l[j].width),(.int .i64 l[j].price)]:=rfl
    rw [p0,show Nat.ble 2 (List.length ((AV.int .i64 l[j].width)::(AV.int .i64 l[j].price)::(l.drop (j+1)).flatMap SegD.av))=true by simp,ct]
    rw [show ((!d)||Bm [(AV.int .i64 l[j].width),(.int .i64 l[j].price)])=true by cases d<;>rfl,ct]
    rw [show ((Nat.beq (List.length [(AV.int .i64 l[j].width),(.int .i64 l[j].price)]) 2)&&((Nat.ble 2 2)&&(!false)))=true from rfl,ct]
    simp only [tk3,b3,c3,ct,Bts,A4k]
    rw [J4 hx.ok (hf.le (by rw [hx.m];omega)),hx.q,Cat]
    rw [Dw h,Ot] at hX
    by_cases hp0:p≤0
    · rw [decide_eq_true hp0,ct]
      rw [if_pos hp0,Rat.add_zero] at hX
      exact hX y hy
    · rw [decide_eq_false hp0,cf]
      rw [if_neg hp0] at hX
      refine Gt (by omega) (by have:=hf.1;omega) fun wd hwd=>?_
      have hqw:=qi (v:=l[j].width) (by omega)
      have hqp:=qi (v:=l[j].price) (by omega)
      refine Cbz hx hwd (hf.le (by omega)) fun pd hpd=>?_
      simp only [tk3,b3,c3,ct]
      generalize hpart:(if p≤(l[j].width:Rat) then p else (l[j].width:Rat))=part at hpd hX
      have hqpart:qm part≤A+3*j:=by rw [← hpart];split<;>omega
      refine B9x (by omega) hpd (hf.le (by omega)) fun td htd=>?_
      have hqt:qm ((l[j].price:Rat)*part)≤2+(A+3*j):=by have:=Ana (l[j].price:Rat) part;omega
      refine Bua hy htd (hf.le (by omega)) fun ad had=>?_
      rw [c4',ct]
      refine Cbx hx hpd (hf.le (by omega)) fun sd hsd=>?_
      rw [c4',ct,A43,A43]
      rw [wS (by omega)]
      have hqa:qm (q+(l[j].price:Rat)*part)≤2+(j+1)*(A+31):=by
        have:=Fb q ((l[j].price:Rat)*part)
        rw [Nat.add_mul];omega
      have hqs:qm (p - part)≤A+3*(j+1):=by
        rw [← hpart]
        split
        · rw [Rat.sub_self]
          have:qm ((0:Int):Rat)≤2:=qi (by omega)
          have e:((0:Int):Rat)=0:=rfl
          rw [e] at this;omega
        · have:=Xe p (l[j].width:Rat);omega
      refine ih (j+1) fuel sd ad _ _ (by omega) (by omega) hsd had hqs hqa fun d hd=>hX d ?_
      rw [← Rat.add_assoc];exact hd
def RatD.is (x:RatD) (q:Rat) (m:Nat):Prop:=x.ok∧x.q=q∧x.m≤m
theorem RatD.can.is {x:RatD} {q:Rat} {m:Nat} (h:x.can q) (hm:qm q≤m):x.is q m:=⟨h.ok,h.q,by rw [h.m];exact hm⟩
def Apg:RatD:=⟨false,.nil,.nil⟩
theorem Ia {m:Nat}:Apg.is 0 m:=by
  refine ⟨⟨?_,?_⟩,?_,?_⟩
  · intro x hx;simp [Apg,LS.l] at hx
  · intro x hx;simp [Apg,LS.l] at hx
  · simp [Apg,RatD.q,LS.l,Ar,val]
  · simp [Apg,RatD.m,LS.l]
theorem RatD.is.qm {x:RatD} {q:Rat} {m:Nat} (h:x.is q m):qm q≤m+1:=by
  have:=A6y x h.1
  rw [h.2.1] at this;have:=h.2.2;omega
section
variable {N:Nat} {X:Option R} {K:LA→Option R} {K':Int→Option R} {x y:RatD} {o o':Bool} {p q:Rat} {m n:Nat}
theorem Bon (hx:x.is p m) (hy:y.is q n) (hf:fit (8*(m+n)+40) N) (h:∀ d:RatD,d.can (p - q)→K d.av=X):Agx N x.av o y.av o' K=X:=by
  obtain ⟨d,hd,e⟩:=Bys (R:=R) (N:=N) (o:=o) (o':=o') hx.1 hy.1 (hf.le (by have:=hx.2.2;have:=hy.2.2;omega))
  rw [e];exact h d (by rw [hx.2.1,hy.2.1] at hd;exact hd)
theorem B8d (hx:x.is p m) (hy:y.is q n) (hf:fit (4*(m+n)+10) N):E6 N x.av o y.av o' K'=K' (Ahp p q):=by
  rw [Am8 hx.1 hy.1 (hf.le (by have:=hx.2.2;have:=hy.2.2;omega)),hx.2.1,hy.2.1]
theorem Bjc (hx:x.is p m) (hy:y.is q n) (hf:fit (16*(m+n)+100) N):Cf N x.av o y.av o' K'=K' (Ahp p q):=by
  rw [A03 hx.1 hy.1 (hf.le (by have:=hx.2.2;have:=hy.2.2;omega)),hx.2.1,hy.2.1]
theorem B9y (hx:x.is p m) (hy:y.is q n) (hf:fit (16*(m+n)+100) N):Tt N x.av o y.av o' K=K (cqD (p - q)).av:=by
  rw [Bt6 hx.1 hy.1 (hf.le (by have:=hx.2.2;have:=hy.2.2;omega)),hx.2.1,hy.2.1];rfl
theorem B3u (hx:x.is p m) (hy:y.is q n) (hf:fit (16*(m+n)+80) N):Lw N x.av o y.av o' K=K (cqD (p+q)).av:=by
  rw [Bt5 hx.1 hy.1 (hf.le (by have:=hx.2.2;have:=hy.2.2;omega)),hx.2.1,hy.2.1];rfl
theorem Cb0 (hx:x.is p m) (hy:y.is q n) (hf:fit (16*(m+n)+80) N):Aj3 N x.av o y.av o' K=K (cqD (p*q)).av:=by
  rw [B52 hx.1 hy.1 (hf.le (by have:=hx.2.2;have:=hy.2.2;omega)),hx.2.1,hy.2.1];rfl
theorem Ccu (hx:x.is p m) (hy:y.is q n) (hf:fit (16*(m+n)+100) N):A32 N x.av o y.av o' K=K (cqD (if p≤q then p else q)).av:=by
  rw [B53 hx.1 hy.1 (hf.le (by have:=hx.2.2;have:=hy.2.2;omega)),hx.2.1,hy.2.1];rfl
theorem Rw {v:Int} (hv:-9223372036854775808≤v∧v≤9223372036854775807) (hN:4000≤N):Bf N v K=K (cqD (v:Rat)).av:=Bt7 hv hN
end
theorem Hx {q:Rat} {m:Nat} (h:qm q≤m):(cqD q).is q m:=(Bom q).is h
theorem qiI {v:Int} (h:-9223372036854775808≤v∧v≤9223372036854775807):(cqD (v:Rat)).is v 2:=Hx (qi h)
theorem B07 {p q:Rat}:decide (Ahp p q≥0)=decide (q≤p):=by
  rw [decide_eq_decide];unfold Ahp
  by_cases h:p<q
  · rw [if_pos h];simp [Rat.not_le.2 h]
  · rw [if_neg h];have:=Rat.not_lt.1 h;simp only [this,iff_true];split<;>omega
theorem A1b {p q:Rat}:decide (Ahp p q≤0)=decide (p≤q):=by rw [decide_eq_decide];exact Be4
def inQ (p:Rat) (lo hi:Int):Bool:=decide ((lo:Rat)≤p)&&decide (p≤(hi:Rat))
theorem A1c {N:Nat} {K:Bool→Option R} {x:RatD} {p:Rat} {m:Nat} {o:Bool} {lo hi:Int} (hx:x.is p m) (h1:-9223372036854775808≤lo∧lo≤9223372036854775807) (h2:-9223372036854775808≤hi∧hi≤9223372036854775807) (hf:fit (4*(m+2)+10) N) (hN:4≤N):W5 N x.av o lo hi K=K (inQ p lo hi):=by
  rw [A6k];unfold Ban Bam
  rw [b3,ct,tk3]
  refine Gt h1 hN fun a ha=>?_
  rw [B8d hx (ha.is (qi h1)) hf,B07]
  refine (congrArg (cond _ · _) (Gt (X:=K (decide (p≤(hi:Rat)))) h2 hN fun b hb=>?_)).trans ?_
  · rw [B8d hx (hb.is (qi h2)) hf,A1b];rfl
  · unfold inQ;cases decide ((lo:Rat)≤p)<;>rfl
theorem B3v {N:Nat} {K:Bool→Option R} {x:RatD} {p:Rat} {m:Nat} {o:Bool} {lo hi:Int} (hx:x.is p m) (h1:-9223372036854775808≤lo∧lo≤9223372036854775807) (h2:-9223372036854775808≤hi∧hi≤9223372036854775807) (hf:fit (16*(m+2)+100) N) (hN:4000≤N):Ahq N x.av o lo hi K=K (inQ p lo hi):=by
  rw [A07];unfold A06 A05
  rw [b3,ct,tk3,Rw h1 hN,Bjc hx (qiI h1) hf,B07,Rw h2 hN,Bjc hx (qiI h2) hf,A1b]
  unfold inQ;cases decide ((lo:Rat)≤p)<;>rfl
theorem Bub {N:Nat} {X:Option R} {K:LA→Option R} {u:UnitD} {x:RatD} {o o':Bool} {p:Rat} {m:Nat} (hx:x.is p m) (hl:sgR u.segs.l) (h8:u.segs.l.length≤8) (hu:-1048576≤u.min∧u.min≤1048576) (hf:fit (100*(m+8)+6000) N)
    (h:∀ d:RatD,d.can (Ot (p - (u.min:Rat)) u.segs.l)→K d.av=X):Iv N u.av o x.av o' K=X:=by
  rw [Ag4];unfold Aa0 Aaz
  rw [b3,ct,tk3,u2]
  refine Gt (by omega) (by have:=hf.1;omega) fun a ha=>?_
  refine Bon hx (ha.is (qi (by omega))) (hf.le (by omega)) fun r hr=>?_
  rw [c3,ct]
  refine Gt (by omega) (by have:=hf.1;omega) fun z hz=>?_
  rw [c3,ct,u4]
  have hq:qm (p - (u.min:Rat))≤m+4:=by have:=Xe p (u.min:Rat);have:=hx.qm;have:=qi (v:=u.min) (by omega);omega
  refine Cau (A:=m+4) hl h8 (by omega) (hf.le (by omega)) u.segs.l.length 0 N r z (p - (u.min:Rat)) ((0:Int):Rat) (by omega) (by have:=hf.1;omega) hr hz (by omega) (by have:=qi (v:=0) (by omega);omega) fun d hd=>?_
  exact h d (by rw [List.drop_zero,show (((0:Int):Rat))=0 from rfl,Rat.zero_add] at hd;exact hd)
end
end Gx

namespace Gx
open Go Go.Proofs
section
variable {R:Type}
def Bfa:Rat→List SegD→Rat
  | _,[]=>0
  | Nf,s::r=>(if Nf≤(s.width:Rat) then Nf else (s.width:Rat))*(s.price:Rat)+Bfa (Nf - (if Nf≤(s.width:Rat) then Nf else (s.width:Rat))) r
theorem Buc:∀ {l:List SegD},(∀ s ∈ l,0≤s.width)→Bfa 0 l=0
  | [],_=>rfl
  | s::r,h=>by
    have h0:(0:Rat)≤(s.width:Rat):=by
      have:=h s (by simp);exact_mod_cast this
    rw [Bfa,if_pos h0,Rat.zero_mul,Rat.sub_self,Buc fun s hs=>h s (by simp [hs]),Rat.add_zero]
theorem B3w:∀ {l:List SegD} {p:Rat},(∀ s ∈ l,0≤s.width)→0≤p→Bfa p l=Ot p l
  | [],_,_,_=>rfl
  | s::r,p,h,hp=>by
    have h0:(0:Rat)≤(s.width:Rat):=by
      have:=h s (by simp);exact_mod_cast this
    rw [Ot]
    by_cases hz:p≤0
    · have:p=0:=Rat.le_antisymm hz hp
      subst this
      rw [if_pos (Rat.le_refl),Buc h]
    · rw [if_neg hz,Bfa,Rat.mul_comm,B3w (fun s hs=>h s (by simp [hs]))]
      split
      · rw [Rat.sub_self];exact Rat.le_refl
      · rename_i hn
        exact (Rat.le_iff_sub_nonneg _ _).1 (Rat.le_of_lt (Rat.not_le.1 hn))
theorem B9z {N:Nat} {K:LA→Option R} {u:UnitD} {d:Bool} {A:Nat} (hl:sgR u.segs.l) (h8:u.segs.l.length≤8) (hA:2≤A) (hf:fit (200*A+12000) N) (hN:4000≤N):∀ (m j fuel:Nat) (p q:Rat),j+m=u.segs.l.length→m<fuel→qm p≤A+3*j→qm q≤2+j*(A+31) →
    I4 N K d u.av fuel (j:Int) (cqD p).av (cqD q).av=K (cqD (q+Bfa p (u.segs.l.drop j))).av:=by
  intro m
  induction m with
  | zero =>
    intro j fuel p q hj hfu _ _
    obtain ⟨fuel,rfl⟩:∃ k,fuel=k+1:=⟨fuel - 1,by omega⟩
    rw [I4];unfold Qg
    rw [u4,ltF (by omega),cf,Km (l:=u.segs.l) (by omega),Bfa,Rat.add_zero];rfl
  | succ m ih =>
    intro j fuel p q hj hfu hp hq
    obtain ⟨fuel,rfl⟩:∃ k,fuel=k+1:=⟨fuel - 1,by omega⟩
    rw [I4];unfold Qg
    have h:j<u.segs.l.length:=by omega
    have hj8:j≤8:=by omega
    have hr:=hl u.segs.l[j] (List.getElem_mem h)
    have hjA:j*(A+31)≤8*(A+31):=Nat.mul_le_mul_right _ hj8
    rw [u4,ltT h,ct]
    simp only [b3,tk3,ct,u4]
    rw [Ac h,ct,Ba7 h,Bv,Rw (by omega) hN]
    have hqw:=qi (v:=u.segs.l[j].width) (by omega)
    have hqp:=qi (v:=u.segs.l[j].price) (by omega)
    rw [Ccu (Hx hp) (Hx hqw) (hf.le (by omega))]
    rw [Dw h,Bfa]
    generalize hpart:(if p≤(u.segs.l[j].width:Rat) then p else (u.segs.l[j].width:Rat))=part
    have hqpart:qm part≤A+3*j:=by rw [← hpart];split<;>omega
    simp only [b3,tk3,c3,ct]
    rw [show ∀ r:List AV,List.drop 1 ((AV.int .i64 u.segs.l[j].width)::(AV.int .i64 u.segs.l[j].price)::r)=(AV.int .i64 u.segs.l[j].price)::r from fun _=>rfl,Bv,Rw (by omega) hN]
    rw [Cb0 (Hx hqpart) (Hx hqp) (hf.le (by omega))]
    have hqt:qm (part*(u.segs.l[j].price:Rat))≤2+(A+3*j):=by have:=Ana part (u.segs.l[j].price:Rat);omega
    rw [B3u (Hx hq) (Hx hqt) (hf.le (by omega))]
    rw [c4',ct,B9y (Hx hp) (Hx hqpart) (hf.le (by omega)),c4',ct,A43,A43,wS (by omega)]
    have hqa:qm (q+part*(u.segs.l[j].price:Rat))≤2+(j+1)*(A+31):=by
      have:=Fb q (part*(u.segs.l[j].price:Rat))
      rw [Nat.add_mul];omega
    have hqs:qm (p - part)≤A+3*(j+1):=by
      rw [← hpart]
      split
      · rw [Rat.sub_self]
        have:qm ((0:Int):Rat)≤2:=qi (by omega)
        have e:((0:Int):Rat)=0:=rfl
        rw [e] at this;omega
      · have:=Xe p (u.segs.l[j].width:Rat);omega
    rw [ih (j+1) fuel _ _ (by omega) (by omega) hqs hqa,Rat.add_assoc]
theorem B08 {N:Nat} {K:LA→Option R} {u:UnitD} {x:RatD} {o o':Bool} {p:Rat} {m:Nat} (hx:x.is p m) (hl:sgR u.segs.l) (h8:u.segs.l.length≤8) (hu:-1048576≤u.min∧u.min≤1048576) (hf:fit (200*(m+8)+12000) N) (hN:4000≤N) :
    Aaf N u.av o x.av o' K=K (cqD (Bfa (p - (u.min:Rat)) u.segs.l)).av:=by
  rw [Awc];unfold Aue Aud
  rw [b3,ct,tk3,u2,Rw (by omega) hN,B9y hx (qiI (by omega)) (hf.le (by omega)),Bbc,c3,ct,show cq 0=(cqD 0).av from rfl,c3,ct]
  have hq:qm (p - (u.min:Rat))≤m+4:=by have:=Xe p (u.min:Rat);have:=hx.qm;have:=qi (v:=u.min) (by omega);omega
  have h0:qm (0:Rat)≤2:=qi (v:=0) (by omega)
  have:=B9z (K:=K) (d:=o) (A:=m+4) hl h8 (by omega) (hf.le (by omega)) hN u.segs.l.length 0 N (p - (u.min:Rat)) 0 (by omega) (by have:=hf.1;omega) (by omega) (by omega)
  rw [List.drop_zero,Rat.zero_add] at this
  exact this
theorem A4p {u:UnitD} {h:Int} (hv:Ei u h=true):(0≤u.min∧u.min≤1048576)∧(0≤u.max∧u.max≤1048576)∧u.min≤u.max:=by
  simp only [Ei,Bool.and_eq_true,inR,decide_eq_true_eq] at hv
  exact ⟨hv.2.2.1,hv.2.2.2.1,hv.2.2.2.2.2.2.2.1⟩
theorem Mz {u:UnitD} {h:Int} (hv:Ei u h=true):u.segs.l.length≤8∧Aho (-1048576) u.segs.l=true∧Bi3 u.segs.l=u.max - u.min:=by
  simp only [Ei,Bool.and_eq_true] at hv
  have:=hv.2.2.2.2.2.2.2.2.2.2.2.2.2.2.2.1
  simpa [Bmi] using this
theorem B09:∀ {l:List SegD} {p:Int},Aho p l=true→(∀ s ∈ l,1≤s.width∧s.width≤1048576∧-1048576≤s.price∧s.price≤1048576)
  | [],_,_,_,hs=>by simp at hs
  | a::r,p,h,s,hs=>by
    simp only [Aho,Bool.and_eq_true,inR,decide_eq_true_eq] at h
    rcases List.mem_cons.1 hs with rfl | hs
    · omega
    · exact B09 h.2.2.2 s hs
theorem Ae1 {u:UnitD} {h:Int} (hv:Ei u h=true):sgR u.segs.l:=fun s hs=>by
  have:=B09 (Mz hv).2.1 s hs;omega
def scE (u:UnitD) (p:Rat):Int:=cond (Ei u 24) (cond (inQ p u.min u.max) 0 3) 1
def scQ (u:UnitD) (p:Rat):Rat:=cond (Ei u 24&&inQ p u.min u.max) (Ot (p - (u.min:Rat)) u.segs.l) 0
theorem Bud {A:Nat}:∀ (l:List SegD) (p:Rat),sgR l→2≤A→qm p≤A→qm (Ot p l)≤2+l.length*(A+3*l.length+31)
  | [],p,_,_,_=>by
    have:qm (0:Rat)≤2:=qi (v:=0) (by omega)
    rw [Ot];simpa using this
  | s::r,p,hs,hA,hp=>by
    have hr:=hs s (by simp)
    have hqw:=qi (v:=s.width) (by omega)
    have hqp:=qi (v:=s.price) (by omega)
    have h0:qm (0:Rat)≤2:=qi (v:=0) (by omega)
    rw [Ot]
    split
    · omega
    · generalize hpart:(if p≤(s.width:Rat) then p else (s.width:Rat))=part
      have hqpart:qm part≤A:=by rw [← hpart];split<;>omega
      have hsub:qm (p - part)≤A+3:=by
        rw [← hpart];split
        · rw [Rat.sub_self];omega
        · have:=Xe p (s.width:Rat);omega
      have h1:=Bud (A:=A+3) r (p - part) (fun s hs'=>hs s (by simp [hs'])) (by omega) hsub
      have h2:=Ana (s.price:Rat) part
      have h3:=Fb ((s.price:Rat)*part) (Ot (p - part) r)
      rw [List.length_cons]
      have:A+3+3*r.length+31=A+3*(r.length+1)+31:=by omega
      rw [this] at h1
      rw [Nat.add_mul];omega
theorem Cb1 {u:UnitD} {p:Rat} {m:Nat} (hp:qm p≤m+1):qm (scQ u p)≤8*m+800:=by
  have h0:qm (0:Rat)≤2:=qi (v:=0) (by omega)
  unfold scQ
  cases hv:Ei u 24 with
  | false=>simp only [Bool.false_and,cond_false];omega
  | true =>
    cases inQ p u.min u.max with
    | false=>simp only [Bool.and_false,cond_false];omega
    | true =>
      simp only [Bool.and_self,cond_true]
      have h1:=A4p hv
      have h2:=Mz hv
      have hq:qm (p - (u.min:Rat))≤m+4:=by have:=Xe p (u.min:Rat);have:=qi (v:=u.min) (by omega);omega
      have:=Bud (A:=m+4) u.segs.l _ (Ae1 hv) (by omega) hq
      have h3:u.segs.l.length*(m+4+3*u.segs.l.length+31)≤8*(m+4+24+31):=Nat.mul_le_mul h2.1 (by omega)
      omega
theorem Bue {N:Nat} {X:Option R} {K:LA→Int→Option R} {u:UnitD} {x:RatD} {o o':Bool} {p:Rat} {m:Nat} (hx:x.is p m) (ha:u.away.l.length≤1000) (hf:fit (200*(m+8)+12000) N) (hN:4000≤N)
    (h:∀ d:RatD,d.is (scQ u p) (8*m+800)→K d.av (scE u p)=X):Mp N u.av o x.av o' K=X:=by
  rw [Ag5];unfold Aa2 Aa1
  simp only [Cz,Bt,ct,b3,tk3,u2,u3]
  rw [Y5 (by omega) (by omega) (by omega)]
  unfold scE at h
  cases hv:Ei u 24 with
  | false =>
    rw [hv] at h
    exact h Apg (by unfold scQ;rw [hv];exact Ia)
  | true =>
    have h1:=A4p hv
    have h2:=Mz hv
    rw [hv] at h
    rw [show (!true)=false from rfl,cf,A1c hx (by omega) (by omega) (hf.le (by omega)) (by omega)]
    cases hi:inQ p u.min u.max with
    | false =>
      rw [hi] at h
      exact h Apg (by unfold scQ;rw [hv,hi];exact Ia)
    | true =>
      rw [hi] at h
      rw [show (!true)=false from rfl,cf]
      refine Bub hx (Ae1 hv) h2.1 (by omega) (hf.le (by omega)) fun d hd=>?_
      rw [c3,ct,tk3,b3,ct]
      have e:scQ u p=Ot (p - (u.min:Rat)) u.segs.l:=by unfold scQ;rw [hv,hi];rfl
      exact h d ((e▸hd:d.can (scQ u p)).is (Cb1 hx.qm))
end
end Gx

namespace Gx
open Go Go.Proofs
section
variable {R:Type}
def B3x (p:Rat):Int→Bool→Rat→List SegD→Bool×Rat
  | _,b,q,[]=>(b,q)
  | a,b,q,s::r=>cond (decide (Ahp p (a:Rat)>0)&&decide (Ahp p ((a+s.width:Int):Rat)≤0)) (B3x p (a+s.width) true (s.price:Rat) r) (B3x p (a+s.width) b q r)
def Bwg (p:Rat):Int→Bool→Rat→List SegD→Bool×Rat
  | _,b,q,[]=>(b,q)
  | a,b,q,s::r=>cond (decide (Ahp p (a:Rat)≥0)&&decide (Ahp p ((a+s.width:Int):Rat)<0)) (Bwg p (a+s.width) true (s.price:Rat) r) (Bwg p (a+s.width) b q r)
theorem Cav {N:Nat} {X:Option R} {K:LA→LA→Bool→Bool→Option R} {l:List SegD} {d:Bool} {x:RatD} {o:Bool} {p:Rat} {m:Nat} (hx:x.is p m) (hl:sgR l) (h8:l.length≤8) (hf:fit (4*(m+2)+10) N) (hN:4000≤N):∀ (k j fuel:Nat) (a:Int) (bl bh:Bool) (ql qh:Rat) (xl xh:RatD),j+k=l.length→k<fuel→(-1048576*((j:Int)+1)≤a∧a≤1048576*((j:Int)+1))→xl.is ql 2→xh.is qh 2 →
    (∀ (y z:RatD),y.is (B3x p a bl ql (l.drop j)).2 2→z.is (Bwg p a bh qh (l.drop j)).2 2→K y.av z.av (B3x p a bl ql (l.drop j)).1 (Bwg p a bh qh (l.drop j)).1=X) →
    D2 N K (l.flatMap SegD.av) l.length d o x.av fuel bl bh a (l.length:Int) (j:Int) xl.av xh.av=X:=by
  intro k
  induction k with
  | zero =>
    intro j fuel a bl bh ql qh xl xh hj hfu ha hl' hh' hX
    obtain ⟨fuel,rfl⟩:∃ k,fuel=k+1:=⟨fuel - 1,by omega⟩
    rw [D2];unfold P7
    rw [ltF (by omega),cf]
    rw [Km (l:=l) (by omega)] at hX
    exact hX xl xh hl' hh'
  | succ k ih =>
    intro j fuel a bl bh ql qh xl xh hj hfu ha hl' hh' hX
    obtain ⟨fuel,rfl⟩:∃ k,fuel=k+1:=⟨fuel - 1,by omega⟩
    rw [D2];unfold P7
    have h:j<l.length:=by omega
    have hr:=hl l[j] (List.getElem_mem h)
    rw [ltT h,ct,Ac h,ct,Ba7 h]
    have p0:List.take 2 ((AV.int .i64 l[j].width)::(AV.int .i64 l[j].price)::(l.drop (j+1)).flatMap SegD.av)=[(.int .i64 l[j].width),(.int .i64 l[j].price)]:=rfl
    rw [p0,show Nat.ble 2 (List.length ((AV.int .i64 l[j].width)::(AV.int .i64 l[j].price)::(l.drop (j+1)).flatMap SegD.av))=true by simp,ct]
    rw [show ((!d)||Bm [(AV.int .i64 l[j].width),(.int .i64 l[j].price)])=true by cases d<;>rfl,ct]
    rw [show ((Nat.beq (List.length [(AV.int .i64 l[j].width),(.int .i64 l[j].price)]) 2)&&((Nat.ble 2 2)&&(!false)))=true from rfl,ct]
    simp only [tk3,b3,ct,Bts,A4k]
    have e1:IntKind.wrap .i64 (a+l[j].width)=a+l[j].width:=i64 (by omega)
    rw [e1]
    refine Gt (by omega) (by omega) fun f1 hf1=>?_
    rw [B8d hx (hf1.is (qi (by omega))) hf]
    refine Gt (by omega) (by omega) fun f2 hf2=>?_
    rw [B8d hx (hf2.is (qi (by omega))) hf]
    rw [Dw h] at hX
    simp only [B3x,Bwg] at hX
    generalize hA:Ahp p (a:Rat)=A at hX ⊢
    generalize hB:Ahp p ((a+l[j].width:Int):Rat)=B at hX ⊢
    have second : ∀ (bl' : Bool) (ql' : Rat) (xl' : RatD), xl'.is ql' 2 →
        (∀ (y z:RatD),y.is (B3x p (a+l[j].width) bl' ql' (l.drop (j+1))).2 2→z.is (cond (decide (A≥0)&&decide (B<0)) (Bwg p (a+l[j].width) true (l[j].price:Rat) (l.drop (j+1))) (Bwg p (a+l[j].width) bh qh (l.drop (j+1)))).2 2→K y.av z.av (B3x p (a+l[j].width) bl' ql' (l.drop (j+1))).1 (cond (decide (A≥0)&&decide (B<0)) (Bwg p (a+l[j].width) true (l[j].price:Rat) (l.drop (j+1))) (Bwg p (a+l[j].width) bh qh (l.drop (j+1)))).1=X) →
        Mq N (D2 N K (l.flatMap SegD.av) l.length d o x.av fuel) K bh A B (l.flatMap SegD.av) l.length d (l.length:Int) (j:Int) o x.av xh.av bl' (a+l[j].width) xl'.av (setCells [(.int .i64 0),(.int .i64 0)] 0 [(.int .i64 l[j].width),(.int .i64 l[j].price)])=X:=by
      intro bl' ql' xl' hxl' hX'
      unfold Mq Aa3
      rw [A4k,wS (by omega)]
      cases hc:(decide (A≥0)&&decide (B<0)) with
      | true =>
        rw [hc] at hX'
        simp only [Bool.and_eq_true] at hc
        rw [hc.1,hc.2]
        refine Gt (by omega) (by omega) fun f3 hf3=>?_
        rw [c4,ct,A43]
        exact ih (j+1) fuel _ _ _ _ _ _ _ (by omega) (by omega) (by omega) hxl' (hf3.is (qi (by omega))) hX'
      | false =>
        rw [hc] at hX'
        have go:=ih (j+1) fuel (a+l[j].width) bl' bh ql' qh xl' xh (by omega) (by omega) (by omega) hxl' hh' hX'
        rw [go]
        cases h1:decide (A≥0) with
        | false=>rfl
        | true =>
          rw [h1,Bool.true_and] at hc
          rw [hc];rfl
    cases hc:(decide (A>0)&&decide (B≤0)) with
    | true =>
      rw [hc] at hX
      simp only [Bool.and_eq_true] at hc
      rw [hc.1,hc.2]
      refine Gt (by omega) (by omega) fun f3 hf3=>?_
      rw [c4',ct,A43]
      exact second true _ f3 (hf3.is (qi (by omega))) hX
    | false =>
      rw [hc] at hX
      rw [second bl ql xl hl' hX]
      cases h1:decide (A>0) with
      | false=>rfl
      | true =>
        rw [h1,Bool.true_and] at hc
        rw [hc];rfl
def mgB (u:UnitD) (p:Rat):Bool:=Ei u 24&&inQ p u.min u.max
def mgL (u:UnitD) (p:Rat):Bool×Rat:=cond (mgB u p) (B3x p u.min false 0 u.segs.l) (false,0)
def mgH (u:UnitD) (p:Rat):Bool×Rat:=cond (mgB u p) (Bwg p u.min false 0 u.segs.l) (false,0)
theorem B3y {N:Nat} {X:Option R} {K:LA→LA→Bool→Bool→Option R} {u:UnitD} {x:RatD} {o o':Bool} {p:Rat} {m:Nat} (hx:x.is p m) (ha:u.away.l.length≤1000) (hf:fit (200*(m+8)+12000) N) (hN:4000≤N)
    (h:∀ y z:RatD,y.is (mgL u p).2 2→z.is (mgH u p).2 2→K y.av z.av (mgL u p).1 (mgH u p).1=X):Aab N u.av o x.av o' K=X:=by
  rw [Av3];unfold Atb Ata
  simp only [Cz,Bt,ct,b3,tk3,u2,u3]
  rw [Y5 (by omega) (by omega) (by omega)]
  unfold mgL mgH mgB at h
  cases hv:Ei u 24 with
  | false =>
    rw [hv] at h
    exact h Apg Apg Ia Ia
  | true =>
    have h1:=A4p hv
    have h2:=Mz hv
    rw [hv,Bool.true_and] at h
    rw [show ((!true)==false)=true from rfl,ct,A1c hx (by omega) (by omega) (hf.le (by omega)) (by omega)]
    cases hi:inQ p u.min u.max with
    | false =>
      rw [hi] at h
      exact h Apg Apg Ia Ia
    | true =>
      rw [hi] at h
      rw [show (cond false true (!true))=false from rfl,cf]
      unfold Ag6 Aa4
      rw [u2,u4]
      exact Cav hx (Ae1 hv) h2.1 (hf.le (by omega)) hN u.segs.l.length 0 N u.min false false 0 0 Apg Apg (by omega) (by omega) (by omega) Ia Ia h
end
end Gx

namespace Gx
open Go Go.Proofs
set_option maxRecDepth 100000
section
variable {R:Type}
def exU:UnitD:={ name:=[],bus:=0,min:=10,max:=40,segs:=.of [⟨20,3⟩,⟨10,5⟩] false false,noLoad:=0,rampUp:=5,rampDown:=10,startRamp:=15,stopRamp:=15,upTime:=0,downTime:=0,startTime:=0,hotCost:=0,coldCost:=0,hotHours:=0,reserve:=0,reservePrice:=0,away:=.nil,state:=2,hours:=1,output:=12 }
theorem Caw {N:Nat} {K:LA→Option R}:Pa N K=K exU.av:=by rw [Aj7];rfl
def s21:List AV:=[.int .i64 2,.int .i64 1]
def s01:List AV:=[.int .i64 0,.int .i64 1]
def B90:List AV:=[.int .i64 2,.int .i64 2,.int .i64 0]
theorem Cax {n:Nat} {o:Bool} {K:LA→Option R}:A4a (n+64) exU.av o K=K []:=by rw [Az7];kernel_rfl
theorem Bfb {n:Nat} {o:Bool} {K:Bool→Option R}:Pc (n+64) exU.av o K=K true:=by
  rw [K7 (by omega)];rfl
theorem B1a {n:Nat} {o:Bool} {K:Int→Int→Option R}:Akp (n+64) exU.av o K=K 1 1:=by
  rw [Az8];unfold Bd5 Bd4
  rw [Cz,ct,Bt,Bfb];kernel_rfl
theorem Cay {n:Nat} {o:Bool} {K:LA→Option R}:Q6 (n+64) exU.av o K=K s21:=by
  rw [Ag9];unfold Aks Akr
  simp only [Cz,ct,Bt,Bfb,B1a];kernel_rfl
theorem Cb2 {n:Nat} {o o':Bool} {K:Int→Option R}:Mr (n+64) exU.av o s21 o' K=K 1:=by
  rw [Aa7];unfold Ada Ac9 T9 P9
  simp only [Cz,ct,Bt,Bfb,B1a];kernel_rfl
theorem B1b {n:Nat} {o:Bool} {K:LA→Nat→Option R}:Yv (n+64) exU.av o s21 false K=K (s01++s21) 2:=by
  rw [A0h];unfold Bea Bd9
  rw [show List.take 2 s21=s21 from rfl]
  simp only [Cz,ct,Bt,Cb2,B1a];kernel_rfl
theorem B91 {N:Nat} {k h v:Int} {o:Bool} {K:Bool→Option R}:Jz N [.int .i64 k,.int .i64 h] o v K=K (k==v):=by
  rw [Ahe];rfl
theorem B62 {n:Nat} {a:Bool} {K:Int→Option R}:Am (n+64) (s01++s21) 2 a false 2 K=K 1:=by
  rw [Bc]
  change Jz _ s01 _ _ _=_
  rw [s01,B91]
  change Jz _ s21 _ _ _=_
  rw [s21,B91];rfl
theorem Caz {n:Nat} {a:Bool} {K:Int→Option R}:Am (n+64) (s01++s21) 2 a false 0 K=K 0:=by
  rw [Bc]
  change Jz _ s01 _ _ _=_
  rw [s01,B91];rfl
theorem Ca0 {n:Nat} {o a b:Bool} {K:Nat→Int→Int→LA→Option R}:Akv (n+64) exU.av o B90 3 a b K=K 3 3 0 (s21++s21++s01):=by
  rw [A0i];unfold Bec Beb
  simp only [Cz,ct,Bt,Bfb,Cax,Cay]
  change Yv _ exU.av _ s21 _ _=_
  rw [B1b]
  change Am _ (s01++s21) 2 _ _ _ _=_
  rw [B62]
  change Yv _ exU.av _ s21 _ _=_
  rw [B1b]
  change Am _ (s01++s21) 2 _ _ _ _=_
  rw [B62]
  change Yv _ exU.av _ s21 _ _=_
  rw [B1b]
  change Am _ (s01++s21) 2 _ _ _ _=_
  rw [Caz]
  kernel_rfl
theorem Cb3 {n:Nat} {o a b:Bool} {K:Nat→LA→Option R}:Ahg (n+64) exU.av o 3 B90 3 a b K=K 3 [.int .i64 10,.int .i64 17,.int .i64 10,.int .i64 22,.int .i64 0,.int .i64 0]:=by
  rw [A0l];kernel_rfl
theorem Cb4 {n:Nat} {o a b:Bool} {K:LA→Option R}:Aac (n+64) exU.av o 3 B90 3 a b [.int .i64 10,.int .i64 17,.int .i64 10,.int .i64 22,.int .i64 0,.int .i64 0] K=K [.int .i64 10,.int .i64 17,.int .i64 10,.int .i64 15,.int .i64 0,.int .i64 0]:=by
  rw [Av5];kernel_rfl
theorem Cb5 {n:Nat} {o a b:Bool} {K:Nat→Int→LA→Option R}:Aad (n+64) exU.av o 3 B90 3 a b K=K 3 0 [.int .i64 10,.int .i64 17,.int .i64 10,.int .i64 15,.int .i64 0,.int .i64 0]:=by
  rw [Av7];unfold Atn Atm
  rw [Cz,ct,Bt,Y5 (by omega) (by decide) (by simp [exU,Sl.l]),show Ei exU 3=true from rfl]
  rw [Ca0]
  unfold Ahk Aa8
  rw [Cz,ct,Bt,Cb3,Cb4]
  kernel_rfl
theorem A1d (q:Rat):Ahp q q=0:=by
  unfold Ahp
  rw [if_neg (Rat.lt_irrefl),if_neg (Rat.lt_irrefl)]
theorem B55 {N:Nat} {K:Bool→Option R} (hf:fit 100000 N):Aae N K=K true:=by
  have hN:4000≤N:=by have:=hf.1;omega
  obtain ⟨n,rfl⟩:∃ n,N=n+64:=⟨N - 64,by omega⟩
  rw [Av8];unfold Atp Ato
  rw [Caw,show ((Nat.beq 0 0)&&((Nat.beq (List.length exU.av) 22)&&(Nat.beq 22 22)))=true from rfl,ct,Cz,ct,Bt,Rw (by omega) hN]
  refine Bue (m:=2) (qiI (by omega)) (by decide) (hf.le (by omega)) hN fun d hd=>?_
  rw [show scE exU ((35:Int):Rat)=0 by kernel_rfl]
  rw [show scQ exU ((35:Int):Rat)=((85:Int):Rat) by kernel_rfl] at hd
  rw [c3,ct,ct,Rw (by omega) hN]
  refine B3y (m:=2) (qiI (by omega)) (by decide) (hf.le (by omega)) hN fun y z hy hz=>?_
  rw [show mgL exU ((30:Int):Rat)=(true,((3:Int):Rat)) by kernel_rfl] at hy ⊢
  rw [show mgH exU ((30:Int):Rat)=(true,((5:Int):Rat)) by kernel_rfl] at hz ⊢
  rw [c3,ct,c3,ct,ct]
  rw [show [(AV.int .i64 2),(.int .i64 2),(.int .i64 0)]=B90 from rfl,Cb5,b3,ct,tk3,Rw (by omega) hN,Bjc hd (qiI (by omega)) (hf.le (by omega)),A1d]
  rw [b3,tk3,Rw (by omega) hN,Bjc hy (qiI (by omega)) (hf.le (by omega)),A1d]
  rw [b3,tk3,Rw (by omega) hN,Bjc hz (qiI (by omega)) (hf.le (by omega)),A1d]
  rfl
end
end Gx

namespace Gx
open Go Go.Proofs
section
variable {R:Type}
theorem B56 {N:Nat} {u:UnitD} {b:Bool} {K:Bool→Option R}:Z5 N u.av b K=K (decide (u.away.l.length≤40)&&decide (u.segs.l.length≤20)):=by
  rw [Avz];unfold Asv Asu
  rw [u18,u4]
  by_cases h:u.away.l.length≤40
  · rw [show (decide ((u.away.l.length:Int)≤40)==true)=true by simp;omega,ct,ctB,decide_eq_true h,Bool.true_and]
    congr 1;rw [decide_eq_decide];omega
  · rw [show (decide ((u.away.l.length:Int)≤40)==true)=false by simp;omega,cf,decide_eq_false h];rfl
variable {N:Nat} {K:Bool→Option R} {a:List UInt8} {b d e:Int} {sg:List SegD} {c:Bool} {g i j l m t u w n o x p q:Int} {aw:List Int} {ab:Bool} {z aa r:Int}
def mkU (a:List UInt8) (b d e:Int) (sg:List SegD) (c:Bool) (g i j l m t u w n o x p q:Int) (aw:List Int) (ab:Bool) (z aa r:Int):UnitD :=
  ⟨a,b,d,e,.of sg false c,g,i,j,l,m,t,u,w,n,o,x,p,q,.of aw false ab,z,aa,r⟩
theorem Cb6:[AV.str a,(.int .i64 b),(.int .i64 d),(.int .i64 e),(.imm (sg.flatMap SegD.av) sg.length 2 false c),(.int .i64 g),(.int .i64 i),(.int .i64 j),(.int .i64 l),(.int .i64 m),(.int .i64 t),(.int .i64 u),(.int .i64 w),(.int .i64 n),(.int .i64 o),(.int .i64 x),(.int .i64 p),(.int .i64 q),(.imm (Hy aw) aw.length 1 false ab),(.int .i64 z),(.int .i64 aa),(.int .i64 r)] =
    (mkU a b d e sg c g i j l m t u w n o x p q aw ab z aa r).av:=by
  rw [← Xc];rfl
end
end Gx

namespace Gx
open Go Go.RowKit
theorem B1c {P:Program} {t:TypeId} (hu:P.underlying t=some .string) (hc:P.cellsOf t=1):Opens P t (α:={ s:List UInt8 // s.length≤maxLen }) (fun s=>[.str s.1]) 1:=by
  refine ⟨hc,by omega,fun _=>rfl,fun enc W fuel cs d ps h=>?_⟩
  obtain ⟨s,rfl,_,hw⟩:=DataW.trod_string hu h
  refine ⟨rfl,⟨s.data.toList,hw⟩,?_⟩
  simp [RepCs,RepC]
theorem Opens.map {P:Program} {t:TypeId} {α β:Type} {e:α→List AV} {n:Nat} (h:Opens P t e n) (e':β→List AV) (g:α→β) (hg:∀ a,e a=e' (g a)) (hl:∀ b,(e' b).length=n):Opens P t e' n:=by
  refine ⟨h.size,h.pos,hl,fun enc W fuel cs d ps ht=>?_⟩
  obtain ⟨h1,a,h2⟩:=h.read enc W fuel cs d ps ht
  exact ⟨h1,g a,by rw [← hg];exact h2⟩
structure OpensF (P:Program) (fs:List Field) (off:Nat) {α:Type} (e:α→List AV) (n:Nat):Prop where
  len:∀ a,(e a).length=n
  read:∀ {H:Type} (enc:TypeId×Value→H) (W:World) (fuel:Nat) (cs:List Value),(∀ (i:Nat) (f:Field),fs[i]?=some f→∃ d ps,DataW.trod enc P W 0 (fun _=>true) true fuel f.type ((cs.drop f.offset).take (P.cellsOf f.type))=some (d,ps)) →
    ∃ a,RepCs (fun k=>k<W.heap.size) W (e a) (fun j=>cs[j]?) off
theorem Ahs {P:Program} {off:Nat}:OpensF P [] off (α:=Unit) (fun _=>[]) 0:=⟨fun _=>rfl,fun _ _ _ _ _=>⟨(),by simp [RepCs]⟩⟩
theorem A1 {P:Program} {f:Field} {fs:List Field} {off:Nat} {α β:Type} {e:α→List AV} {n:Nat} {e':β→List AV} {m:Nat} (ho:f.offset=off) (h1:Opens P f.type e n) (h2:OpensF P fs (off+n) e' m) :
    OpensF P (f::fs) off (α:=α×β) (fun p=>e p.1++e' p.2) (n+m):=by
  refine ⟨fun p=>by rw [List.length_append,h1.len,h2.len],fun enc W fuel cs h=>?_⟩
  obtain ⟨d,ps,hd⟩:=h 0 f rfl
  obtain ⟨hl,a,ha⟩:=h1.read enc W fuel _ _ _ hd
  obtain ⟨b,hb⟩:=h2.read enc W fuel cs fun i g hg=>h (i+1) g (by simpa using hg)
  refine ⟨(a,b),?_⟩
  rw [Cr] at ha hb ⊢
  intro j x hj
  by_cases hjn:j<n
  · rw [List.getElem?_append_left (by rw [h1.len];exact hjn)] at hj
    obtain ⟨u,hu,hr⟩:=ha j x hj
    refine ⟨u,?_,hr⟩
    simp only [Nat.zero_add] at hu
    rw [h1.size,List.getElem?_take_of_lt hjn,List.getElem?_drop,ho] at hu
    exact hu
  · rw [List.getElem?_append_right (by rw [h1.len];omega),h1.len] at hj
    obtain ⟨u,hu,hr⟩:=hb (j - n) x hj
    refine ⟨u,?_,hr⟩
    rw [show off+n+(j - n)=off+j by omega] at hu
    exact hu
theorem Uw {P:Program} {t:TypeId} {fs:Array Field} {α:Type} {e:α→List AV} {n:Nat} (hu:P.underlying t=some (.struct fs)) (hc:P.cellsOf t=n) (hn:0<n) (h:OpensF P fs.toList 0 e n):Opens P t e n:=by
  refine ⟨hc,hn,h.len,fun enc W fuel cs d ps ht=>?_⟩
  obtain ⟨xs,g,_,_,hl,hlen,hf⟩:=DataW.trod_struct hu ht
  refine ⟨by rw [hl,hc],?_⟩
  exact h.read enc W g cs fun i f hi=>by
    have h1:fs[i]?=some f:=by simpa using hi
    have:=hf i f h1
    have hi2:i<xs.length:=by
      rw [hlen];exact (Array.getElem?_eq_some_iff.1 h1).1
    rw [List.getElem?_eq_getElem hi2] at this
    exact ⟨_,_,this⟩
end Gx

namespace Gx
open Go Go.RowKit
section
variable {P:Program} {W:World} {H:Type} {enc:TypeId×Value→H} {β:Cw} {h:Ak}
theorem A61 {t:TypeId} {fs:Array Field} {b0:Nat} {r:Reach} {v:Value} (hu:P.underlying t=some (.struct fs)) (h:Value.okWide P W r b0 t v):∃ cs,v=.agg cs:=by
  unfold Value.okWide at h
  rw [hu] at h
  obtain ⟨cs,h,_⟩:=h
  exact ⟨cs,h⟩
theorem B92 {J:Nat→Prop}:∀ {x:AV} {u:Value},RepC J W x u→Rep (fun _=>J) β h W x u
  | .int ..,_,h=>by rw [Rep];rw [RepC] at h;exact h
  | .bool _,_,h=>by rw [Rep];rw [RepC] at h;exact h
  | .str _,_,h=>by rw [Rep];rw [RepC] at h;exact h
  | .nsl,_,h=>by rw [Rep];rw [RepC] at h;exact h
  | .imm ..,_,h=>by rw [Rep];exact h
  | .iptr ..,_,h=>by rw [Rep];exact h
  | .nilptr,_,h=>by rw [Rep];rw [RepC] at h;exact h
  | .nilfn,_,h=>by rw [Rep];rw [RepC] at h;exact h
  | .fn f [],_,h=>by
    rw [Rep];rw [RepC] at h
    exact ⟨[],by simpa using h,by rw [Reps]⟩
  | .fn _ (_::_),_,h=>by simp [RepC] at h
  | .pagg ..,_,h=>by simp [RepC] at h
  | .agg _,_,h=>by simp [RepC] at h
  | .tup _,_,h=>by simp [RepC] at h
  | .own ..,_,h=>by simp [RepC] at h
  | .omap _,_,h=>by simp [RepC] at h
  | .optr ..,_,h=>by simp [RepC] at h
  | .undef,_,h=>by simp [RepC] at h
theorem B63 {J:Nat→Prop}:∀ {c:List AV} {cs:List Value} {rd:Nat→Option Value} {i:Nat},cs.length=c.length→(∀ j,cs[j]?=rd (i+j))→RepCs J W c rd i→Reps (fun _=>J) β h W c cs
  | [],cs,_,_,hl,_,_=>by rw [Reps];simpa using hl
  | x::r,[],_,_,hl,_,_=>by simp at hl
  | x::r,u::us,rd,i,hl,hr,hc=>by
    rw [RepCs] at hc
    obtain ⟨⟨u',hu',hx⟩,hc⟩:=hc
    have h0:=hr 0
    simp only [List.getElem?_cons_zero,Nat.add_zero] at h0
    rw [← h0] at hu'
    cases hu'
    rw [Reps]
    refine ⟨u,us,rfl,B92 hx,B63 (by simpa using hl) (fun j=>?_) hc⟩
    have:=hr (j+1)
    rw [List.getElem?_cons_succ] at this
    rw [this];congr 1;omega
theorem B64 {c:List AV} {v:Value} (hr:Rep (fun _ k=>k<W.heap.size) β h W (.pagg c false) v):Rep (fun _ k=>k<W.heap.size) β h W (.agg c) v:=by
  rw [Rep] at hr
  obtain ⟨cs,hv,hl,hc⟩:=hr
  rw [Rep]
  exact ⟨cs,hv,B63 hl (fun j=>by rw [Nat.zero_add]) hc⟩
end
end Gx

namespace Gx
open Go Go.Proofs Go.RowKit
section
variable {W:World} {H:Type} {enc:TypeId×Value→H} {β:Cw} {h:Ak}
theorem D6:Opens Tryz.prog 3 B84 1:=(Byi Tryz.underlying3 (by kernel_rfl)).map B84 (fun n=>n.1) (fun _=>rfl) (fun _=>rfl)
theorem B8e:Opens Tryz.prog 79 SegD.av 2 :=
  (Uw Tryz.underlying79 (by kernel_rfl) (by decide) (A1 rfl D6 (A1 rfl D6 Ahs))).map SegD.av (fun p=>⟨p.1,p.2.1⟩) (fun _=>rfl) (fun _=>rfl)
theorem B8f {v:Value} {d:DataW H} {p:List MemPlace} (hv:∃ cs,v=.agg cs) (hd:DataW.Trod enc Tryz.prog W 0 (fun _=>true) true 25 v d p) :
    ∃ (a:List UInt8) (b d e:Int) (sg:List SegD) (g i j l m t u w n o x p q:Int) (aw:List Int) (z aa r:Int),Rep (fun _ k=>k<W.heap.size) β h W (.agg [AV.str a,(.int .i64 b),(.int .i64 d),(.int .i64 e),(.imm (sg.flatMap SegD.av) sg.length 2 false false),(.int .i64 g),(.int .i64 i),(.int .i64 j),(.int .i64 l),(.int .i64 m),(.int .i64 t),(.int .i64 u),(.int .i64 w),(.int .i64 n),(.int .i64 o),(.int .i64 x),(.int .i64 p),(.int .i64 q),(.imm (Hy aw) aw.length 1 false false),(.int .i64 z),(.int .i64 aa),(.int .i64 r)]) v:=by
  obtain ⟨cs,rfl⟩:=hv
  obtain ⟨⟨⟨a, _⟩, b, d, e, ⟨sg, _⟩, g, i, j, l, m, t, u, w, n, o, x, p, q, ⟨aw, _⟩, z, aa, r, _⟩, hr⟩ := B3f (β := β) (h := h) (Uw (P := Tryz.prog) Tryz.underlying25 (by kernel_rfl) (by decide)
      (A1 rfl (B1c Tryz.underlying9 (by kernel_rfl)) (A1 rfl D6 (A1 rfl D6 (A1 rfl D6
      (A1 rfl (Rt Tryz.underlying22 (by kernel_rfl) B8e)
      (A1 rfl D6 (A1 rfl D6 (A1 rfl D6 (A1 rfl D6 (A1 rfl D6 (A1 rfl D6 (A1 rfl D6 (A1 rfl D6 (A1 rfl D6 (A1 rfl D6 (A1 rfl D6 (A1 rfl D6 (A1 rfl D6
      (A1 rfl (Rt Tryz.underlying23 (by kernel_rfl) D6)
      (A1 rfl D6 (A1 rfl D6 (A1 rfl D6 Ahs))))))))))))))))))))))) hd
  refine ⟨a,b,d,e,sg,g,i,j,l,m,t,u,w,n,o,x,p,q,aw,z,aa,r,?_⟩
  rw [← Xc]
  exact B64 hr
end
end Gx

namespace Gx
open Go Go.Proofs Go.RowKit
theorem B93 {n:Int} (h:(Lit.int .u32 n).wf=true):0≤n∧n<4294967296:=by
  simp only [Lit.wf,Bool.and_eq_true,decide_eq_true_eq,show IntKind.u32.min=0 from rfl,show IntKind.u32.max=4294967295 from rfl] at h;omega
section
variable {W:World} {H:Type} {enc:TypeId×Value→H} {β:Cw} {h:Ak}
theorem B57:Opens Tryz.prog 113 (α:={ n:Nat // n<4294967296 }) (fun n=>[.int .u32 (n.1:Int)]) 1 :=
  (Byi Tryz.underlying113 (by kernel_rfl)).map _ (fun n=>⟨n.1.toNat,by have:=B93 n.2;omega⟩) (fun n=>by have:=B93 n.2;simp;omega) (fun _=>rfl)
theorem Byy:∀ l:List { n:Nat // n<4294967296 },l.flatMap (fun n=>[AV.int .u32 (n.1:Int)])=Ae (l.map (·.1))
  | []=>rfl
  | a::r=>by rw [List.flatMap_cons,Byy r];rfl
theorem Bmo:Opens Tryz.prog 33 (α:={ l:List Nat // Ah l }) (fun l=>[.imm (Ae l.1) l.1.length 1 false false]) 1 :=
  (Rt Tryz.underlying33 (by kernel_rfl) B57).map _ (fun l=>⟨l.1.map (·.1),fun x hx=>by obtain ⟨y,_,rfl⟩:=List.mem_map.1 hx;exact y.2⟩) (fun l=>by show [AV.imm (l.1.flatMap (fun n=>[AV.int .u32 (n.1:Int)])) l.1.length 1 false false]=[AV.imm (Ae (l.1.map (·.1))) (l.1.map (·.1)).length 1 false false];rw [Byy,List.length_map]) (fun _=>rfl)
theorem Byz:Opens Tryz.prog 37 (α:={ x:RatD // x.ok }) (fun x=>x.1.av) 3 :=
  (Uw Tryz.underlying37 (by kernel_rfl) (by decide) (A1 rfl (Uw Tryz.underlying35 (by kernel_rfl) (by decide) (A1 rfl (B5u Tryz.underlying4 (by kernel_rfl)) (A1 rfl Bmo Ahs)))
    (A1 rfl Bmo Ahs))).map _ (fun p=>⟨⟨p.1.1,.of p.1.2.1.1 false false,.of p.2.1.1 false false⟩,p.1.2.1.2,p.2.1.2⟩) (fun _=>rfl) (fun _=>rfl)
end
end Gx

namespace Gx
open Go Go.Proofs
set_option maxRecDepth 100000
noncomputable section
variable {R:Type}
def Bbd (N:Nat) (r0:Bool→Option R)  (a:LA) (b:Bool) (c:Int):Option R :=
 (cond (Nat.ble 3 (List.length a)) (B0 N c (fun e=>(E6 N (List.take 3 a) b e false (fun f=>(r0 (decide (f≤(0:Int)))))))) none)
def Bbe (N:Nat) (a:LA) (b:Bool) (c:Int) (r0:Bool→Option R):Option R:=(Bbd N r0 a b c)
def Oc:=(Ai (@Bbe R)).1
theorem A62:@Oc R=@Bbe R:=(Ai _).2
def Bfc:Hints:={ H:=(hS (hR [1,2]) (hS (hR [4]) hL)),nils:=[],modes:=[],free:=[],cob:=[] }
def A1e (N:Nat):List (Nat×Tw):=[(60,Dy N),(59,Ky N)]
def Auf  (F:KF R):Bool→Option R:=(fun g=>F (.bool g) [])
theorem Aug (N:Nat) (a:LA) (b:Bool) (c:Int) (F:KF R):Ab Tryz.prog muts (A1e N) Bfc N 125 [(.pagg a b),(.int .i64 c)] [] F=(Oc N a b c (Auf F)):=by
 have hK:Ab Tryz.prog muts (A1e N) Bfc N 125 [(.pagg a b),(.int .i64 c)] [] F=(Bbd N (Auf F) a b c):=by kernel_rfl
 rw [A62]
 exact hK
def Y9 (N:Nat) (args:List AV) (h:Ak) (k:KF R):Option R :=
 match args,h with
 | [(.pagg a b),(.int .i64 c)],[]=>(Oc N a b c (Auf k))
 | _,_=>none
def Auh (N:Nat):Tw:=⟨Y9 N,fun args h k=>by
 unfold Y9;split
 exact twE (Aug ..) (Aug ..)
 rfl⟩
theorem Bfd (N:Nat):Ax Tryz.prog 125 (Auh N):=fun args h res d hh=>by
 change Y9 N args h (fun v d=>some (v,d))=_ at hh
 unfold Y9 at hh;split at hh
 exact Aa (T:=A1e N) ⟨Ek N,O7 N,trivial⟩ follows ((Aug ..).trans hh)
 cases hh
def Aht (N:Nat) (r0:Bool→Option R)  (c:LA) (g f:Bool) (a:LA) (d:Bool) (b:LA) (e:Bool):Option R :=
 (cond (!f) (cond (Nat.ble 3 (List.length a)) (Po N (List.take 3 a) d (fun j=>(cond ((j==(0:Int))==true) (cond (Nat.ble 3 (List.length b)) (Po N (List.take 3 b) e (fun l=>(r0 (cond true (l==(0:Int)) false)))) none) (r0 false)))) none) (cond (Nat.ble 3 (List.length a)) (rdI .i64 (List.drop 2 c) fun m=>(B0 N m (fun n=>(E6 N (List.take 3 a) d n false (fun o=>(cond ((decide (o≥(0:Int)))==true) (cond (Nat.ble 3 (List.length b)) (rdI .i64 (List.drop 16 c) fun p=>(W5 N (List.take 3 b) e 0 p (fun q=>(cond ((cond true q false)==true) (cond (Nat.ble 3 (List.length a)) (cond (Nat.ble 3 (List.length b)) (Mi N (List.take 3 a) d (List.take 3 b) e (fun r=>(rdI .i64 (List.drop 3 c) fun s=>(Oc N r false s (fun t=>(r0 (cond true t false))))))) none) none) (r0 false))))) none) (r0 false))))))) none))
def Ahu (N:Nat) (c:LA) (g f:Bool) (a:LA) (d:Bool) (b:LA) (e:Bool) (r0:Bool→Option R):Option R:=(Aht N r0 c g f a d b e)
def Pe:=(Ai (@Ahu R)).1
theorem Ak5:@Pe R=@Ahu R:=(Ai _).2
def Aph:Hints:={ H:=(hS (hR [1,4,6,7]) (hS (hS (hR [4,6,7,10]) (hN [4,6,7] (hS (hR [8]) hL) hL)) (hS (hR [8]) hL))),nils:=[],modes:=[],free:=[],cob:=[] }
def Aba (N:Nat):List (Nat×Tw):=[(95,Af0 N),(60,Dy N),(59,Ky N),(56,Ac7 N),(81,Wx N),(125,Auh N)]
def Xf  (F:KF R):Bool→Option R:=(fun u=>F (.bool u) [])
theorem Xg (N:Nat) (c:LA) (g f:Bool) (a:LA) (d:Bool) (b:LA) (e:Bool) (F:KF R):Ab Tryz.prog muts (Aba N) Aph N 76 [(.pagg c g),(.bool f),(.pagg a d),(.pagg b e)] [] F=(Pe N c g f a d b e (Xf F)):=by
 have hK:Ab Tryz.prog muts (Aba N) Aph N 76 [(.pagg c g),(.bool f),(.pagg a d),(.pagg b e)] [] F=(Aht N (Xf F) c g f a d b e):=by kernel_rfl
 rw [Ak5]
 exact hK
def L0 (N:Nat) (args:List AV) (h:Ak) (k:KF R):Option R :=
 match args,h with
 | [(.pagg c g),(.bool f),(.pagg a d),(.pagg b e)],[]=>(Pe N c g f a d b e (Xf k))
 | _,_=>none
def Api (N:Nat):Tw:=⟨L0 N,fun args h k=>by
 unfold L0;split
 exact twE (Xg ..) (Xg ..)
 rfl⟩
theorem Bjd (N:Nat):Ax Tryz.prog 76 (Api N):=fun args h res i hh=>by
 change L0 N args h (fun v i=>some (v,i))=_ at hh
 unfold L0 at hh;split at hh
 exact Aa (T:=Aba N) ⟨Are N,Ek N,O7 N,As8 N,Aer N,Bfd N,trivial⟩ follows ((Xg ..).trans hh)
 cases hh
def Xh (N:Nat)  (r0:Bool→Option R) (e f j:Bool) (b:LA) (d:Bool) (a:LA) (g:Bool) (c i:LA)   (l:Bool):Option R :=
 (cond l (cond (Nat.ble 3 (List.length i)) (cond (Nat.ble 3 (List.length a)) (Agx N (List.take 3 i) false (List.take 3 a) d (fun p=>(rdI .i64 (List.drop 6 b) fun q=>(Oc N p false q (fun r=>(cond (r==true) (cond (Nat.ble 3 (List.length a)) (cond (Nat.ble 3 (List.length c)) (Agx N (List.take 3 a) d (List.take 3 c) g (fun t=>(rdI .i64 (List.drop 7 b) fun u=>(Oc N t false u (fun w=>(r0 (cond true w false))))))) none) none) (r0 false))))))) none) none) (cond f (cond (Nat.ble 3 (List.length i)) (rdI .i64 (List.drop 8 b) fun x=>(Oc N (List.take 3 i) false x (fun y=>(r0 y)))) none) (cond e (cond (Nat.ble 3 (List.length a)) (rdI .i64 (List.drop 9 b) fun z=>(Oc N (List.take 3 a) d z (fun aa=>(r0 aa)))) none) (r0 true))))
def Abb (N:Nat)  (r0:Bool→Option R) (e f j:Bool) (b:LA) (d:Bool) (a:LA) (g:Bool) (c i:LA) (l:Bool):Option R:=(Xh N r0 e f j b d a g c i l)
def And (N:Nat) (r0:Bool→Option R) (q0:LA→Bool→Option R) (b:LA) (j e f:Bool) (a:LA) (d:Bool) (c:LA) (g:Bool) (m:LA) (n:Bool):Option R :=
 (cond (Nat.ble 3 (List.length c)) (cond (Nat.ble 3 (List.length m)) (Mi N (List.take 3 c) g (List.take 3 m) n (fun i=>(cond ((Nat.beq 0 0)&&((Nat.beq (List.length i) 3)&&(Nat.beq 3 3))) (cond (f==true) (q0 i (cond true e false)) (q0 i false)) none))) none) none)
def Ane (N:Nat) (b:LA) (j e f:Bool) (a:LA) (d:Bool) (c:LA) (g:Bool) (m:LA) (n:Bool) (r0:Bool→Option R):Option R:=(And N r0 (fun i l=>(Abb N r0 e f j b d a g c i l)) b j e f a d c g m n)
def Ux:=(Ai (@Ane R)).1
theorem Apj:@Ux R=@Ane R:=(Ai _).2
def Qi:Hints:={ H:=(hS (hR [1,2,6,9,10,11]) (hS (hR [1,2,6,9,10,13]) (hS (hS (hJ (hR [1,2,6,9,10,13,17]) (hS (hS (hR [12]) hL) (hS (hR [1,6,9,13,36]) (hS (hS (hR [12]) hL) (hS (hR [6,9,42]) (hS (hS (hR [12]) hL) hL)))))) hL) (hS (hR [12]) hL)))),nils:=[],modes:=[],free:=[],cob:=[] }
def Uy (N:Nat):List (Nat×Tw):=[(81,Wx N),(83,A3x N),(125,Auh N)]
def Uz (N:Nat):Env:=mkE 48 Qi (Uy N)
def Bje (N:Nat) (F:KF R):=Ao (Uz N) Tryz.f77 Qi.modes [] F
def Awd (N:Nat) (F:KF R):=atF (Uz N) [] N Tryz.f77 Qi (Bje N F)
def Kn  (F:KF R):Bool→Option R:=(fun ab=>F (.bool ab) [])
def Qj (e f j:Bool) (b:LA) (d:Bool) (a:LA) (g:Bool) (c i:LA) (l:Bool):St:={ s:=[(1,(.bool e)),(2,(.bool f)),(6,(.optr 96 0)),(9,(.optr 144 0)),(10,(.optr 160 0)),(13,(.optr 208 0)),(17,(.bool l))],h:=[(96,⟨false,false,true,j,0,b,false⟩),(144,⟨false,false,true,d,0,a,false⟩),(160,⟨false,false,true,g,0,c,false⟩),(208,⟨false,false,true,false,0,i,false⟩)] }
def Awe (N:Nat) (F:KF R):St→Option R:=Cg (Uz N) [] N (Awd N F [1,1,0,0,1] [])
def Awf (N:Nat) (F:KF R):St→Option R:=Ck (Uz N) [] N (Awd N F [1,1,0,0,1] [])
theorem Bbf (N:Nat)  (F:KF R) (e f j:Bool) (b:LA) (d:Bool) (a:LA) (g:Bool) (c i:LA):∀ (l:Bool),Awf N F (Qj e f j b d a g c i l)=(Abb N (Kn F) e f j b d a g c i l):=by
 intro l
 have hK:Awf N F (Qj e f j b d a g c i l)=(Xh N (Kn F) e f j b d a g c i l):=by kernel_rfl
 exact hK
theorem Abc (N:Nat) (b:LA) (j e f:Bool) (a:LA) (d:Bool) (c:LA) (g:Bool) (m:LA) (n:Bool) (F:KF R):Ab Tryz.prog muts (Uy N) Qi N 77 [(.pagg b j),(.bool e),(.bool f),(.pagg a d),(.pagg c g),(.pagg m n)] [] F=(Ux N b j e f a d c g m n (Kn F)):=by
 have e1:=funext fun i=>funext fun l=>(show Awe N F (Qj e f j b d a g c i l)=_ from (Aw ..).trans (Bbf N F e f j b d a g c i l))
 have hK:Ab Tryz.prog muts (Uy N) Qi N 77 [(.pagg b j),(.bool e),(.bool f),(.pagg a d),(.pagg c g),(.pagg m n)] [] F=(And N (Kn F) (fun i l=>Awe N F (Qj e f j b d a g c i l)) b j e f a d c g m n):=by kernel_rfl
 rw [Apj]
 exact hK.trans (by rw [e1];rfl)
def Od (N:Nat) (args:List AV) (h:Ak) (k:KF R):Option R :=
 match args,h with
 | [(.pagg b j),(.bool e),(.bool f),(.pagg a d),(.pagg c g),(.pagg m n)],[]=>(Ux N b j e f a d c g m n (Kn k))
 | _,_=>none
def Awg (N:Nat):Tw:=⟨Od N,fun args h k=>by
 unfold Od;split
 exact twE (Abc ..) (Abc ..)
 rfl⟩
theorem Bnv (N:Nat):Ax Tryz.prog 77 (Awg N):=fun args h res o hh=>by
 change Od N args h (fun v o=>some (v,o))=_ at hh
 unfold Od at hh;split at hh
 exact Aa (T:=Uy N) ⟨Aer N,Bh1 N,Bfd N,trivial⟩ follows ((Abc ..).trans hh)
 cases hh
def Aui (N:Nat) (k1:Bool→Int→Bool→LA→Option R) (r0:Int→Int→Option R) (c j l:Int) (i:Bool) (d:Int) (f:Bool) (a:LA) (e:Bool) (b:LA) (g:Bool)   (o:LA):Option R :=
 (rdL 1 b fun z aa=>(cond (Aj d aa) (rdI .i64 (List.drop ((Int.toNat d)*1) z) fun p=>(cond (Nat.ble 22 (List.length a)) (rdL 3 (List.drop 1 b) fun r ab=>(cond (Aj d ab) (cond (Nat.ble 3 (List.length (List.drop ((Int.toNat d)*3) r))) (rdL 3 (List.drop 2 b) fun t ac=>(cond (Aj d ac) (cond (Nat.ble 3 (List.length (List.drop ((Int.toNat d)*3) t))) (Pe N (List.take 22 a) f (p==(2:Int)) (List.take 3 (List.drop ((Int.toNat d)*3) r)) e (List.take 3 (List.drop ((Int.toNat d)*3) t)) e (fun ad=>(cond (!ad) (r0 d 3) (cond (Nat.ble 22 (List.length a)) (cond (Nat.ble 3 (List.length o)) (rdL 3 (List.drop 1 b) fun u ae=>(cond (Aj d ae) (cond (Nat.ble 3 (List.length (List.drop ((Int.toNat d)*3) u))) (rdL 3 (List.drop 2 b) fun w af=>(cond (Aj d af) (cond (Nat.ble 3 (List.length (List.drop ((Int.toNat d)*3) w))) (Ux N (List.take 22 a) f i (p==(2:Int)) (List.take 3 o) g (List.take 3 (List.drop ((Int.toNat d)*3) u)) e (List.take 3 (List.drop ((Int.toNat d)*3) w)) e (fun ag=>(cond (!ag) (r0 d 64) (rdL 3 (List.drop 1 b) fun q ah=>(cond (Aj d ah) (cond (Nat.ble 3 (List.length (List.drop ((Int.toNat d)*3) q))) (cond ((Nat.beq (List.length (List.take 3 (List.drop ((Int.toNat d)*3) q))) 3)&&((Nat.ble 3 (List.length o))&&(!false))) (k1 (p==(2:Int)) (IntKind.wrap .i64 (d+(1:Int))) (g||e) (setCells o 0 (List.take 3 (List.drop ((Int.toNat d)*3) q)))) none) none) none))))) none) none)) none) none)) none) none)))) none) none)) none) none)) none)) none))
def Ak6 (N:Nat) (k1:Bool→Int→Bool→LA→Option R) (r0:Int→Int→Option R) (c j l:Int) (i:Bool) (d:Int) (f:Bool) (a:LA) (e:Bool) (b:LA) (g:Bool) (o:LA):Option R:=(Aui N k1 r0 c j l i d f a e b g o)
def Adm (N:Nat)  (r0:Int→Int→Option R) (c j l:Int) (f:Bool) (a:LA) (e:Bool) (b:LA) (k1:Bool→Int→Bool→LA→Option R) (q2:LA→Option R) (i:Bool) (d:Int) (g:Bool) (m:LA):Option R :=
 (cond (decide (d<c)) (cond ((l != (0:Int))==true) (cond (cond true (decide (d≥j)) false) (r0 d 16) (q2 m)) (q2 m)) (r0 c 0))
def Hl (N:Nat)  (r0:Int→Int→Option R) (c j l:Int) (f:Bool) (a:LA) (e:Bool) (b:LA):Nat→Bool→Int→Bool→LA→Option R
 | 0,_,_,_,_=>none
 | n+1,i,d,g,m=>(Adm N r0 c j l f a e b (Hl N r0 c j l f a e b n) (fun o=>(Ak6 N (Hl N r0 c j l f a e b n) r0 c j l i d f a e b g o)) i d g m)
def Auj (N:Nat)  (r0:Int→Int→Option R) (c:Int) (f:Bool) (a:LA) (e:Bool) (b:LA)  (q1:Int→Int→Bool→Int→Bool→LA→Option R) :Option R :=
 (cond (Nat.ble 22 (List.length a)) (rdL 1 b fun ai aj=>(Akv N (List.take 22 a) f ai aj false e (fun au j l av=>(rdI .i64 (List.drop 19 a) fun ak=>(rdI .i64 (List.drop 21 a) fun al=>(B0 N al (fun x=>(cond ((Nat.beq 0 0)&&((Nat.beq (List.length x) 3)&&(Nat.beq 3 3))) (q1 j l (ak==(2:Int)) 0 false x) none)))))))) none)
def A1f (N:Nat)  (r0:Int→Int→Option R) (c:Int) (f:Bool) (a:LA) (e:Bool) (b:LA) :Option R:=(Auj N r0 c f a e b (fun j l i d g m=>(Hl N r0 c j l f a e b N i d g m)))
def Bjf (N:Nat) (r0:Int→Int→Option R) (q0:Option R) (a:LA) (f:Bool) (c:Int) (b:LA) (e:Bool):Option R :=
 (cond (Nat.ble 22 (List.length a)) (Z9 N (List.take 22 a) f c (fun am=>(cond (!am) (r0 0 1) (rdL 1 b fun aw an=>(cond ((((an:Nat):Int) != c)==false) (rdL 3 (List.drop 1 b) fun ax ao=>(cond ((cond false true (((ao:Nat):Int) != c))==false) (rdL 3 (List.drop 2 b) fun ay ap=>(cond (cond false true (((ap:Nat):Int) != c)) (r0 0 4) q0)) (r0 0 4))) (r0 0 4)))))) none)
def Bjg (N:Nat) (a:LA) (f:Bool) (c:Int) (b:LA) (e:Bool) (r0:Int→Int→Option R):Option R:=(Bjf N r0 (A1f N r0 c f a e b) a f c b e)
def Apk:=(Ai (@Bjg R)).1
theorem Bfe:@Apk R=@Bjg R:=(Ai _).2
def Ak7:Hints:={ H:=(hS (hR [1,3,5]) (hS (hS (hR [1,3,5,18]) (hN [1,3,5] (hS (hR [6,7]) hL) hL)) (hJ (hS (hR [1,3,5,37]) (hN [1,3,5] (hS (hR [6,7]) hL) hL)) (hS (hR [1,3,5,9,10]) (hS (hR [1,3,5,9,10,11]) (hS (hR [1,3,5,9,10,11,12]) (hS (hS (hR [1,3,5,9,10,11,12,52,53]) (hN [1] (hN [1,3,5,9,10,11,12,52,53] (hS (hR [1,3,5,9,10,11,12,52,53,54]) (hS (hN [1,3,5,9,10,11,12,52,53] hL hL) (hS (hN [1,3,5,9,10,11,12,52,53] (hS (hR [1,3,5,9,10,11,12,13,52,53]) (hJ (hS (hR [1,3,5,9,10,11,12,13,52,53,62]) (hN [1,3,5,9,10,11,12,13,52,53] (hS (hR [6,7]) hL) hL)) (hS (hR [1,3,5,9,10,11,12,13,14,52,53]) (hS (hS (hR [1,3,5,9,10,11,12,13,14,52,53,83]) (hN [1,3,5,9,10,11,12,13,14,52,53] (hS (hR [6,7]) hL) hL)) (hS (hS (hR [1,3,5,9,10,12,13,14,52,53,100]) (hN [1,3,5,9,10,12,13,14,52,53] (hS (hR [6,7]) hL) hL)) (hR [1,3,5,9,10,11,12,52,53])))))) hL) (hR [1,3,5,9,10,11,12,52,53])))) hL) hL)) (hS (hR [6,7]) hL)))))))),nils:=[],modes:=[],free:=[],cob:=[] }
def Auk (N:Nat):List (Nat×Tw):=[(16,Aaa N),(64,Atl N),(60,Dy N),(76,Api N),(77,Awg N)]
def M0 (N:Nat):Env:=mkE 110 Ak7 (Auk N)
def B1d (N:Nat) (F:KF R):=Ao (M0 N) Tryz.f38 Ak7.modes [] F
def Rx (N:Nat) (F:KF R):=atF (M0 N) [] N Tryz.f38 Ak7 (B1d N F)
def Ex  (F:KF R):Int→Int→Option R:=(fun aq ar=>F (.tup [(.int .i64 aq),(.int .i64 ar)]) [])
def Ak8 (c j l:Int) (i:Bool) (d:Int) (f:Bool) (a:LA) (e:Bool) (b:LA) (g:Bool) (o:LA):St:={ s:=[(1,(.int .i64 c)),(3,(.optr 300000 0)),(5,(.optr 300001 0)),(9,(.int .i64 j)),(10,(.int .i64 l)),(11,(.bool i)),(12,(.optr 300002 0)),(13,(.int .i64 d)),(52,(.int .i64 c)),(53,(.int .i64 d))],h:=[(300000,⟨false,false,true,f,0,a,false⟩),(300001,⟨false,false,true,e,0,b,false⟩),(300002,⟨false,false,true,g,0,o,false⟩)] }
def Bmp (N:Nat) (F:KF R) (Q1:St→Option R):St→Option R:=Cg (M0 N) [] N (Rx N F [1,1,1,1,1,1,0,1,0,0,1,1,0,0,1,1] [Q1])
def Bmq (N:Nat) (F:KF R) (Q1:St→Option R):St→Option R:=Ck (M0 N) [] N (Rx N F [1,1,1,1,1,1,0,1,0,0,1,1,0,0,1,1] [Q1])
def Je (c j l:Int) (f:Bool) (a:LA) (e:Bool) (b:LA) (i:Bool) (d:Int) (g:Bool) (m:LA):St:={ s:=[(1,(.int .i64 c)),(3,(.optr 300000 0)),(5,(.optr 300001 0)),(9,(.int .i64 j)),(10,(.int .i64 l)),(11,(.bool i)),(12,(.optr 300002 0)),(52,(.int .i64 c)),(53,(.int .i64 d))],h:=[(300000,⟨false,false,true,f,0,a,false⟩),(300001,⟨false,false,true,e,0,b,false⟩),(300002,⟨false,false,true,g,0,m,false⟩)] }
def Bmr (N:Nat) (F:KF R):St→Option R:=Bq (M0 N) [] N (Rx N F [1,1,1,1,1,1,0,1,0] []) N
def M5 (N:Nat) (F:KF R) (n:Nat):St→Option R:=A4 (M0 N) [] N (Rx N F [1,1,1,1,1,1,0,1,0] []) n
def Ak9 (c:Int) (f:Bool) (a:LA) (e:Bool) (b:LA):St:={ s:=[(1,(.int .i64 c)),(3,(.optr 300000 0)),(5,(.optr 300001 0))],h:=[(300000,⟨false,false,true,f,0,a,false⟩),(300001,⟨false,false,true,e,0,b,false⟩)] }
def Bms (N:Nat) (F:KF R):St→Option R:=Cg (M0 N) [] N (Rx N F [1,1,1] [])
def Bmt (N:Nat) (F:KF R):St→Option R:=Ck (M0 N) [] N (Rx N F [1,1,1] [])
theorem Buf (N:Nat) (Q1:St→Option R) (F:KF R) (c j l:Int) (i:Bool) (d:Int) (f:Bool) (a:LA) (e:Bool) (b:LA) (g:Bool):∀ (o:LA),Bmq N F Q1 (Ak8 c j l i d f a e b g o)=(Ak6 N (fun i d g m=>Q1 (Je c j l f a e b i d g m)) (Ex F) c j l i d f a e b g o):=by
 intro o
 have hK:Bmq N F Q1 (Ak8 c j l i d f a e b g o)=(Aui N (fun i d g m=>Q1 (Je c j l f a e b i d g m)) (Ex F) c j l i d f a e b g o):=by kernel_rfl
 exact hK
theorem Bug (N:Nat)  (F:KF R) (c j l:Int) (f:Bool) (a:LA) (e:Bool) (b:LA):∀ (n:Nat) (i:Bool) (d:Int) (g:Bool) (m:LA),M5 N F n (Je c j l f a e b i d g m)=(Hl N (Ex F) c j l f a e b n i d g m):=by
 intro n
 induction n with
 | zero=>intros;kernel_rfl
 | succ n ih =>
  intro i d g m
  have e0:=funext fun i=>funext fun d=>funext fun g=>funext fun m=>(show M5 N F n (Je c j l f a e b i d g m)=_ from ih i d g m)
  have e1:(fun o=>Bmp N F (M5 N F n) (Ak8 c j l i d f a e b g o))=(fun o=>(Ak6 N (Hl N (Ex F) c j l f a e b n) (Ex F) c j l i d f a e b g o)):=by funext o;exact ((Aw ..).trans (Buf N (M5 N F n) F c j l i d f a e b g o)).trans (by rw [e0])
  have hK:M5 N F (n+1) (Je c j l f a e b i d g m)=(Adm N (Ex F) c j l f a e b (fun i d g m=>M5 N F n (Je c j l f a e b i d g m)) (fun o=>Bmp N F (M5 N F n) (Ak8 c j l i d f a e b g o)) i d g m):=by kernel_rfl
  exact hK.trans (by rw [e0,e1];rfl)
theorem Buh (N:Nat)  (F:KF R) (c:Int) (f:Bool) (a:LA) (e:Bool) (b:LA):Bmt N F (Ak9 c f a e b)=(A1f N (Ex F) c f a e b):=by
 have e1:=funext fun j=>funext fun l=>funext fun i=>funext fun d=>funext fun g=>funext fun m=>(show Bmr N F (Je c j l f a e b i d g m)=_ from (Ap ..).trans (Bug N F c j l f a e b N i d g m))
 have hK:Bmt N F (Ak9 c f a e b)=(Auj N (Ex F) c f a e b (fun j l i d g m=>Bmr N F (Je c j l f a e b i d g m))):=by kernel_rfl
 exact hK.trans (by rw [e1];rfl)
theorem A1g (N:Nat) (a:LA) (f:Bool) (c:Int) (b:LA) (e:Bool) (F:KF R):Ab Tryz.prog muts (Auk N) Ak7 N 38 [(.pagg a f),(.int .i64 c),(.pagg b e)] [] F=(Apk N a f c b e (Ex F)):=by
 have e1:=(show Bms N F (Ak9 c f a e b)=_ from (Aw ..).trans (Buh N F c f a e b))
 have hK:Ab Tryz.prog muts (Auk N) Ak7 N 38 [(.pagg a f),(.int .i64 c),(.pagg b e)] [] F=(Bjf N (Ex F) (Bms N F (Ak9 c f a e b)) a f c b e):=by kernel_rfl
 rw [Bfe]
 exact hK.trans (by rw [e1];rfl)
def Adn (N:Nat) (args:List AV) (h:Ak) (k:KF R):Option R :=
 match args,h with
 | [(.pagg a f),(.int .i64 c),(.pagg b e)],[]=>(Apk N a f c b e (Ex k))
 | _,_=>none
def A1h (N:Nat):Tw:=⟨Adn N,fun args h k=>by
 unfold Adn;split
 exact twE (A1g ..) (A1g ..)
 rfl⟩
theorem Bmu (N:Nat):Ax Tryz.prog 38 (A1h N):=fun args h res y hh=>by
 change Adn N args h (fun v y=>some (v,y))=_ at hh
 unfold Adn at hh;split at hh
 exact Aa (T:=Auk N) ⟨Akh N,Bay N,Ek N,Bjd N,Bnv N,trivial⟩ follows ((A1g ..).trans hh)
 cases hh
end
end Gx

namespace Gx
open Go Go.Proofs
set_option maxRecDepth 100000
noncomputable section
variable {R:Type}
def Bjh (N:Nat) (r0:Int→Int→Option R)  (a:LA) (b:Bool):Option R :=
 (cond (Nat.ble 22 (List.length a)) (N6 N (List.take 22 a) b (fun d=>(cond (!d) (r0 0 0) (rdI .i64 (List.drop 11 a) fun e=>(rdI .i64 (List.drop 15 a) fun f=>(rdI .i64 (List.drop 10 a) fun g=>(r0 (Qp (Qp e (IntKind.wrap .i64 (f+(1:Int)))) (1:Int)) (Qp g (1:Int))))))))) none)
def Bji (N:Nat) (a:LA) (b:Bool) (r0:Int→Int→Option R):Option R:=(Bjh N r0 a b)
def Ahv:=(Ai (@Bji R)).1
theorem Bff:@Ahv R=@Bji R:=(Ai _).2
def Bmv:Hints:={ H:=(hS (hR [1]) (hS (hS (hR [1,6]) (hN [1] (hS (hR [2,3]) hL) hL)) (hS (hR [2,3]) hL))),nils:=[],modes:=[],free:=[],cob:=[] }
def Bbg (N:Nat):List (Nat×Tw):=[(52,N7 N)]
def A1i  (F:KF R):Int→Int→Option R:=(fun i j=>F (.tup [(.int .i64 i),(.int .i64 j)]) [])
theorem A1j (N:Nat) (a:LA) (b:Bool) (F:KF R):Ab Tryz.prog muts (Bbg N) Bmv N 165 [(.pagg a b)] [] F=(Ahv N a b (A1i F)):=by
 have hK:Ab Tryz.prog muts (Bbg N) Bmv N 165 [(.pagg a b)] [] F=(Bjh N (A1i F) a b):=by kernel_rfl
 rw [Bff]
 exact hK
def Ado (N:Nat) (args:List AV) (h:Ak) (k:KF R):Option R :=
 match args,h with
 | [(.pagg a b)],[]=>(Ahv N a b (A1i k))
 | _,_=>none
def Ala (N:Nat):Tw:=⟨Ado N,fun args h k=>by
 unfold Ado;split
 exact twE (A1j ..) (A1j ..)
 rfl⟩
theorem A1k (N:Nat):Ax Tryz.prog 165 (Ala N):=fun args h res c hh=>by
 change Ado N args h (fun v c=>some (v,c))=_ at hh
 unfold Ado at hh;split at hh
 exact Aa (T:=Bbg N) ⟨Un N,trivial⟩ follows ((A1j ..).trans hh)
 cases hh
def Aul (N:Nat) (r0:LA→Option R)  (a:LA) (b:Bool):Option R :=
 (cond (Nat.ble 22 (List.length a)) (N6 N (List.take 22 a) b (fun e=>(cond (!e) (r0 [(.int .i64 0),(.int .i64 0)]) (cond (Nat.ble 22 (List.length a)) (Ahv N (List.take 22 a) b (fun f g=>(rdI .i64 (List.drop 19 a) fun c=>(cond (c==(0:Int)) (rdI .i64 (List.drop 20 a) fun i=>(r0 [(.int .i64 0),(.int .i64 (O0 i f))])) (cond (c==(2:Int)) (rdI .i64 (List.drop 20 a) fun j=>(r0 [(.int .i64 2),(.int .i64 (O0 j g))])) (rdI .i64 (List.drop 20 a) fun l=>(r0 [(.int .i64 1),(.int .i64 l)]))))))) none)))) none)
def Aum (N:Nat) (a:LA) (b:Bool) (r0:LA→Option R):Option R:=(Aul N r0 a b)
def M6:=(Ai (@Aum R)).1
theorem Awh:@M6 R=@Aum R:=(Ai _).2
def A1l:Hints:={ H:=(hS (hR [1,2]) (hS (hS (hR [1,2,7]) (hN [1,2] (hS (hR [2]) hL) hL)) (hS (hR [1,2,3,4]) (hS (hS (hR [1,2,3,4,15]) (hN [1,2] (hS (hR [1,2,3,4,15,16]) (hN [1,2] (hS (hR [2]) hL) (hS (hR [1,2,4,23]) (hN [1,2] (hS (hR [2]) hL) hL)))) hL)) (hS (hR [2]) hL))))),nils:=[],modes:=[(3,0)],free:=[],cob:=[] }
def Anf (N:Nat):List (Nat×Tw):=[(52,N7 N),(165,Ala N)]
def Ahw  (F:KF R):LA→Option R:=(fun m=>F (.pagg m false) [])
theorem Ahx (N:Nat) (a:LA) (b:Bool) (F:KF R):Ab Tryz.prog muts (Anf N) A1l N 113 [(.pagg a b)] [] F=(M6 N a b (Ahw F)):=by
 have hK:Ab Tryz.prog muts (Anf N) A1l N 113 [(.pagg a b)] [] F=(Aul N (Ahw F) a b):=by kernel_rfl
 rw [Awh]
 exact hK
def Qk (N:Nat) (args:List AV) (h:Ak) (k:KF R):Option R :=
 match args,h with
 | [(.pagg a b)],[]=>(M6 N a b (Ahw k))
 | _,_=>none
def U0 (N:Nat):Tw:=⟨Qk N,fun args h k=>by
 unfold Qk;split
 exact twE (Ahx ..) (Ahx ..)
 rfl⟩
theorem Ahy (N:Nat):Ax Tryz.prog 113 (U0 N):=fun args h res d hh=>by
 change Qk N args h (fun v d=>some (v,d))=_ at hh
 unfold Qk at hh;split at hh
 exact Aa (T:=Anf N) ⟨Un N,A1k N,trivial⟩ follows ((Ahx ..).trans hh)
 cases hh
def U4 (N:Nat)  (r0:Nat→LA→Option R) (a:Int) (k2:Nat→Int→LA→Option R)  (d:Nat) (g:Int) (l:LA):Option R :=
 (cond (decide (g≤a)) (cond ((Nat.ble (d+1) 140737488355328)&&(Nat.ble ((d+1)*16) 140737488355328)) (k2 (d+1) (IntKind.wrap .i64 (g+(1:Int))) ((List.take (d*2) l)++[(.int .i64 2),(.int .i64 g)])) none) (r0 d l))
def K9 (N:Nat)  (r0:Nat→LA→Option R) (a:Int):Nat→Nat→Int→LA→Option R
 | 0,_,_,_=>none
 | n+1,d,g,l=>(U4 N r0 a (K9 N r0 a n) d g l)
def U5 (N:Nat)  (r0:Nat→LA→Option R) (a:Int) (c:Bool) (b:LA) (k1:Nat→Int→LA→Option R) (q2:Nat→Int→LA→Option R) (e:Nat) (i:Int) (m:LA):Option R :=
 (rdI .i64 (List.drop 12 b) fun r=>(cond (decide (i≤r)) (cond ((Nat.ble (e+1) 140737488355328)&&(Nat.ble ((e+1)*16) 140737488355328)) (k1 (e+1) (IntKind.wrap .i64 (i+(1:Int))) ((List.take (e*2) m)++[(.int .i64 1),(.int .i64 i)])) none) (q2 e 1 m)))
def La (N:Nat)  (r0:Nat→LA→Option R) (a:Int) (c:Bool) (b:LA):Nat→Nat→Int→LA→Option R
 | 0,_,_,_=>none
 | n+1,e,i,m=>(U5 N r0 a c b (La N r0 a c b n) (fun d g l=>(K9 N r0 a N d g l)) e i m)
def U6 (N:Nat)  (r0:Nat→LA→Option R) (p a:Int) (c:Bool) (b:LA) (k0:Nat→Int→LA→Option R) (q1:Nat→Int→LA→Option R) (f:Nat) (j:Int) (o:LA):Option R :=
 (cond (decide (j≤p)) (cond ((Nat.ble (f+1) 140737488355328)&&(Nat.ble ((f+1)*16) 140737488355328)) (k0 (f+1) (IntKind.wrap .i64 (j+(1:Int))) ((List.take (f*2) o)++[(.int .i64 0),(.int .i64 j)])) none) (q1 f 1 o))
def Lb (N:Nat)  (r0:Nat→LA→Option R) (p a:Int) (c:Bool) (b:LA):Nat→Nat→Int→LA→Option R
 | 0,_,_,_=>none
 | n+1,f,j,o=>(U6 N r0 p a c b (Lb N r0 p a c b n) (fun e i m=>(La N r0 a c b N e i m)) f j o)
def A1m (N:Nat) (r0:Nat→LA→Option R) (q0:Int→Int→Nat→Int→LA→Option R) (b:LA) (c:Bool):Option R :=
 (cond (Nat.ble 22 (List.length b)) (Ahv N (List.take 22 b) c (fun p a=>(cond (Nat.ble 22 (List.length b)) (N6 N (List.take 22 b) c (fun t=>(cond (!t) (r0 0 []) (q0 p a 0 1 [])))) none))) none)
def A1n (N:Nat) (b:LA) (c:Bool) (r0:Nat→LA→Option R):Option R:=(A1m N r0 (fun p a f j o=>(Lb N r0 p a c b N f j o)) b c)
def Ahz:=(Ai (@A1n R)).1
theorem A1o:@Ahz R=@A1n R:=(Ai _).2
def Za:Hints:={ H:=(hS (hR [1]) (hS (hR [1,3]) (hS (hR [1,3,4,5]) (hS (hS (hR [1,3,4,5,16]) (hN [1,3,4,5] (hS (hR [2]) hL) hL)) (hS (hS (hR [1,3,4,5,6]) (hN [1,3,5] (hN [1,3,4,5,6] (hS (hS (hR [1,3,4,5,6,19]) (hN [1,3,4,5,6] hL hL)) (hS (hN [1,3,4,5,6] (hR [1,3,4,5,6]) hL) (hR [1,3,4,5,6]))) hL) hL)) (hS (hS (hR [1,3,5,7]) (hN [3,5] (hN [1,3,5,7] (hS (hS (hR [1,3,5,7,30]) (hN [1,3,5,7] hL hL)) (hS (hN [1,3,5,7] (hR [1,3,5,7]) hL) (hR [1,3,5,7]))) hL) hL)) (hS (hS (hR [3,5,8]) (hN [3] (hN [3,5,8] (hS (hS (hR [3,5,8,40]) (hN [3,5,8] hL hL)) (hS (hN [3,5,8] (hR [3,5,8]) hL) (hR [3,5,8]))) hL) hL)) (hS (hR [2]) hL)))))))),nils:=[(2,2),(3,2)],modes:=[(2,2)],free:=[],cob:=[] }
def Adp (N:Nat):List (Nat×Tw):=[(165,Ala N),(52,N7 N)]
def Hm (N:Nat):Env:=mkE 49 Za (Adp N)
def Bui (N:Nat) (F:KF R):=Ao (Hm N) Tryz.f199 Za.modes [] F
def Lc (N:Nat) (F:KF R):=atF (Hm N) [] N Tryz.f199 Za (Bui N F)
def Eo  (F:KF R):Nat→LA→Option R:=(fun u w=>F (.own 300000 0 u) [(300000,⟨false,false,true,false,2,w,false⟩)])
def Ld (a:Int) (d:Nat) (g:Int) (l:LA):St:={ s:=[(3,(.own 300000 0 d)),(5,(.int .i64 a)),(8,(.int .i64 g))],h:=[(300000,⟨false,false,true,false,2,l,false⟩)] }
def A63 (N:Nat) (F:KF R):St→Option R:=Bq (Hm N) [] N (Lc N F [1,1,1,1,1,1,0,1,0] []) N
def Zb (N:Nat) (F:KF R) (n:Nat):St→Option R:=A4 (Hm N) [] N (Lc N F [1,1,1,1,1,1,0,1,0] []) n
def Le (a:Int) (c:Bool) (b:LA) (e:Nat) (i:Int) (m:LA):St:={ s:=[(1,(.optr 300000 0)),(3,(.own 300001 0 e)),(5,(.int .i64 a)),(7,(.int .i64 i))],h:=[(300000,⟨false,false,true,c,0,b,false⟩),(300001,⟨false,false,true,false,2,m,false⟩)] }
def A64 (N:Nat) (F:KF R):St→Option R:=Bq (Hm N) [] N (Lc N F [1,1,1,1,1,0,1,0] []) N
def Zc (N:Nat) (F:KF R) (n:Nat):St→Option R:=A4 (Hm N) [] N (Lc N F [1,1,1,1,1,0,1,0] []) n
def Lf (p a:Int) (c:Bool) (b:LA) (f:Nat) (j:Int) (o:LA):St:={ s:=[(1,(.optr 300000 0)),(3,(.own 300001 0 f)),(4,(.int .i64 p)),(5,(.int .i64 a)),(6,(.int .i64 j))],h:=[(300000,⟨false,false,true,c,0,b,false⟩),(300001,⟨false,false,true,false,2,o,false⟩)] }
def A65 (N:Nat) (F:KF R):St→Option R:=Bq (Hm N) [] N (Lc N F [1,1,1,1,0,1,0] []) N
def Zd (N:Nat) (F:KF R) (n:Nat):St→Option R:=A4 (Hm N) [] N (Lc N F [1,1,1,1,0,1,0] []) n
theorem Bjj (N:Nat)  (F:KF R) (a:Int):∀ (n d:Nat) (g:Int) (l:LA),Zb N F n (Ld a d g l)=(K9 N (Eo F) a n d g l):=by
 intro n
 induction n with
 | zero=>intros;kernel_rfl
 | succ n ih =>
  intro d g l
  have e0:=funext fun d=>funext fun g=>funext fun l=>(show Zb N F n (Ld a d g l)=_ from ih d g l)
  have hK:Zb N F (n+1) (Ld a d g l)=(U4 N (Eo F) a (fun d g l=>Zb N F n (Ld a d g l)) d g l):=by kernel_rfl
  exact hK.trans (by rw [e0];rfl)
theorem Bjk (N:Nat)  (F:KF R) (a:Int) (c:Bool) (b:LA):∀ (n e:Nat) (i:Int) (m:LA),Zc N F n (Le a c b e i m)=(La N (Eo F) a c b n e i m):=by
 intro n
 induction n with
 | zero=>intros;kernel_rfl
 | succ n ih =>
  intro e i m
  have e0:=funext fun e=>funext fun i=>funext fun m=>(show Zc N F n (Le a c b e i m)=_ from ih e i m)
  have e1:=funext fun d=>funext fun g=>funext fun l=>(show A63 N F (Ld a d g l)=_ from (Ap ..).trans (Bjj N F a N d g l))
  have hK:Zc N F (n+1) (Le a c b e i m)=(U5 N (Eo F) a c b (fun e i m=>Zc N F n (Le a c b e i m)) (fun d g l=>A63 N F (Ld a d g l)) e i m):=by kernel_rfl
  exact hK.trans (by rw [e0,e1];rfl)
theorem Bjl (N:Nat)  (F:KF R) (p a:Int) (c:Bool) (b:LA):∀ (n f:Nat) (j:Int) (o:LA),Zd N F n (Lf p a c b f j o)=(Lb N (Eo F) p a c b n f j o):=by
 intro n
 induction n with
 | zero=>intros;kernel_rfl
 | succ n ih =>
  intro f j o
  have e0:=funext fun f=>funext fun j=>funext fun o=>(show Zd N F n (Lf p a c b f j o)=_ from ih f j o)
  have e1:=funext fun e=>funext fun i=>funext fun m=>(show A64 N F (Le a c b e i m)=_ from (Ap ..).trans (Bjk N F a c b N e i m))
  have hK:Zd N F (n+1) (Lf p a c b f j o)=(U6 N (Eo F) p a c b (fun f j o=>Zd N F n (Lf p a c b f j o)) (fun e i m=>A64 N F (Le a c b e i m)) f j o):=by kernel_rfl
  exact hK.trans (by rw [e0,e1];rfl)
theorem Ang (N:Nat) (b:LA) (c:Bool) (F:KF R):Ab Tryz.prog muts (Adp N) Za N 199 [(.pagg b c)] [] F=(Ahz N b c (Eo F)):=by
 have e1:=funext fun p=>funext fun a=>funext fun f=>funext fun j=>funext fun o=>(show A65 N F (Lf p a c b f j o)=_ from (Ap ..).trans (Bjl N F p a c b N f j o))
 have hK:Ab Tryz.prog muts (Adp N) Za N 199 [(.pagg b c)] [] F=(A1m N (Eo F) (fun p a f j o=>A65 N F (Lf p a c b f j o)) b c):=by kernel_rfl
 rw [A1o]
 exact hK.trans (by rw [e1];rfl)
def U7 (N:Nat) (args:List AV) (h:Ak) (k:KF R):Option R :=
 match args,h with
 | [(.pagg b c)],[]=>(Ahz N b c (Eo k))
 | _,_=>none
def A66 (N:Nat):Tw:=⟨U7 N,fun args h k=>by
 unfold U7;split
 exact twE (Ang ..) (Ang ..)
 rfl⟩
theorem Bwh (N:Nat):Ax Tryz.prog 199 (A66 N):=fun args h res q hh=>by
 change U7 N args h (fun v q=>some (v,q))=_ at hh
 unfold U7 at hh;split at hh
 exact Aa (T:=Adp N) ⟨A1k N,Un N,trivial⟩ follows ((Ang ..).trans hh)
 cases hh
def Oe (N:Nat)  (r0:Int→Option R) (e:Nat) (c:Bool) (a d:LA) (k0:Int→Option R)  (b:Int):Option R :=
 (cond (decide (b<((e:Nat):Int))) (cond (Aj b e) (cond (Nat.ble 2 (List.length (List.drop (0+((Int.toNat b)*2)) d))) (cond (Nat.ble 2 (List.length a)) (cond ((!c)||(Bm (List.take 2 a))) (cond ((Nat.ble 1 2)&&((Nat.beq (List.length (List.take 2 (List.drop (0+((Int.toNat b)*2)) d))) 2)&&((Nat.beq (List.length (List.take 2 a)) 2)&&(true&&(!false))))) (rdI .i64 (List.take 2 (List.drop (0+((Int.toNat b)*2)) d)) fun j=>(rdI .i64 (List.take 2 a) fun l=>(rdI .i64 (List.drop 1 (List.take 2 (List.drop (0+((Int.toNat b)*2)) d))) fun m=>(rdI .i64 (List.drop 1 (List.take 2 a)) fun o=>(cond ((j==l)&&((m==o)&&true)) (r0 b) (k0 (IntKind.wrap .i64 (b+(1:Int))))))))) none) none) none) none) none) (r0 (-1)))
def Ha (N:Nat)  (r0:Int→Option R) (e:Nat) (c:Bool) (a d:LA):Nat→Int→Option R
 | 0,_=>none
 | n+1,b=>(Oe N r0 e c a d (Ha N r0 e c a d n) b)
def Anh (N:Nat) (r0:Int→Option R) (q0:Nat→LA→Int→Option R) (f:LA) (g:Bool) (a:LA) (c:Bool):Option R :=
 (cond (Nat.ble 22 (List.length f)) (Ahz N (List.take 22 f) g (fun e d=>(q0 e d 0))) none)
def Ani (N:Nat) (f:LA) (g:Bool) (a:LA) (c:Bool) (r0:Int→Option R):Option R:=(Anh N r0 (fun e d b=>(Ha N r0 e c a d N b)) f g a c)
def Adq:=(Ai (@Ani R)).1
theorem Apl:@Adq R=@Ani R:=(Ai _).2
def Ql:Hints:={ H:=(hS (hR [2,3]) (hS (hR [3,5]) (hS (hS (hR [3,5,6]) (hS (hN [3,5,6] (hS (hS (hR [3,5,6,12]) (hN [3,5,6] hL hL)) (hS (hN [3,5,6] (hS (hR [3,5,6,20]) (hN [3,5,6] (hS (hR [4]) hL) hL)) hL) (hR [3,5,6]))) hL) hL)) (hS (hR [4]) hL)))),nils:=[],modes:=[],free:=[],cob:=[] }
def U8 (N:Nat):List (Nat×Tw):=[(199,A66 N)]
def U9 (N:Nat):Env:=mkE 22 Ql (U8 N)
def Bjm (N:Nat) (F:KF R):=Ao (U9 N) Tryz.f193 Ql.modes [] F
def Awi (N:Nat) (F:KF R):=atF (U9 N) [] N Tryz.f193 Ql (Bjm N F)
def Ko  (F:KF R):Int→Option R:=(fun p=>F (.int .i64 p) [])
def Hb (e:Nat) (c:Bool) (a d:LA) (b:Int):St:={ s:=[(3,(.optr 300000 0)),(5,(.own 300001 0 e)),(6,(.int .i64 b))],h:=[(300000,⟨false,false,true,c,0,a,false⟩),(300001,⟨false,false,true,false,2,d,false⟩)] }
def Awj (N:Nat) (F:KF R):St→Option R:=Bq (U9 N) [] N (Awi N F [1,1,0,1,0] []) N
def Qm (N:Nat) (F:KF R) (n:Nat):St→Option R:=A4 (U9 N) [] N (Awi N F [1,1,0,1,0] []) n
theorem Bbh (N:Nat)  (F:KF R) (e:Nat) (c:Bool) (a d:LA):∀ (n:Nat) (b:Int),Qm N F n (Hb e c a d b)=(Ha N (Ko F) e c a d n b):=by
 intro n
 induction n with
 | zero=>intros;kernel_rfl
 | succ n ih =>
  intro b
  have e0:=funext fun b=>(show Qm N F n (Hb e c a d b)=_ from ih b)
  have hK:Qm N F (n+1) (Hb e c a d b)=(Oe N (Ko F) e c a d (fun b=>Qm N F n (Hb e c a d b)) b):=by kernel_rfl
  exact hK.trans (by rw [e0];rfl)
theorem Abd (N:Nat) (f:LA) (g:Bool) (a:LA) (c:Bool) (F:KF R):Ab Tryz.prog muts (U8 N) Ql N 193 [(.pagg f g),(.pagg a c)] [] F=(Adq N f g a c (Ko F)):=by
 have e1:=funext fun e=>funext fun d=>funext fun b=>(show Awj N F (Hb e c a d b)=_ from (Ap ..).trans (Bbh N F e c a d N b))
 have hK:Ab Tryz.prog muts (U8 N) Ql N 193 [(.pagg f g),(.pagg a c)] [] F=(Anh N (Ko F) (fun e d b=>Awj N F (Hb e c a d b)) f g a c):=by kernel_rfl
 rw [Apl]
 exact hK.trans (by rw [e1];rfl)
def Of (N:Nat) (args:List AV) (h:Ak) (k:KF R):Option R :=
 match args,h with
 | [(.pagg f g),(.pagg a c)],[]=>(Adq N f g a c (Ko k))
 | _,_=>none
def Awk (N:Nat):Tw:=⟨Of N,fun args h k=>by
 unfold Of;split
 exact twE (Abd ..) (Abd ..)
 rfl⟩
theorem Bnw (N:Nat):Ax Tryz.prog 193 (Awk N):=fun args h res i hh=>by
 change Of N args h (fun v i=>some (v,i))=_ at hh
 unfold Of at hh;split at hh
 exact Aa (T:=U8 N) ⟨Bwh N,trivial⟩ follows ((Abd ..).trans hh)
 cases hh
def B1e (N:Nat) (r0:Bool→Option R)  (b:LA) (c:Bool) (a:LA) (d:Bool):Option R :=
 (cond (Nat.ble 22 (List.length b)) (cond (Nat.ble 2 (List.length a)) (cond ((!d)||(Bm (List.take 2 a))) (Adq N (List.take 22 b) c (List.take 2 a) false (fun f=>(r0 (decide (f≥(0:Int)))))) none) none) none)
def B1f (N:Nat) (b:LA) (c:Bool) (a:LA) (d:Bool) (r0:Bool→Option R):Option R:=(B1e N r0 b c a d)
def Buj:=(Ai (@B1f R)).1
theorem Buk:@Buj R=@B1f R:=(Ai _).2
def By0:Hints:={ H:=(hS (hR [2,3]) (hS (hR [4]) hL)),nils:=[],modes:=[],free:=[],cob:=[] }
def Bul (N:Nat):List (Nat×Tw):=[(193,Awk N)]
def Bjn  (F:KF R):Bool→Option R:=(fun g=>F (.bool g) [])
theorem Bjo (N:Nat) (b:LA) (c:Bool) (a:LA) (d:Bool) (F:KF R):Ab Tryz.prog muts (Bul N) By0 N 166 [(.pagg b c),(.pagg a d)] [] F=(Buj N b c a d (Bjn F)):=by
 have hK:Ab Tryz.prog muts (Bul N) By0 N 166 [(.pagg b c),(.pagg a d)] [] F=(B1e N (Bjn F) b c a d):=by kernel_rfl
 rw [Buk]
 exact hK
def Aun (N:Nat) (args:List AV) (h:Ak) (k:KF R):Option R :=
 match args,h with
 | [(.pagg b c),(.pagg a d)],[]=>(Buj N b c a d (Bjn k))
 | _,_=>none
def By1 (N:Nat):Tw:=⟨Aun N,fun args h k=>by
 unfold Aun;split
 exact twE (Bjo ..) (Bjo ..)
 rfl⟩
theorem B8g (N:Nat):Ax Tryz.prog 166 (By1 N):=fun args h res e hh=>by
 change Aun N args h (fun v e=>some (v,e))=_ at hh
 unfold Aun at hh;split at hh
 exact Aa (T:=Bul N) ⟨Bnw N,trivial⟩ follows ((Bjo ..).trans hh)
 cases hh
def Bjp (N:Nat) (r0:Nat→LA→Option R)  (b:LA) (c:Bool) (a:LA) (d:Bool):Option R :=
 (cond (Nat.ble 22 (List.length b)) (cond (Nat.ble 2 (List.length a)) (cond ((!d)||(Bm (List.take 2 a))) (Buj N (List.take 22 b) c (List.take 2 a) false (fun m=>(cond (!m) (r0 0 []) (cond (Nat.ble 22 (List.length b)) (Ahv N (List.take 22 b) c (fun e g=>(rdI .i64 a fun i=>(cond (i==(0:Int)) (rdI .i64 (List.drop 1 a) fun f=>(rdI .i64 (List.drop 1 a) fun n=>(rdI .i64 (List.drop 11 b) fun o=>(cond (decide (n<o)) (r0 1 [(.int .i64 0),(.int .i64 (O0 (IntKind.wrap .i64 (f+(1:Int))) e))]) (rdI .i64 (List.drop 12 b) fun p=>(cond (decide (p>(0:Int))) (r0 2 [(.int .i64 0),(.int .i64 (O0 (IntKind.wrap .i64 (f+(1:Int))) e)),(.int .i64 1),(.int .i64 1)]) (r0 2 [(.int .i64 0),(.int .i64 (O0 (IntKind.wrap .i64 (f+(1:Int))) e)),(.int .i64 2),(.int .i64 1)]))))))) (cond (i==(1:Int)) (rdI .i64 (List.drop 1 a) fun q=>(rdI .i64 (List.drop 12 b) fun r=>(cond (decide (q<r)) (rdI .i64 (List.drop 1 a) fun s=>(r0 1 [(.int .i64 1),(.int .i64 (IntKind.wrap .i64 (s+(1:Int))))])) (r0 1 [(.int .i64 2),(.int .i64 1)])))) (rdI .i64 (List.drop 1 a) fun j=>(rdI .i64 (List.drop 1 a) fun t=>(rdI .i64 (List.drop 10 b) fun u=>(cond (decide (t≥u)) (r0 2 [(.int .i64 0),(.int .i64 1),(.int .i64 2),(.int .i64 (O0 (IntKind.wrap .i64 (j+(1:Int))) g))]) (r0 1 [(.int .i64 2),(.int .i64 (O0 (IntKind.wrap .i64 (j+(1:Int))) g))])))))))))) none)))) none) none) none)
def Bjq (N:Nat) (b:LA) (c:Bool) (a:LA) (d:Bool) (r0:Nat→LA→Option R):Option R:=(Bjp N r0 b c a d)
def Apm:=(Ai (@Bjq R)).1
theorem Bfg:@Apm R=@Bjq R:=(Ai _).2
def Bmw:Hints:={ H:=(hS (hR [2,3]) (hS (hS (hR [2,3,12]) (hN [2,3] (hS (hR [4]) hL) hL)) (hS (hR [2,3,5,6]) (hS (hS (hR [2,3,5,6,19]) (hN [2,3,6] (hS (hR [2,3,5,6,19,20]) (hN [2,3,6] (hS (hR [2,3,7]) (hS (hS (hR [2,7,33]) (hN [2,7] (hS (hR [4]) hL) hL)) (hS (hS (hR [7,37]) (hN [7] (hS (hR [4]) hL) hL)) (hS (hR [4]) hL)))) (hS (hR [2,3,6,46]) (hN [2,3,6] (hS (hS (hR [3,52]) (hS (hS (hR [4]) hL) hL)) (hS (hR [4]) hL)) hL)))) hL)) (hS (hR [2,3,8]) (hS (hS (hR [8,70]) (hN [8] (hS (hR [4]) hL) hL)) (hS (hR [4]) hL))))))),nils:=[(4,2)],modes:=[(2,2)],free:=[],cob:=[] }
def Bbi (N:Nat):List (Nat×Tw):=[(166,By1 N),(165,Ala N)]
def A1p  (F:KF R):Nat→LA→Option R:=(fun w x=>F (.own 300000 0 w) [(300000,⟨false,false,true,false,2,x,false⟩)])
theorem A1q (N:Nat) (b:LA) (c:Bool) (a:LA) (d:Bool) (F:KF R):Ab Tryz.prog muts (Bbi N) Bmw N 114 [(.pagg b c),(.pagg a d)] [] F=(Apm N b c a d (A1p F)):=by
 have hK:Ab Tryz.prog muts (Bbi N) Bmw N 114 [(.pagg b c),(.pagg a d)] [] F=(Bjp N (A1p F) b c a d):=by kernel_rfl
 rw [Bfg]
 exact hK
def Adr (N:Nat) (args:List AV) (h:Ak) (k:KF R):Option R :=
 match args,h with
 | [(.pagg b c),(.pagg a d)],[]=>(Apm N b c a d (A1p k))
 | _,_=>none
def A1r (N:Nat):Tw:=⟨Adr N,fun args h k=>by
 unfold Adr;split
 exact twE (A1q ..) (A1q ..)
 rfl⟩
theorem Bmx (N:Nat):Ax Tryz.prog 114 (A1r N):=fun args h res l hh=>by
 change Adr N args h (fun v l=>some (v,l))=_ at hh
 unfold Adr at hh;split at hh
 exact Aa (T:=Bbi N) ⟨B8g N,A1k N,trivial⟩ follows ((A1q ..).trans hh)
 cases hh
def Auo (N:Nat) (r0:Bool→Option R)  (b:LA) (c:Bool) (d a:Int):Option R :=
 (cond ((a==(0:Int))==false) (cond ((a==(1:Int))==false) (cond ((cond false true (a==(2:Int)))==true) (rdL 1 (List.drop 18 b) fun f g=>(Bii N f g false c d (fun i=>(r0 (cond false true (cond true (!i) false)))))) (r0 false)) (rdL 1 (List.drop 18 b) fun j l=>(Bii N j l false c d (fun m=>(r0 (cond false true (cond true (!m) false))))))) (r0 true))
def Aup (N:Nat) (b:LA) (c:Bool) (d a:Int) (r0:Bool→Option R):Option R:=(Auo N r0 b c d a)
def Aag:=(Ai (@Aup R)).1
theorem Awl:@Aag R=@Aup R:=(Ai _).2
def A1s:Hints:={ H:=(hS (hR [1,2,3]) (hS (hR [6]) hL)),nils:=[],modes:=[],free:=[],cob:=[] }
def Anj (N:Nat):List (Nat×Tw):=[(45,Byb N)]
def Ah0  (F:KF R):Bool→Option R:=(fun n=>F (.bool n) [])
theorem Ah1 (N:Nat) (b:LA) (c:Bool) (d a:Int) (F:KF R):Ab Tryz.prog muts (Anj N) A1s N 115 [(.pagg b c),(.int .i64 d),(.int .i64 a)] [] F=(Aag N b c d a (Ah0 F)):=by
 have hK:Ab Tryz.prog muts (Anj N) A1s N 115 [(.pagg b c),(.int .i64 d),(.int .i64 a)] [] F=(Auo N (Ah0 F) b c d a):=by kernel_rfl
 rw [Awl]
 exact hK
def Qn (N:Nat) (args:List AV) (h:Ak) (k:KF R):Option R :=
 match args,h with
 | [(.pagg b c),(.int .i64 d),(.int .i64 a)],[]=>(Aag N b c d a (Ah0 k))
 | _,_=>none
def A1t (N:Nat):Tw:=⟨Qn N,fun args h k=>by
 unfold Qn;split
 exact twE (Ah1 ..) (Ah1 ..)
 rfl⟩
theorem Bum (N:Nat):Ax Tryz.prog 115 (A1t N):=fun args h res e hh=>by
 change Qn N args h (fun v e=>some (v,e))=_ at hh
 unfold Qn at hh;split at hh
 exact Aa (T:=Anj N) ⟨B7v N,trivial⟩ follows ((Ah1 ..).trans hh)
 cases hh
def Ads (N:Nat)  (r0:LA→Bool→Option R) (e c:Int) (g:Nat) (d:Bool) (b f:LA) (k0:Int→Option R)  (a:Int):Option R :=
 (cond (decide (a<((g:Nat):Int))) (cond (Aj a g) (rdI .i64 (List.drop (0+((Int.toNat a)*2)) f) fun m=>(cond ((m==c)==true) (cond (Nat.ble 22 (List.length b)) (Aag N (List.take 22 b) d e c (fun o=>(cond (cond true o false) (cond (Aj a g) (cond (Nat.ble 2 (List.length (List.drop (0+((Int.toNat a)*2)) f))) (cond ((Nat.beq (List.length (List.take 2 (List.drop (0+((Int.toNat a)*2)) f))) 2)&&((Nat.ble 2 2)&&(!false))) (cond (Nat.ble 2 (List.length (setCells [(.int .i64 0),(.int .i64 0)] 0 (List.take 2 (List.drop (0+((Int.toNat a)*2)) f))))) (r0 (List.take 2 (setCells [(.int .i64 0),(.int .i64 0)] 0 (List.take 2 (List.drop (0+((Int.toNat a)*2)) f)))) true) none) none) none) none) (k0 (IntKind.wrap .i64 (a+(1:Int))))))) none) (k0 (IntKind.wrap .i64 (a+(1:Int)))))) none) (r0 [(.int .i64 0),(.int .i64 0)] false))
def Ry (N:Nat)  (r0:LA→Bool→Option R) (e c:Int) (g:Nat) (d:Bool) (b f:LA):Nat→Int→Option R
 | 0,_=>none
 | n+1,a=>(Ads N r0 e c g d b f (Ry N r0 e c g d b f n) a)
def Bjr (N:Nat) (r0:LA→Bool→Option R) (q0:Nat→LA→Int→Option R) (b:LA) (d:Bool) (e:Int) (i:LA) (j:Bool) (c:Int):Option R :=
 (cond (Nat.ble 22 (List.length b)) (cond (Nat.ble 2 (List.length i)) (cond ((!j)||(Bm (List.take 2 i))) (Apm N (List.take 22 b) d (List.take 2 i) false (fun g f=>(q0 g f 0))) none) none) none)
def Bjs (N:Nat) (b:LA) (d:Bool) (e:Int) (i:LA) (j:Bool) (c:Int) (r0:LA→Bool→Option R):Option R:=(Bjr N r0 (fun g f a=>(Ry N r0 e c g d b f N a)) b d e i j c)
def Apn:=(Ai (@Bjs R)).1
theorem Bfh:@Apn R=@Bjs R:=(Ai _).2
def Alb:Hints:={ H:=(hS (hR [1,3,4,6,8]) (hS (hR [1,3,4,8,10]) (hS (hS (hR [1,3,4,8,10,11]) (hN [8] (hN [1,3,4,8,10,11] (hS (hS (hR [1,3,4,8,10,11,18]) (hN [1,3,4,8,10,11] hL hL)) (hS (hN [1,3,4,8,10,11] (hS (hR [1,3,4,8,10,11,33]) (hN [1,3,4,8,10,11] (hS (hR [8,9]) hL) hL)) hL) (hR [1,3,4,8,10,11]))) hL) hL)) (hS (hR [8,9]) hL)))),nils:=[],modes:=[(3,0),(0,0)],free:=[],cob:=[] }
def Auq (N:Nat):List (Nat×Tw):=[(114,A1r N),(115,A1t N)]
def Aur (N:Nat):Env:=mkE 39 Alb (Auq N)
def B1g (N:Nat) (F:KF R):=Ao (Aur N) Tryz.f121 Alb.modes [] F
def Bmy (N:Nat) (F:KF R):=atF (Aur N) [] N Tryz.f121 Alb (B1g N F)
def Aah  (F:KF R):LA→Bool→Option R:=(fun p q=>F (.tup [(.pagg p false),(.bool q)]) [])
def Rz (e c:Int) (g:Nat) (d:Bool) (b f:LA) (a:Int):St:={ s:=[(1,(.int .i64 e)),(3,(.int .i64 c)),(4,(.optr 300000 0)),(8,(.optr 300001 0)),(10,(.own 300002 0 g)),(11,(.int .i64 a))],h:=[(300000,⟨false,false,true,d,0,b,false⟩),(300001,⟨false,false,true,false,0,[(.int .i64 0),(.int .i64 0)],false⟩),(300002,⟨false,false,true,false,2,f,false⟩)] }
def Bmz (N:Nat) (F:KF R):St→Option R:=Bq (Aur N) [] N (Bmy N F [1,1,0,1,0] []) N
def Alc (N:Nat) (F:KF R) (n:Nat):St→Option R:=A4 (Aur N) [] N (Bmy N F [1,1,0,1,0] []) n
theorem Bun (N:Nat)  (F:KF R) (e c:Int) (g:Nat) (d:Bool) (b f:LA):∀ (n:Nat) (a:Int),Alc N F n (Rz e c g d b f a)=(Ry N (Aah F) e c g d b f n a):=by
 intro n
 induction n with
 | zero=>intros;kernel_rfl
 | succ n ih =>
  intro a
  have e0:=funext fun a=>(show Alc N F n (Rz e c g d b f a)=_ from ih a)
  have hK:Alc N F (n+1) (Rz e c g d b f a)=(Ads N (Aah F) e c g d b f (fun a=>Alc N F n (Rz e c g d b f a)) a):=by kernel_rfl
  exact hK.trans (by rw [e0];rfl)
theorem A1u (N:Nat) (b:LA) (d:Bool) (e:Int) (i:LA) (j:Bool) (c:Int) (F:KF R):Ab Tryz.prog muts (Auq N) Alb N 121 [(.pagg b d),(.int .i64 e),(.pagg i j),(.int .i64 c)] [] F=(Apn N b d e i j c (Aah F)):=by
 have e1:=funext fun g=>funext fun f=>funext fun a=>(show Bmz N F (Rz e c g d b f a)=_ from (Ap ..).trans (Bun N F e c g d b f N a))
 have hK:Ab Tryz.prog muts (Auq N) Alb N 121 [(.pagg b d),(.int .i64 e),(.pagg i j),(.int .i64 c)] [] F=(Bjr N (Aah F) (fun g f a=>Bmz N F (Rz e c g d b f a)) b d e i j c):=by kernel_rfl
 rw [Bfh]
 exact hK.trans (by rw [e1];rfl)
def Adt (N:Nat) (args:List AV) (h:Ak) (k:KF R):Option R :=
 match args,h with
 | [(.pagg b d),(.int .i64 e),(.pagg i j),(.int .i64 c)],[]=>(Apn N b d e i j c (Aah k))
 | _,_=>none
def A1v (N:Nat):Tw:=⟨Adt N,fun args h k=>by
 unfold Adt;split
 exact twE (A1u ..) (A1u ..)
 rfl⟩
theorem Bm0 (N:Nat):Ax Tryz.prog 121 (A1v N):=fun args h res l hh=>by
 change Adt N args h (fun v l=>some (v,l))=_ at hh
 unfold Adt at hh;split at hh
 exact Aa (T:=Auq N) ⟨Bmx N,Bum N,trivial⟩ follows ((A1u ..).trans hh)
 cases hh
def A1w (N:Nat) (r0:Bool→Option R)  (c:LA) (e:Bool) (d:LA) (b:Bool) (a:Int):Option R :=
 (rdL 3 (List.drop 1 d) fun f j=>(cond (Aj a j) (cond (Nat.ble 3 (List.length (List.drop ((Int.toNat a)*3) f))) (rdL 3 (List.drop 2 d) fun g l=>(cond (Aj a l) (cond (Nat.ble 3 (List.length (List.drop ((Int.toNat a)*3) g))) (cond ((Nat.beq 0 0)&&((Nat.beq (List.length (List.take 3 (List.drop ((Int.toNat a)*3) f))) 3)&&(Nat.beq 3 3))) (cond ((Nat.beq 0 0)&&((Nat.beq (List.length (List.take 3 (List.drop ((Int.toNat a)*3) g))) 3)&&(Nat.beq 3 3))) (rdL 1 d fun m n=>(cond (Aj a n) (rdI .i64 (List.drop ((Int.toNat a)*1) m) fun o=>(cond (o != (2:Int)) (cond (Nat.ble 3 (List.length (List.take 3 (List.drop ((Int.toNat a)*3) f)))) (Z4 N (List.take 3 (List.take 3 (List.drop ((Int.toNat a)*3) f))) b (fun p=>(cond ((p==(0:Int))==true) (cond (Nat.ble 3 (List.length (List.take 3 (List.drop ((Int.toNat a)*3) g)))) (Z4 N (List.take 3 (List.take 3 (List.drop ((Int.toNat a)*3) g))) b (fun q=>(r0 (cond true (q==(0:Int)) false)))) none) (r0 false)))) none) (cond (Nat.ble 3 (List.length (List.take 3 (List.drop ((Int.toNat a)*3) f)))) (rdI .i64 (List.drop 2 c) fun r=>(Bf N r (fun s=>(Cf N (List.take 3 (List.take 3 (List.drop ((Int.toNat a)*3) f))) b s false (fun t=>(cond ((decide (t≥(0:Int)))==true) (cond (Nat.ble 3 (List.length (List.take 3 (List.drop ((Int.toNat a)*3) g)))) (rdI .i64 (List.drop 16 c) fun u=>(Ahq N (List.take 3 (List.take 3 (List.drop ((Int.toNat a)*3) g))) b 0 u (fun w=>(cond ((cond true w false)==true) (cond (Nat.ble 3 (List.length (List.take 3 (List.drop ((Int.toNat a)*3) f)))) (cond (Nat.ble 3 (List.length (List.take 3 (List.drop ((Int.toNat a)*3) g)))) (Lw N (List.take 3 (List.take 3 (List.drop ((Int.toNat a)*3) f))) b (List.take 3 (List.take 3 (List.drop ((Int.toNat a)*3) g))) b (fun x=>(rdI .i64 (List.drop 3 c) fun y=>(Bf N y (fun z=>(Cf N x false z false (fun aa=>(r0 (cond true (decide (aa≤(0:Int))) false))))))))) none) none) (r0 false))))) none) (r0 false))))))) none))) none)) none) none) none) none)) none) none))
def A1x (N:Nat) (c:LA) (e:Bool) (d:LA) (b:Bool) (a:Int) (r0:Bool→Option R):Option R:=(A1w N r0 c e d b a)
def Ah2:=(Ai (@A1x R)).1
theorem A1y:@Ah2 R=@A1x R:=(Ai _).2
def A67:Hints:={ H:=(hS (hR [2,3,4]) (hS (hR [2,3,4,7,8]) (hS (hS (hR [3,7,8,24]) (hN [3,7,8] (hS (hR [6]) hL) hL)) (hS (hR [6]) hL)))),nils:=[],modes:=[],free:=[],cob:=[] }
def Aus (N:Nat):List (Nat×Tw):=[(34,Azi N),(20,Eu N),(25,Gl N),(36,A60 N),(32,Ml N)]
def Ank  (F:KF R):Bool→Option R:=(fun ab=>F (.bool ab) [])
theorem Anl (N:Nat) (c:LA) (e:Bool) (d:LA) (b:Bool) (a:Int) (F:KF R):Ab Tryz.prog muts (Aus N) A67 N 126 [(.pagg c e),(.pagg d b),(.int .i64 a)] [] F=(Ah2 N c e d b a (Ank F)):=by
 have hK:Ab Tryz.prog muts (Aus N) A67 N 126 [(.pagg c e),(.pagg d b),(.int .i64 a)] [] F=(A1w N (Ank F) c e d b a):=by kernel_rfl
 rw [A1y]
 exact hK
def Va (N:Nat) (args:List AV) (h:Ak) (k:KF R):Option R :=
 match args,h with
 | [(.pagg c e),(.pagg d b),(.int .i64 a)],[]=>(Ah2 N c e d b a (Ank k))
 | _,_=>none
def A68 (N:Nat):Tw:=⟨Va N,fun args h k=>by
 unfold Va;split
 exact twE (Anl ..) (Anl ..)
 rfl⟩
theorem Bwi (N:Nat):Ax Tryz.prog 126 (A68 N):=fun args h res i hh=>by
 change Va N args h (fun v i=>some (v,i))=_ at hh
 unfold Va at hh;split at hh
 exact Aa (T:=Aus N) ⟨Blx N,Ge N,Iu N,Bwf N,Q5 N,trivial⟩ follows ((Anl ..).trans hh)
 cases hh
end
end Gx

namespace Gx
open Go Go.Proofs
set_option maxRecDepth 100000
noncomputable section
variable {R:Type}
def A1z (N:Nat) (r0:Bool→LA→Bool→Option R)  (b:LA) (e:Bool) (c:LA) (d:Bool) (a:Int):Option R :=
 (cond (a==(0:Int)) (rdI .i64 (List.drop 19 b) fun j=>(rdI .i64 (List.drop 21 b) fun l=>(Bf N l (fun g=>(cond ((Nat.beq 0 0)&&((Nat.beq (List.length g) 3)&&(Nat.beq 3 3))) (cond (Nat.ble 3 (List.length g)) (r0 (j==(2:Int)) (List.take 3 g) false) none) none))))) (rdL 1 c fun m n=>(cond (Aj (IntKind.wrap .i64 (a - (1:Int))) n) (rdI .i64 (List.drop ((Int.toNat (IntKind.wrap .i64 (a - (1:Int))))*1) m) fun o=>(rdL 3 (List.drop 1 c) fun f p=>(cond (Aj (IntKind.wrap .i64 (a - (1:Int))) p) (cond (Nat.ble 3 (List.length (List.drop ((Int.toNat (IntKind.wrap .i64 (a - (1:Int))))*3) f))) (cond ((Nat.beq 0 0)&&((Nat.beq (List.length (List.take 3 (List.drop ((Int.toNat (IntKind.wrap .i64 (a - (1:Int))))*3) f))) 3)&&(Nat.beq 3 3))) (cond (Nat.ble 3 (List.length (List.take 3 (List.drop ((Int.toNat (IntKind.wrap .i64 (a - (1:Int))))*3) f)))) (r0 (o==(2:Int)) (List.take 3 (List.take 3 (List.drop ((Int.toNat (IntKind.wrap .i64 (a - (1:Int))))*3) f))) d) none) none) none) none))) none)))
def A10 (N:Nat) (b:LA) (e:Bool) (c:LA) (d:Bool) (a:Int) (r0:Bool→LA→Bool→Option R):Option R:=(A1z N r0 b e c d a)
def Ah3:=(Ai (@A10 R)).1
theorem A11:@Ah3 R=@A10 R:=(Ai _).2
def A69:Hints:={ H:=(hS (hR [2,3,4,7]) (hS (hS (hR [2,3,4,7,9]) (hN [2,4,7] (hS (hR [6,7]) hL) hL)) (hS (hR [6,7]) hL))),nils:=[],modes:=[(0,0),(3,0)],free:=[],cob:=[] }
def Aut (N:Nat):List (Nat×Tw):=[(20,Eu N)]
def Anm  (F:KF R):Bool→LA→Bool→Option R:=(fun q r s=>F (.tup [(.bool q),(.pagg r s)]) [])
theorem Ann (N:Nat) (b:LA) (e:Bool) (c:LA) (d:Bool) (a:Int) (F:KF R):Ab Tryz.prog muts (Aut N) A69 N 169 [(.pagg b e),(.pagg c d),(.int .i64 a)] [] F=(Ah3 N b e c d a (Anm F)):=by
 have hK:Ab Tryz.prog muts (Aut N) A69 N 169 [(.pagg b e),(.pagg c d),(.int .i64 a)] [] F=(A1z N (Anm F) b e c d a):=by kernel_rfl
 rw [A11]
 exact hK
def Vb (N:Nat) (args:List AV) (h:Ak) (k:KF R):Option R :=
 match args,h with
 | [(.pagg b e),(.pagg c d),(.int .i64 a)],[]=>(Ah3 N b e c d a (Anm k))
 | _,_=>none
def A7a (N:Nat):Tw:=⟨Vb N,fun args h k=>by
 unfold Vb;split
 exact twE (Ann ..) (Ann ..)
 rfl⟩
theorem Bwj (N:Nat):Ax Tryz.prog 169 (A7a N):=fun args h res i hh=>by
 change Vb N args h (fun v i=>some (v,i))=_ at hh
 unfold Vb at hh;split at hh
 exact Aa (T:=Aut N) ⟨Ge N,trivial⟩ follows ((Ann ..).trans hh)
 cases hh
def Ah4 (N:Nat)  (r0:Bool→Option R) (i d:Bool) (a:LA) (f:Bool) (c:LA) (b:Bool) (e:LA)   (l m:Bool) (j:LA):Option R :=
 (cond m (cond (Nat.ble 3 (List.length e)) (cond (Nat.ble 3 (List.length c)) (Tt N (List.take 3 e) false (List.take 3 c) f (fun t=>(rdI .i64 (List.drop 6 a) fun u=>(Bf N u (fun w=>(Cf N t false w false (fun x=>(cond ((decide (x≤(0:Int)))==true) (cond (Nat.ble 3 (List.length c)) (cond (Nat.ble 3 (List.length j)) (Tt N (List.take 3 c) f (List.take 3 j) b (fun y=>(rdI .i64 (List.drop 7 a) fun z=>(Bf N z (fun aa=>(Cf N y false aa false (fun ab=>(r0 (cond true (decide (ab≤(0:Int))) false))))))))) none) none) (r0 false))))))))) none) none) (cond l (cond (Nat.ble 3 (List.length e)) (rdI .i64 (List.drop 8 a) fun ac=>(Bf N ac (fun ad=>(Cf N (List.take 3 e) false ad false (fun ae=>(r0 (decide (ae≤(0:Int))))))))) none) (cond i (cond (Nat.ble 3 (List.length c)) (rdI .i64 (List.drop 9 a) fun af=>(Bf N af (fun ag=>(Cf N (List.take 3 c) f ag false (fun ah=>(r0 (decide (ah≤(0:Int))))))))) none) (r0 true))))
def Ano (N:Nat)  (r0:Bool→Option R) (i d:Bool) (a:LA) (f:Bool) (c:LA) (b:Bool) (e:LA) (l m:Bool) (j:LA):Option R:=(Ah4 N r0 i d a f c b e l m j)
def A12 (N:Nat) (r0:Bool→Option R) (q0:Bool→Bool→LA→LA→Bool→Bool→LA→Option R) (a:LA) (d:Bool) (n:LA) (b:Bool) (g:Int):Option R :=
 (cond (Nat.ble 22 (List.length a)) (cond (Nat.ble 3 (List.length n)) (Ah3 N (List.take 22 a) d (List.take 3 n) b g (fun i c f=>(cond ((Nat.beq 0 0)&&((Nat.beq (List.length c) 3)&&(Nat.beq 3 3))) (rdL 1 n fun ai aj=>(cond (Aj g aj) (rdI .i64 (List.drop ((Int.toNat g)*1) ai) fun p=>(rdL 3 (List.drop 1 n) fun o ak=>(cond (Aj g ak) (cond (Nat.ble 3 (List.length (List.drop ((Int.toNat g)*3) o))) (cond ((Nat.beq 0 0)&&((Nat.beq (List.length (List.take 3 (List.drop ((Int.toNat g)*3) o))) 3)&&(Nat.beq 3 3))) (cond (Nat.ble 3 (List.length (List.take 3 (List.drop ((Int.toNat g)*3) o)))) (rdL 3 (List.drop 2 n) fun q al=>(cond (Aj g al) (cond (Nat.ble 3 (List.length (List.drop ((Int.toNat g)*3) q))) (Lw N (List.take 3 (List.take 3 (List.drop ((Int.toNat g)*3) o))) b (List.take 3 (List.drop ((Int.toNat g)*3) q)) b (fun e=>(cond ((Nat.beq 0 0)&&((Nat.beq (List.length e) 3)&&(Nat.beq 3 3))) (cond ((p==(2:Int))==true) (q0 i f c e (p==(2:Int)) (cond true i false) (List.take 3 (List.drop ((Int.toNat g)*3) o))) (q0 i f c e (p==(2:Int)) false (List.take 3 (List.drop ((Int.toNat g)*3) o)))) none))) none) none)) none) none) none) none))) none)) none))) none) none)
def A13 (N:Nat) (a:LA) (d:Bool) (n:LA) (b:Bool) (g:Int) (r0:Bool→Option R):Option R:=(A12 N r0 (fun i f c e l m j=>(Ano N r0 i d a f c b e l m j)) a d n b g)
def Ah5:=(Ai (@A13 R)).1
theorem A14:@Ah5 R=@A13 R:=(Ai _).2
def Ze:Hints:={ H:=(hS (hR [2,3,4]) (hS (hR [2,3,4,7,8]) (hS (hR [2,3,4,7,8,9]) (hS (hR [2,3,4,7,8,9,10]) (hS (hR [3,7,8,9,10,11]) (hS (hS (hJ (hR [3,7,8,9,10,11,37]) (hS (hS (hR [6]) hL) (hS (hR [3,7,8,11,60]) (hS (hS (hR [6]) hL) (hS (hR [3,8,68]) (hS (hS (hR [6]) hL) hL)))))) hL) (hS (hR [6]) hL))))))),nils:=[],modes:=[],free:=[],cob:=[] }
def Adu (N:Nat):List (Nat×Tw):=[(169,A7a N),(32,Ml N),(33,Agy N),(20,Eu N),(25,Gl N)]
def Adv (N:Nat):Env:=mkE 76 Ze (Adu N)
def Buo (N:Nat) (F:KF R):=Ao (Adv N) Tryz.f127 Ze.modes [] F
def A7b (N:Nat) (F:KF R):=atF (Adv N) [] N Tryz.f127 Ze (Buo N F)
def Pf  (F:KF R):Bool→Option R:=(fun am=>F (.bool am) [])
def Zf (i d:Bool) (a:LA) (f:Bool) (c:LA) (b:Bool) (e:LA) (l m:Bool) (j:LA):St:={ s:=[(3,(.optr 48 0)),(7,(.bool i)),(8,(.optr 128 0)),(9,(.bool l)),(10,(.optr 160 0)),(11,(.optr 176 0)),(37,(.bool m))],h:=[(48,⟨false,false,true,d,0,a,false⟩),(128,⟨false,false,true,f,0,c,false⟩),(160,⟨false,false,true,b,0,j,false⟩),(176,⟨false,false,true,false,0,e,false⟩)] }
def A7c (N:Nat) (F:KF R):St→Option R:=Cg (Adv N) [] N (A7b N F [1,1,1,1,1,0,0,1] [])
def A7d (N:Nat) (F:KF R):St→Option R:=Ck (Adv N) [] N (A7b N F [1,1,1,1,1,0,0,1] [])
theorem Bjt (N:Nat)  (F:KF R) (i d:Bool) (a:LA) (f:Bool) (c:LA) (b:Bool) (e:LA):∀ (l m:Bool) (j:LA),A7d N F (Zf i d a f c b e l m j)=(Ano N (Pf F) i d a f c b e l m j):=by
 intro l m j
 have hK:A7d N F (Zf i d a f c b e l m j)=(Ah4 N (Pf F) i d a f c b e l m j):=by kernel_rfl
 exact hK
theorem Anp (N:Nat) (a:LA) (d:Bool) (n:LA) (b:Bool) (g:Int) (F:KF R):Ab Tryz.prog muts (Adu N) Ze N 127 [(.pagg a d),(.pagg n b),(.int .i64 g)] [] F=(Ah5 N a d n b g (Pf F)):=by
 have e1:=funext fun i=>funext fun f=>funext fun c=>funext fun e=>funext fun l=>funext fun m=>funext fun j=>(show A7c N F (Zf i d a f c b e l m j)=_ from (Aw ..).trans (Bjt N F i d a f c b e l m j))
 have hK:Ab Tryz.prog muts (Adu N) Ze N 127 [(.pagg a d),(.pagg n b),(.int .i64 g)] [] F=(A12 N (Pf F) (fun i f c e l m j=>A7c N F (Zf i d a f c b e l m j)) a d n b g):=by kernel_rfl
 rw [A14]
 exact hK.trans (by rw [e1];rfl)
def Vc (N:Nat) (args:List AV) (h:Ak) (k:KF R):Option R :=
 match args,h with
 | [(.pagg a d),(.pagg n b),(.int .i64 g)],[]=>(Ah5 N a d n b g (Pf k))
 | _,_=>none
def A7e (N:Nat):Tw:=⟨Vc N,fun args h k=>by
 unfold Vc;split
 exact twE (Anp ..) (Anp ..)
 rfl⟩
theorem Bwk (N:Nat):Ax Tryz.prog 127 (A7e N):=fun args h res r hh=>by
 change Vc N args h (fun v r=>some (v,r))=_ at hh
 unfold Vc at hh;split at hh
 exact Aa (T:=Adu N) ⟨Bwj N,Q5 N,Aso N,Ge N,Iu N,trivial⟩ follows ((Anp ..).trans hh)
 cases hh
def Zg (N:Nat)  (r0:Int→Int→Option R) (c:Int) (d:Bool) (a:LA) (e:Bool) (b:LA) (k1:Int→LA→Option R)  (f:Int) (g:LA):Option R :=
 (cond (decide (f<c)) (cond (Nat.ble 22 (List.length a)) (cond (Nat.ble 2 (List.length g)) (rdL 1 b fun m o=>(cond (Aj f o) (rdI .i64 (List.drop ((Int.toNat f)*1) m) fun p=>(Apn N (List.take 22 a) d f (List.take 2 g) false p (fun i q=>(cond ((Nat.beq (List.length i) 2)&&((Nat.ble 2 2)&&(!false))) (cond (!q) (r0 f 16) (cond (Nat.ble 22 (List.length a)) (cond (Nat.ble 3 (List.length b)) (Ah2 N (List.take 22 a) d (List.take 3 b) e f (fun r=>(cond (!r) (r0 f 3) (cond (Nat.ble 22 (List.length a)) (cond (Nat.ble 3 (List.length b)) (Ah5 N (List.take 22 a) d (List.take 3 b) e f (fun t=>(cond (!t) (r0 f 64) (cond (Nat.ble 2 (List.length (setCells [(.int .i64 0),(.int .i64 0)] 0 i))) (cond ((Nat.beq (List.length (List.take 2 (setCells [(.int .i64 0),(.int .i64 0)] 0 i))) 2)&&((Nat.ble 2 (List.length g))&&(!false))) (k1 (IntKind.wrap .i64 (f+(1:Int))) (setCells g 0 (List.take 2 (setCells [(.int .i64 0),(.int .i64 0)] 0 i)))) none) none)))) none) none)))) none) none)) none)))) none)) none) none) (r0 c 0))
def Og (N:Nat)  (r0:Int→Int→Option R) (c:Int) (d:Bool) (a:LA) (e:Bool) (b:LA):Nat→Int→LA→Option R
 | 0,_,_=>none
 | n+1,f,g=>(Zg N r0 c d a e b (Og N r0 c d a e b n) f g)
def Anq (N:Nat)  (r0:Int→Int→Option R) (c:Int) (d:Bool) (a:LA) (e:Bool) (b:LA)  (q1:Int→LA→Option R) :Option R :=
 (cond (Nat.ble 22 (List.length a)) (M6 N (List.take 22 a) d (fun j=>(cond ((Nat.beq (List.length j) 2)&&((Nat.ble 2 2)&&(!false))) (q1 0 (setCells [(.int .i64 0),(.int .i64 0)] 0 j)) none))) none)
def Auu (N:Nat)  (r0:Int→Int→Option R) (c:Int) (d:Bool) (a:LA) (e:Bool) (b:LA) :Option R:=(Anq N r0 c d a e b (fun f g=>(Og N r0 c d a e b N f g)))
def Bbj (N:Nat) (r0:Int→Int→Option R) (q0:Option R) (a:LA) (d:Bool) (c:Int) (b:LA) (e:Bool):Option R :=
 (cond (Nat.ble 22 (List.length a)) (Ao8 N (List.take 22 a) d c (fun u=>(cond (!u) (r0 0 1) (rdL 1 b fun ab w=>(cond ((((w:Nat):Int) != c)==false) (rdL 3 (List.drop 1 b) fun ac x=>(cond ((cond false true (((x:Nat):Int) != c))==false) (rdL 3 (List.drop 2 b) fun ad y=>(cond (cond false true (((y:Nat):Int) != c)) (r0 0 4) q0)) (r0 0 4))) (r0 0 4)))))) none)
def Bbk (N:Nat) (a:LA) (d:Bool) (c:Int) (b:LA) (e:Bool) (r0:Int→Int→Option R):Option R:=(Bbj N r0 (Auu N r0 c d a e b) a d c b e)
def Ae2:=(Ai (@Bbk R)).1
theorem A7f:@Ae2 R=@Bbk R:=(Ai _).2
def Adw:Hints:={ H:=(hS (hR [1,3,5]) (hS (hS (hR [1,3,5,15]) (hN [1,3,5] (hS (hR [6,7]) hL) hL)) (hJ (hS (hR [1,3,5,34]) (hN [1,3,5] (hS (hR [6,7]) hL) hL)) (hS (hR [1,3,5,8]) (hS (hS (hR [1,3,5,8,9]) (hN [1] (hN [1,3,5,8,9] (hS (hS (hR [1,3,5,8,9,39]) (hN [1,3,5,8,9] hL hL)) (hS (hN [1,3,5,8,9] (hS (hR [1,3,5,8,9,10,11]) (hS (hN [1,3,5,8,9,10] (hS (hR [1,3,5,8,9,10,54]) (hN [1,3,5,8,9,10] (hS (hR [6,7]) hL) (hS (hR [1,3,5,8,9,10,58]) (hN [1,3,5,8,9,10] (hS (hR [6,7]) hL) (hS (hR [1,3,5,8,9,10,65]) (hN [1,3,5,8,9,10] (hS (hR [6,7]) hL) hL)))))) hL) (hR [1,3,5,8,9]))) hL) (hR [1,3,5,8,9]))) hL) hL)) (hS (hR [6,7]) hL)))))),nils:=[],modes:=[],free:=[],cob:=[] }
def Ald (N:Nat):List (Nat×Tw):=[(17,Bes N),(113,U0 N),(121,A1v N),(126,A68 N),(127,A7e N)]
def R3 (N:Nat):Env:=mkE 74 Adw (Ald N)
def Bwl (N:Nat) (F:KF R):=Ao (R3 N) Tryz.f78 Adw.modes [] F
def Adx (N:Nat) (F:KF R):=atF (R3 N) [] N Tryz.f78 Adw (Bwl N F)
def J5  (F:KF R):Int→Int→Option R:=(fun z aa=>F (.tup [(.int .i64 z),(.int .i64 aa)]) [])
def Oh (c:Int) (d:Bool) (a:LA) (e:Bool) (b:LA) (f:Int) (g:LA):St:={ s:=[(1,(.int .i64 c)),(3,(.optr 300000 0)),(5,(.optr 300001 0)),(8,(.optr 300002 0)),(9,(.int .i64 f))],h:=[(300000,⟨false,false,true,d,0,a,false⟩),(300001,⟨false,false,true,e,0,b,false⟩),(300002,⟨false,false,true,false,0,g,false⟩)] }
def Bfi (N:Nat) (F:KF R):St→Option R:=Bq (R3 N) [] N (Adx N F [1,1,1,1,0,1,0] []) N
def Ady (N:Nat) (F:KF R) (n:Nat):St→Option R:=A4 (R3 N) [] N (Adx N F [1,1,1,1,0,1,0] []) n
def Adz (c:Int) (d:Bool) (a:LA) (e:Bool) (b:LA):St:={ s:=[(1,(.int .i64 c)),(3,(.optr 300000 0)),(5,(.optr 300001 0))],h:=[(300000,⟨false,false,true,d,0,a,false⟩),(300001,⟨false,false,true,e,0,b,false⟩)] }
def Bfj (N:Nat) (F:KF R):St→Option R:=Cg (R3 N) [] N (Adx N F [1,1,1] [])
def Bfk (N:Nat) (F:KF R):St→Option R:=Ck (R3 N) [] N (Adx N F [1,1,1] [])
theorem Bnx (N:Nat)  (F:KF R) (c:Int) (d:Bool) (a:LA) (e:Bool) (b:LA):∀ (n:Nat) (f:Int) (g:LA),Ady N F n (Oh c d a e b f g)=(Og N (J5 F) c d a e b n f g):=by
 intro n
 induction n with
 | zero=>intros;kernel_rfl
 | succ n ih =>
  intro f g
  have e0:=funext fun f=>funext fun g=>(show Ady N F n (Oh c d a e b f g)=_ from ih f g)
  have hK:Ady N F (n+1) (Oh c d a e b f g)=(Zg N (J5 F) c d a e b (fun f g=>Ady N F n (Oh c d a e b f g)) f g):=by kernel_rfl
  exact hK.trans (by rw [e0];rfl)
theorem Bny (N:Nat)  (F:KF R) (c:Int) (d:Bool) (a:LA) (e:Bool) (b:LA):Bfk N F (Adz c d a e b)=(Auu N (J5 F) c d a e b):=by
 have e1:=funext fun f=>funext fun g=>(show Bfi N F (Oh c d a e b f g)=_ from (Ap ..).trans (Bnx N F c d a e b N f g))
 have hK:Bfk N F (Adz c d a e b)=(Anq N (J5 F) c d a e b (fun f g=>Bfi N F (Oh c d a e b f g))):=by kernel_rfl
 exact hK.trans (by rw [e1];rfl)
theorem Auv (N:Nat) (a:LA) (d:Bool) (c:Int) (b:LA) (e:Bool) (F:KF R):Ab Tryz.prog muts (Ald N) Adw N 78 [(.pagg a d),(.int .i64 c),(.pagg b e)] [] F=(Ae2 N a d c b e (J5 F)):=by
 have e1:=(show Bfj N F (Adz c d a e b)=_ from (Aw ..).trans (Bny N F c d a e b))
 have hK:Ab Tryz.prog muts (Ald N) Adw N 78 [(.pagg a d),(.int .i64 c),(.pagg b e)] [] F=(Bbj N (J5 F) (Bfj N F (Adz c d a e b)) a d c b e):=by kernel_rfl
 rw [A7f]
 exact hK.trans (by rw [e1];rfl)
def Zh (N:Nat) (args:List AV) (h:Ak) (k:KF R):Option R :=
 match args,h with
 | [(.pagg a d),(.int .i64 c),(.pagg b e)],[]=>(Ae2 N a d c b e (J5 k))
 | _,_=>none
def Auw (N:Nat):Tw:=⟨Zh N,fun args h k=>by
 unfold Zh;split
 exact twE (Auv ..) (Auv ..)
 rfl⟩
theorem Bfl (N:Nat):Ax Tryz.prog 78 (Auw N):=fun args h res l hh=>by
 change Zh N args h (fun v l=>some (v,l))=_ at hh
 unfold Zh at hh;split at hh
 exact Aa (T:=Ald N) ⟨B0z N,Ahy N,Bm0 N,Bwi N,Bwk N,trivial⟩ follows ((Auv ..).trans hh)
 cases hh
def Xi (N:Nat) (r0:Bool→Option R)  (c:LA) (d b:Bool) (a:LA):Option R :=
 (cond (Nat.ble 2 (List.length c)) (cond ((!d)||(Bm (List.take 2 c))) (cond (Nat.ble 2 (List.length a)) (cond ((!b)||(Bm (List.take 2 a))) (cond ((Nat.ble 1 2)&&((Nat.beq (List.length (List.take 2 c)) 2)&&((Nat.beq (List.length (List.take 2 a)) 2)&&(true&&(!false))))) (rdI .i64 (List.take 2 c) fun f=>(rdI .i64 (List.take 2 a) fun g=>(rdI .i64 (List.drop 1 (List.take 2 c)) fun i=>(rdI .i64 (List.drop 1 (List.take 2 a)) fun j=>(r0 ((f==g)&&((i==j)&&true))))))) none) none) none) none) none)
def Xj (N:Nat) (c:LA) (d b:Bool) (a:LA) (r0:Bool→Option R):Option R:=(Xi N r0 c d b a)
def Kp:=(Ai (@Xj R)).1
theorem Abx:@Kp R=@Xj R:=(Ai _).2
def Ah6:Hints:={ H:=(hS (hR [1,2]) (hS (hR [3]) hL)),nils:=[],modes:=[],free:=[],cob:=[] }
def Vd (N:Nat):List (Nat×Tw):=[]
def Q9 (b:Bool) (a:LA) (F:KF R):Bool→Option R:=(fun l=>F (.bool l) [(100000,⟨false,false,true,b,0,a,false⟩)])
theorem Ra (N:Nat) (c:LA) (d b:Bool) (a:LA) (F:KF R):Ab Tryz.prog muts (Vd N) Ah6 N 137 [(.pagg c d),(.optr 100000 0)] [(100000,⟨false,false,true,b,0,a,false⟩)] F=(Kp N c d b a (Q9 b a F)):=by
 have hK:Ab Tryz.prog muts (Vd N) Ah6 N 137 [(.pagg c d),(.optr 100000 0)] [(100000,⟨false,false,true,b,0,a,false⟩)] F=(Xi N (Q9 b a F) c d b a):=by kernel_rfl
 rw [Abx]
 exact hK
def Ib (N:Nat) (args:List AV) (h:Ak) (k:KF R):Option R :=
 match args,h with
 | [(.pagg c d),(.optr 100000 0)],[(100000,⟨false,false,true,b,0,a,false⟩)]=>(Kp N c d b a (Q9 b a k))
 | _,_=>none
def Ah7 (N:Nat):Tw:=⟨Ib N,fun args h k=>by
 unfold Ib;split
 exact twE (Ra ..) (Ra ..)
 rfl⟩
theorem Bbl (N:Nat):Ax Tryz.prog 137 (Ah7 N):=fun args h res e hh=>by
 change Ib N args h (fun v e=>some (v,e))=_ at hh
 unfold Ib at hh;split at hh
 exact Aa (T:=Vd N) trivial follows ((Ra ..).trans hh)
 cases hh
def Bu (N:Nat)  (r0:Int→Option R) (c:LA) (e:Nat) (g f a:Bool) (b:LA) (k0:Int→Int→Option R)  (i d:Int):Option R :=
 (cond (decide (d<i)) (cond (Aj d e) (cond (Nat.ble 2 (List.length (List.drop ((Int.toNat d)*2) c))) (cond ((!f)||(Bm (List.take 2 (List.drop ((Int.toNat d)*2) c)))) (Kp N (List.take 2 (List.drop ((Int.toNat d)*2) c)) false a b (fun l=>(cond l (r0 d) (k0 i (IntKind.wrap .i64 (d+(1:Int))))))) none) none) none) (r0 (-1)))
def Az (N:Nat)  (r0:Int→Option R) (c:LA) (e:Nat) (g f a:Bool) (b:LA):Nat→Int→Int→Option R
 | 0,_,_=>none
 | n+1,i,d=>(Bu N r0 c e g f a b (Az N r0 c e g f a b n) i d)
def B6 (N:Nat) (r0:Int→Option R) (q0:Int→Int→Option R) (c:LA) (e:Nat) (g f a:Bool) (b:LA):Option R :=
 (q0 ((e:Nat):Int) 0)
def B7 (N:Nat) (c:LA) (e:Nat) (g f a:Bool) (b:LA) (r0:Int→Option R):Option R:=(B6 N r0 (fun i d=>(Az N r0 c e g f a b N i d)) c e g f a b)
def Bi:=(Ai (@B7 R)).1
theorem C0:@Bi R=@B7 R:=(Ai _).2
def A7:Hints:={ H:=(hS (hR [0,1]) (hS (hS (hR [0,1,7,8]) (hS (hN [0,1,7,8] (hS (hR [0,1,7,8,9]) (hS (hN [0,1,7,8] hL hL) (hS (hN [0,1,7,8] (hS (hR [0,1,5,7,8]) (hS (hR [0,1,5,7,8,16]) (hN [0,1,7,8] (hS (hR [4]) hL) hL))) hL) (hR [0,1,7,8])))) hL) hL)) (hS (hR [4]) hL))),nils:=[],modes:=[],free:=[],cob:=[] }
def A9 (N:Nat):List (Nat×Tw):=[(137,Ah7 N)]
def Ba (N:Nat):Env:=mkE 19 A7 (A9 N)
def Fo (N:Nat) (F:KF R):=Ao (Ba N) Tryz.f119 A7.modes [100000] F
def C3 (N:Nat) (F:KF R):=atF (Ba N) [100000] N Tryz.f119 A7 (Fo N F)
def A0 (a:Bool) (b:LA) (F:KF R):Int→Option R:=(fun m=>F (.int .i64 m) [(100000,⟨false,false,true,a,0,b,false⟩)])
def As (c:LA) (e:Nat) (g f a:Bool) (b:LA) (i d:Int):St:={ s:=[(0,(.imm c e 2 g f)),(1,(.fn 137 [(.optr 100000 0)])),(7,(.int .i64 i)),(8,(.int .i64 d))],h:=[(100000,⟨false,false,true,a,0,b,false⟩)] }
def C4 (N:Nat) (F:KF R):St→Option R:=Bq (Ba N) [100000] N (C3 N F [1,0,1,0] []) N
def A8 (N:Nat) (F:KF R) (n:Nat):St→Option R:=A4 (Ba N) [100000] N (C3 N F [1,0,1,0] []) n
theorem Fc (N:Nat)  (F:KF R) (c:LA) (e:Nat) (g f a:Bool) (b:LA):∀ (n:Nat) (i d:Int),A8 N F n (As c e g f a b i d)=(Az N (A0 a b F) c e g f a b n i d):=by
 intro n
 induction n with
 | zero=>intros;kernel_rfl
 | succ n ih =>
  intro i d
  have e0:=funext fun i=>funext fun d=>(show A8 N F n (As c e g f a b i d)=_ from ih i d)
  have hK:A8 N F (n+1) (As c e g f a b i d)=(Bu N (A0 a b F) c e g f a b (fun i d=>A8 N F n (As c e g f a b i d)) i d):=by kernel_rfl
  exact hK.trans (by rw [e0];rfl)
theorem Bw (N:Nat) (c:LA) (e:Nat) (g f a:Bool) (b:LA) (F:KF R):Ab Tryz.prog muts (A9 N) A7 N 119 [(.imm c e 2 g f),(.fn 137 [(.optr 100000 0)])] [(100000,⟨false,false,true,a,0,b,false⟩)] F=(Bi N c e g f a b (A0 a b F)):=by
 have e1:=funext fun i=>funext fun d=>(show C4 N F (As c e g f a b i d)=_ from (Ap ..).trans (Fc N F c e g f a b N i d))
 have hK:Ab Tryz.prog muts (A9 N) A7 N 119 [(.imm c e 2 g f),(.fn 137 [(.optr 100000 0)])] [(100000,⟨false,false,true,a,0,b,false⟩)] F=(B6 N (A0 a b F) (fun i d=>C4 N F (As c e g f a b i d)) c e g f a b):=by kernel_rfl
 rw [C0]
 exact hK.trans (by rw [e1];rfl)
def A5 (N:Nat) (args:List AV) (h:Ak) (k:KF R):Option R :=
 match args,h with
 | [(.imm c e 2 g f),(.fn 137 [(.optr 100000 0)])],[(100000,⟨false,false,true,a,0,b,false⟩)]=>(Bi N c e g f a b (A0 a b k))
 | _,_=>none
def C5 (N:Nat):Tw:=⟨A5 N,fun args h k=>by
 unfold A5;split
 exact twE (Bw ..) (Bw ..)
 rfl⟩
theorem F7 (N:Nat):Ax Tryz.prog 119 (C5 N):=fun args h res j hh=>by
 change A5 N args h (fun v j=>some (v,j))=_ at hh
 unfold A5 at hh;split at hh
 exact Aa (T:=A9 N) ⟨Bbl N,trivial⟩ follows ((Bw ..).trans hh)
 cases hh
def B8 (N:Nat) (r0:Bool→Option R)  (c:LA) (d:Nat) (f e a:Bool) (b:LA):Option R :=
 (Bi N c d false e a b (fun i=>(r0 (decide (i≥(0:Int))))))
def B9 (N:Nat) (c:LA) (d:Nat) (f e a:Bool) (b:LA) (r0:Bool→Option R):Option R:=(B8 N r0 c d f e a b)
def Bj:=(Ai (@B9 R)).1
theorem C1:@Bj R=@B9 R:=(Ai _).2
def C6:Hints:={ H:=(hS (hR [0,1]) (hS (hR [4]) hL)),nils:=[],modes:=[],free:=[],cob:=[] }
def B3 (N:Nat):List (Nat×Tw):=[(119,C5 N)]
def Bx (a:Bool) (b:LA) (F:KF R):Bool→Option R:=(fun j=>F (.bool j) [(100000,⟨false,false,true,a,0,b,false⟩)])
theorem By (N:Nat) (c:LA) (d:Nat) (f e a:Bool) (b:LA) (F:KF R):Ab Tryz.prog muts (B3 N) C6 N 138 [(.imm c d 2 f e),(.fn 137 [(.optr 100000 0)])] [(100000,⟨false,false,true,a,0,b,false⟩)] F=(Bj N c d f e a b (Bx a b F)):=by
 have hK:Ab Tryz.prog muts (B3 N) C6 N 138 [(.imm c d 2 f e),(.fn 137 [(.optr 100000 0)])] [(100000,⟨false,false,true,a,0,b,false⟩)] F=(B8 N (Bx a b F) c d f e a b):=by kernel_rfl
 rw [C1]
 exact hK
def A6 (N:Nat) (args:List AV) (h:Ak) (k:KF R):Option R :=
 match args,h with
 | [(.imm c d 2 f e),(.fn 137 [(.optr 100000 0)])],[(100000,⟨false,false,true,a,0,b,false⟩)]=>(Bj N c d f e a b (Bx a b k))
 | _,_=>none
def C7 (N:Nat):Tw:=⟨A6 N,fun args h k=>by
 unfold A6;split
 exact twE (By ..) (By ..)
 rfl⟩
theorem F8 (N:Nat):Ax Tryz.prog 138 (C7 N):=fun args h res g hh=>by
 change A6 N args h (fun v g=>some (v,g))=_ at hh
 unfold A6 at hh;split at hh
 exact Aa (T:=B3 N) ⟨F7 N,trivial⟩ follows ((By ..).trans hh)
 cases hh
def Anr (N:Nat) (r0:Int→Option R)  (a:LA) (d:Bool) (b:LA) (e:Bool) (c:LA) (f:Bool):Option R :=
 (rdI .i64 b fun i=>(cond ((i != (0:Int))==false) (rdI .i64 c fun j=>(cond ((cond false true (j==(0:Int)))==false) (cond (Nat.ble 22 (List.length a)) (cond (Nat.ble 2 (List.length b)) (cond ((!e)||(Bm (List.take 2 b))) (Yv N (List.take 22 a) d (List.take 2 b) false (fun l m=>(Bj N l m false false f c (fun n=>(cond (cond false true (!n)) (r0 0) (rdI .i64 (List.drop 1 b) fun o=>(rdI .i64 (List.drop 15 a) fun p=>(cond (decide (o≤p)) (rdI .i64 (List.drop 13 a) fun q=>(r0 q)) (rdI .i64 (List.drop 14 a) fun r=>(r0 r)))))))))) none) none) none) (r0 0))) (r0 0)))
def Ans (N:Nat) (a:LA) (d:Bool) (b:LA) (e:Bool) (c:LA) (f:Bool) (r0:Int→Option R):Option R:=(Anr N r0 a d b e c f)
def Ve:=(Ai (@Ans R)).1
theorem Apo:@Ve R=@Ans R:=(Ai _).2
def Awm:Hints:={ H:=(hS (hR [3,4,5]) (hS (hR [3,4,5,7]) (hS (hS (hR [3,4,24]) (hN [3,4] (hS (hR [6]) hL) hL)) (hS (hS (hR [3,29]) (hN [3] (hS (hR [6]) hL) hL)) (hS (hR [6]) hL))))),nils:=[],modes:=[],free:=[],cob:=[] }
def Ah8 (N:Nat):List (Nat×Tw):=[(118,Baw N),(138,C7 N)]
def Abe  (F:KF R):Int→Option R:=(fun s=>F (.int .i64 s) [])
theorem Abf (N:Nat) (a:LA) (d:Bool) (b:LA) (e:Bool) (c:LA) (f:Bool) (F:KF R):Ab Tryz.prog muts (Ah8 N) Awm N 85 [(.pagg a d),(.pagg b e),(.pagg c f)] [] F=(Ve N a d b e c f (Abe F)):=by
 have hK:Ab Tryz.prog muts (Ah8 N) Awm N 85 [(.pagg a d),(.pagg b e),(.pagg c f)] [] F=(Anr N (Abe F) a d b e c f):=by kernel_rfl
 rw [Apo]
 exact hK
def Oi (N:Nat) (args:List AV) (h:Ak) (k:KF R):Option R :=
 match args,h with
 | [(.pagg a d),(.pagg b e),(.pagg c f)],[]=>(Ve N a d b e c f (Abe k))
 | _,_=>none
def Awn (N:Nat):Tw:=⟨Oi N,fun args h k=>by
 unfold Oi;split
 exact twE (Abf ..) (Abf ..)
 rfl⟩
theorem Bnz (N:Nat):Ax Tryz.prog 85 (Awn N):=fun args h res g hh=>by
 change Oi N args h (fun v g=>some (v,g))=_ at hh
 unfold Oi at hh;split at hh
 exact Aa (T:=Ah8 N) ⟨Bte N,F8 N,trivial⟩ follows ((Abf ..).trans hh)
 cases hh
end
end Gx

namespace Gx
open Go Go.Proofs
set_option maxRecDepth 100000
noncomputable section
variable {R:Type}
def Ale (N:Nat)  (r0:LA→Int→Option R) (l:Nat) (g:Int) (e:Bool) (c:LA) (f:Bool) (d i:LA) (k0:Int→LA→LA→Option R)  (a:Int) (b j:LA):Option R :=
 (cond (decide (a<g)) (cond (Nat.ble 3 (List.length b)) (cond (Nat.ble 22 (List.length c)) (cond (Nat.ble 2 (List.length j)) (cond (Aj a l) (cond (Nat.ble 2 (List.length (List.drop (0+((Int.toNat a)*2)) i))) (Ve N (List.take 22 c) e (List.take 2 j) false (List.take 2 (List.drop (0+((Int.toNat a)*2)) i)) false (fun aa=>(B0 N aa (fun ab=>(Mi N (List.take 3 b) false ab false (fun m=>(cond ((Nat.beq (List.length m) 3)&&((Nat.ble 3 (List.length b))&&(!false))) (cond (Aj a l) (cond (Nat.ble 2 (List.length (List.drop (0+((Int.toNat a)*2)) i))) (cond ((Nat.beq (List.length (List.take 2 (List.drop (0+((Int.toNat a)*2)) i))) 2)&&((Nat.ble 2 (List.length j))&&(!false))) (rdL 1 d fun ac ad=>(cond (Aj a ad) (rdI .i64 (List.drop ((Int.toNat a)*1) ac) fun ae=>(cond (ae != (2:Int)) (k0 (IntKind.wrap .i64 (a+(1:Int))) (setCells b 0 m) (setCells j 0 (List.take 2 (List.drop (0+((Int.toNat a)*2)) i)))) (cond (Nat.ble 3 (List.length (setCells b 0 m))) (rdI .i64 (List.drop 5 c) fun af=>(B0 N af (fun ag=>(Mi N (List.take 3 (setCells b 0 m)) false ag false (fun o=>(cond ((Nat.beq (List.length o) 3)&&((Nat.ble 3 (List.length (setCells b 0 m)))&&(!false))) (cond (Nat.ble 3 (List.length (setCells (setCells b 0 m) 0 o))) (cond (Nat.ble 22 (List.length c)) (rdL 3 (List.drop 1 d) fun q ah=>(cond (Aj a ah) (cond (Nat.ble 3 (List.length (List.drop ((Int.toNat a)*3) q))) (Iv N (List.take 22 c) e (List.take 3 (List.drop ((Int.toNat a)*3) q)) f (fun ai=>(Mi N (List.take 3 (setCells (setCells b 0 m) 0 o)) false ai false (fun p=>(cond ((Nat.beq (List.length p) 3)&&((Nat.ble 3 (List.length (setCells (setCells b 0 m) 0 o)))&&(!false))) (cond (Nat.ble 3 (List.length (setCells (setCells (setCells b 0 m) 0 o) 0 p))) (rdI .i64 (List.drop 17 c) fun aj=>(rdL 3 (List.drop 2 d) fun r ak=>(cond (Aj a ak) (cond (Nat.ble 3 (List.length (List.drop ((Int.toNat a)*3) r))) (Ao6 N aj (List.take 3 (List.drop ((Int.toNat a)*3) r)) f (fun al=>(Mi N (List.take 3 (setCells (setCells (setCells b 0 m) 0 o) 0 p)) false al false (fun t=>(cond ((Nat.beq (List.length t) 3)&&((Nat.ble 3 (List.length (setCells (setCells (setCells b 0 m) 0 o) 0 p)))&&(!false))) (k0 (IntKind.wrap .i64 (a+(1:Int))) (setCells (setCells (setCells (setCells b 0 m) 0 o) 0 p) 0 t) (setCells j 0 (List.take 2 (List.drop (0+((Int.toNat a)*2)) i)))) none))))) none) none))) none) none))))) none) none)) none) none) none)))))) none))) none)) none) none) none) none))))))) none) none) none) none) none) (cond (Nat.ble 3 (List.length b)) (cond ((Nat.beq 0 0)&&((Nat.beq (List.length (List.take 3 b)) 3)&&(Nat.beq 3 3))) (cond (Nat.ble 3 (List.length (List.take 3 b))) (r0 (List.take 3 (List.take 3 b)) 0) none) none) none))
def Xk (N:Nat)  (r0:LA→Int→Option R) (l:Nat) (g:Int) (e:Bool) (c:LA) (f:Bool) (d i:LA):Nat→Int→LA→LA→Option R
 | 0,_,_,_=>none
 | n+1,a,b,j=>(Ale N r0 l g e c f d i (Xk N r0 l g e c f d i n) a b j)
def Bup (N:Nat) (r0:LA→Int→Option R) (q0:Nat→LA→Int→LA→LA→Option R) (c:LA) (e:Bool) (g:Int) (d:LA) (f:Bool):Option R :=
 (cond (Nat.ble 22 (List.length c)) (cond (Nat.ble 3 (List.length d)) (Apk N (List.take 22 c) e g (List.take 3 d) f (fun aq u=>(cond (u != (0:Int)) (r0 [(.bool false),.nsl,.nsl] u) (cond (Nat.ble 22 (List.length c)) (rdL 1 d fun am an=>(Akv N (List.take 22 c) e am an false f (fun l ar w i=>(cond (w != (0:Int)) (r0 [(.bool false),.nsl,.nsl] w) (B0 N 0 (fun x=>(cond ((Nat.beq 0 0)&&((Nat.beq (List.length x) 3)&&(Nat.beq 3 3))) (cond (Nat.ble 22 (List.length c)) (Q6 N (List.take 22 c) e (fun y=>(cond ((Nat.beq (List.length y) 2)&&((Nat.ble 2 2)&&(!false))) (q0 l i 0 x (setCells [(.int .i64 0),(.int .i64 0)] 0 y)) none))) none) none))))))) none)))) none) none)
def Buq (N:Nat) (c:LA) (e:Bool) (g:Int) (d:LA) (f:Bool) (r0:LA→Int→Option R):Option R:=(Bup N r0 (fun l i a b j=>(Xk N r0 l g e c f d i N a b j)) c e g d f)
def A4q:=(Ai (@Buq R)).1
theorem Bm1:@A4q R=@Buq R:=(Ai _).2
def Aux:Hints:={ H:=(hS (hR [1,3,5,6]) (hS (hS (hR [1,3,5,6,9]) (hS (hR [1,3,5,6,9,24]) (hN [1,3,5,6] (hS (hR [6,7]) hL) hL))) (hS (hR [1,3,5,6,10,12]) (hS (hS (hR [1,3,5,6,10,12,36]) (hN [1,3,5,6,10] (hS (hR [6,7]) hL) hL)) (hS (hR [1,3,5,6,10,13]) (hS (hR [1,3,5,6,10,13,14]) (hS (hS (hR [3,5,6,10,13,14,42,43]) (hN [6,13] (hN [3,5,6,10,13,14,42,43] (hS (hR [3,5,6,10,13,14,42,43,44]) (hS (hN [3,5,6,10,13,14,42,43] hL hL) (hS (hN [3,5,6,10,13,14,42,43] (hS (hR [3,5,6,10,13,14,15,42,43]) (hS (hR [3,5,6,10,13,14,15,42,43]) (hS (hR [3,5,6,10,13,14,15,42,43]) (hS (hS (hR [3,5,6,10,13,14,15,42,43,65]) (hN [3,5,6,10,13,14,15,42,43] hL hL)) (hS (hR [3,5,6,10,13,14,15,42,43]) (hS (hR [3,5,6,10,13,14,15,42,43]) (hR [3,5,6,10,13,14,42,43]))))))) hL) (hR [3,5,6,10,13,14,42,43])))) hL) hL)) (hS (hR [6,7]) hL)))))))),nils:=[],modes:=[(3,0),(0,0)],free:=[],cob:=[] }
def A4r (N:Nat):List (Nat×Tw):=[(38,A1h N),(64,Atl N),(60,Dy N),(84,Amv N),(85,Awn N),(81,Wx N),(57,T2 N),(86,Azz N)]
def A4s (N:Nat):Env:=mkE 92 Aux (A4r N)
def B3z (N:Nat) (F:KF R):=Ao (A4s N) Tryz.f43 Aux.modes [] F
def Bur (N:Nat) (F:KF R):=atF (A4s N) [] N Tryz.f43 Aux (B3z N F)
def Ah9  (F:KF R):LA→Int→Option R:=(fun ao ap=>F (.tup [(.pagg ao false),(.int .i64 ap)]) [])
def Xl (l:Nat) (g:Int) (e:Bool) (c:LA) (f:Bool) (d i:LA) (a:Int) (b j:LA):St:={ s:=[(3,(.optr 300000 0)),(5,(.optr 300001 0)),(6,(.optr 300002 0)),(10,(.own 300003 0 l)),(13,(.optr 300004 0)),(14,(.optr 300005 0)),(42,(.int .i64 g)),(43,(.int .i64 a))],h:=[(300000,⟨false,false,true,e,0,c,false⟩),(300001,⟨false,false,true,f,0,d,false⟩),(300002,⟨false,false,false,false,0,[(.bool false),.nsl,.nsl],false⟩),(300003,⟨false,false,true,false,2,i,false⟩),(300004,⟨false,false,true,false,0,b,false⟩),(300005,⟨false,false,true,false,0,j,false⟩)] }
def Bus (N:Nat) (F:KF R):St→Option R:=Bq (A4s N) [] N (Bur N F [1,1,1,1,1,1,0,1,0] []) N
def Auy (N:Nat) (F:KF R) (n:Nat):St→Option R:=A4 (A4s N) [] N (Bur N F [1,1,1,1,1,1,0,1,0] []) n
theorem Bwm (N:Nat)  (F:KF R) (l:Nat) (g:Int) (e:Bool) (c:LA) (f:Bool) (d i:LA):∀ (n:Nat) (a:Int) (b j:LA),Auy N F n (Xl l g e c f d i a b j)=(Xk N (Ah9 F) l g e c f d i n a b j):=by
 intro n
 induction n with
 | zero=>intros;kernel_rfl
 | succ n ih =>
  intro a b j
  have e0:=funext fun a=>funext fun b=>funext fun j=>(show Auy N F n (Xl l g e c f d i a b j)=_ from ih a b j)
  have hK:Auy N F (n+1) (Xl l g e c f d i a b j)=(Ale N (Ah9 F) l g e c f d i (fun a b j=>Auy N F n (Xl l g e c f d i a b j)) a b j):=by kernel_rfl
  exact hK.trans (by rw [e0];rfl)
theorem Bbm (N:Nat) (c:LA) (e:Bool) (g:Int) (d:LA) (f:Bool) (F:KF R):Ab Tryz.prog muts (A4r N) Aux N 43 [(.pagg c e),(.int .i64 g),(.pagg d f)] [] F=(A4q N c e g d f (Ah9 F)):=by
 have e1:=funext fun l=>funext fun i=>funext fun a=>funext fun b=>funext fun j=>(show Bus N F (Xl l g e c f d i a b j)=_ from (Ap ..).trans (Bwm N F l g e c f d i N a b j))
 have hK:Ab Tryz.prog muts (A4r N) Aux N 43 [(.pagg c e),(.int .i64 g),(.pagg d f)] [] F=(Bup N (Ah9 F) (fun l i a b j=>Bus N F (Xl l g e c f d i a b j)) c e g d f):=by kernel_rfl
 rw [Bm1]
 exact hK.trans (by rw [e1];rfl)
def Alf (N:Nat) (args:List AV) (h:Ak) (k:KF R):Option R :=
 match args,h with
 | [(.pagg c e),(.int .i64 g),(.pagg d f)],[]=>(A4q N c e g d f (Ah9 k))
 | _,_=>none
def Bbn (N:Nat):Tw:=⟨Alf N,fun args h k=>by
 unfold Alf;split
 exact twE (Bbm ..) (Bbm ..)
 rfl⟩
theorem But (N:Nat):Ax Tryz.prog 43 (Bbn N):=fun args h res z hh=>by
 change Alf N args h (fun v z=>some (v,z))=_ at hh
 unfold Alf at hh;split at hh
 exact Aa (T:=A4r N) ⟨Bmu N,Bay N,Ek N,A6m N,Bnz N,Aer N,Akk N,Bl9 N,trivial⟩ follows ((Bbm ..).trans hh)
 cases hh
def Ad0 (N:Nat)  (r0:Nat→Int→Int→LA→Option R) (e:LA) (b:Nat) (g i c:Bool) (a:LA) (k0:Nat→Int→LA→LA→Option R)  (f:Nat) (d:Int) (l j:LA):Option R :=
 (cond (decide (d<((b:Nat):Int))) (cond (Nat.ble 22 (List.length a)) (cond (Nat.ble 2 (List.length j)) (cond (Aj d b) (rdI .i64 (List.drop ((Int.toNat d)*1) e) fun q=>(Apn N (List.take 22 a) c d (List.take 2 j) false q (fun m r=>(cond ((Nat.beq (List.length m) 2)&&((Nat.ble 2 2)&&(!false))) (cond (!r) (r0 0 d 16 []) (cond (Nat.ble 2 (List.length (setCells [(.int .i64 0),(.int .i64 0)] 0 m))) (cond ((Nat.beq (List.length (List.take 2 (setCells [(.int .i64 0),(.int .i64 0)] 0 m))) 2)&&(Nat.ble 2 2)) (cond ((Nat.ble (f+1) 140737488355328)&&(Nat.ble ((f+1)*16) 140737488355328)) (cond (Nat.ble 2 (List.length (setCells [(.int .i64 0),(.int .i64 0)] 0 m))) (cond ((Nat.beq (List.length (List.take 2 (setCells [(.int .i64 0),(.int .i64 0)] 0 m))) 2)&&((Nat.ble 2 (List.length j))&&(!false))) (k0 (f+1) (IntKind.wrap .i64 (d+(1:Int))) ((List.take (f*2) l)++(List.take 2 (setCells [(.int .i64 0),(.int .i64 0)] 0 (List.take 2 (setCells [(.int .i64 0),(.int .i64 0)] 0 m))))) (setCells j 0 (List.take 2 (setCells [(.int .i64 0),(.int .i64 0)] 0 m)))) none) none) none) none) none)) none)))) none) none) none) (r0 f ((b:Nat):Int) 0 l))
def R4 (N:Nat)  (r0:Nat→Int→Int→LA→Option R) (e:LA) (b:Nat) (g i c:Bool) (a:LA):Nat→Nat→Int→LA→LA→Option R
 | 0,_,_,_,_=>none
 | n+1,f,d,l,j=>(Ad0 N r0 e b g i c a (R4 N r0 e b g i c a n) f d l j)
def Bju (N:Nat) (r0:Nat→Int→Int→LA→Option R) (q0:Nat→Int→LA→LA→Option R) (a:LA) (c:Bool) (e:LA) (b:Nat) (g i:Bool):Option R :=
 (cond (Nat.ble 22 (List.length a)) (N6 N (List.take 22 a) c (fun t=>(cond (!t) (r0 0 0 1 []) (cond (Nat.ble 22 (List.length a)) (M6 N (List.take 22 a) c (fun o=>(cond ((Nat.beq (List.length o) 2)&&((Nat.ble 2 2)&&(!false))) (q0 0 0 [] (setCells [(.int .i64 0),(.int .i64 0)] 0 o)) none))) none)))) none)
def Bjv (N:Nat) (a:LA) (c:Bool) (e:LA) (b:Nat) (g i:Bool) (r0:Nat→Int→Int→LA→Option R):Option R:=(Bju N r0 (fun f d l j=>(R4 N r0 e b g i c a N f d l j)) a c e b g i)
def A15:=(Ai (@Bjv R)).1
theorem Bfm:@A15 R=@Bjv R:=(Ai _).2
def Alg:Hints:={ H:=(hS (hR [1,2]) (hS (hS (hR [1,2,14]) (hN [1,2] (hS (hR [4,5,6]) hL) hL)) (hS (hR [1,2,7]) (hS (hR [1,2,7,8]) (hS (hS (hR [1,2,7,8,9]) (hN [1,7] (hN [1,2,7,8,9] (hS (hS (hR [1,2,7,8,9,20]) (hN [1,2,7,8,9] hL hL)) (hS (hN [1,2,7,8,9] (hS (hR [1,2,7,8,9,10,11]) (hS (hS (hR [1,2,7,8,9,10,35]) (hN [1,2,7,8,9,10] (hS (hR [4,5,6]) hL) hL)) (hR [1,2,7,8,9]))) hL) (hR [1,2,7,8,9]))) hL) hL)) (hS (hR [4,5,6]) hL)))))),nils:=[(4,2),(7,2)],modes:=[(2,2),(0,0),(0,0)],free:=[],cob:=[] }
def Auz (N:Nat):List (Nat×Tw):=[(52,N7 N),(113,U0 N),(121,A1v N)]
def Au0 (N:Nat):Env:=mkE 45 Alg (Auz N)
def B1h (N:Nat) (F:KF R):=Ao (Au0 N) Tryz.f67 Alg.modes [] F
def Bm2 (N:Nat) (F:KF R):=atF (Au0 N) [] N Tryz.f67 Alg (B1h N F)
def Aai  (F:KF R):Nat→Int→Int→LA→Option R:=(fun u w x y=>F (.tup [(.own 300000 0 u),(.int .i64 w),(.int .i64 x)]) [(300000,⟨false,false,true,false,2,y,false⟩)])
def R5 (e:LA) (b:Nat) (g i c:Bool) (a:LA) (f:Nat) (d:Int) (l j:LA):St:={ s:=[(1,(.imm e b 1 g i)),(2,(.optr 300000 0)),(7,(.own 300001 0 f)),(8,(.optr 300002 0)),(9,(.int .i64 d))],h:=[(300000,⟨false,false,true,c,0,a,false⟩),(300001,⟨false,false,true,false,2,l,false⟩),(300002,⟨false,false,true,false,0,j,false⟩)] }
def Bm3 (N:Nat) (F:KF R):St→Option R:=Bq (Au0 N) [] N (Bm2 N F [1,1,1,1,0,1,0] []) N
def Alh (N:Nat) (F:KF R) (n:Nat):St→Option R:=A4 (Au0 N) [] N (Bm2 N F [1,1,1,1,0,1,0] []) n
theorem Buu (N:Nat)  (F:KF R) (e:LA) (b:Nat) (g i c:Bool) (a:LA):∀ (n f:Nat) (d:Int) (l j:LA),Alh N F n (R5 e b g i c a f d l j)=(R4 N (Aai F) e b g i c a n f d l j):=by
 intro n
 induction n with
 | zero=>intros;kernel_rfl
 | succ n ih =>
  intro f d l j
  have e0:=funext fun f=>funext fun d=>funext fun l=>funext fun j=>(show Alh N F n (R5 e b g i c a f d l j)=_ from ih f d l j)
  have hK:Alh N F (n+1) (R5 e b g i c a f d l j)=(Ad0 N (Aai F) e b g i c a (fun f d l j=>Alh N F n (R5 e b g i c a f d l j)) f d l j):=by kernel_rfl
  exact hK.trans (by rw [e0];rfl)
theorem A16 (N:Nat) (a:LA) (c:Bool) (e:LA) (b:Nat) (g i:Bool) (F:KF R):Ab Tryz.prog muts (Auz N) Alg N 67 [(.pagg a c),(.imm e b 1 g i)] [] F=(A15 N a c e b g i (Aai F)):=by
 have e1:=funext fun f=>funext fun d=>funext fun l=>funext fun j=>(show Bm3 N F (R5 e b g i c a f d l j)=_ from (Ap ..).trans (Buu N F e b g i c a N f d l j))
 have hK:Ab Tryz.prog muts (Auz N) Alg N 67 [(.pagg a c),(.imm e b 1 g i)] [] F=(Bju N (Aai F) (fun f d l j=>Bm3 N F (R5 e b g i c a f d l j)) a c e b g i):=by kernel_rfl
 rw [Bfm]
 exact hK.trans (by rw [e1];rfl)
def Ad1 (N:Nat) (args:List AV) (h:Ak) (k:KF R):Option R :=
 match args,h with
 | [(.pagg a c),(.imm e b 1 g i)],[]=>(A15 N a c e b g i (Aai k))
 | _,_=>none
def Bm4 (N:Nat):Tw:=⟨Ad1 N,fun args h k=>by
 unfold Ad1;split
 exact twE (A16 ..) (A16 ..)
 rfl⟩
theorem B30 (N:Nat):Ax Tryz.prog 67 (Bm4 N):=fun args h res p hh=>by
 change Ad1 N args h (fun v p=>some (v,p))=_ at hh
 unfold Ad1 at hh;split at hh
 exact Aa (T:=Auz N) ⟨Un N,Ahy N,Bm0 N,trivial⟩ follows ((A16 ..).trans hh)
 cases hh
def Abg (N:Nat)  (r0:Bool→Option R) (e:Nat) (c:Bool) (a d:LA) (k0:Int→Option R)  (b:Int):Option R :=
 (cond (decide (b<((e:Nat):Int))) (cond (Aj b e) (cond (Nat.ble 2 (List.length (List.drop (0+((Int.toNat b)*2)) d))) (cond (Nat.ble 2 (List.length a)) (cond ((!c)||(Bm (List.take 2 a))) (cond ((Nat.ble 1 2)&&((Nat.beq (List.length (List.take 2 (List.drop (0+((Int.toNat b)*2)) d))) 2)&&((Nat.beq (List.length (List.take 2 a)) 2)&&(true&&(!false))))) (rdI .i64 (List.take 2 (List.drop (0+((Int.toNat b)*2)) d)) fun m=>(rdI .i64 (List.take 2 a) fun o=>(rdI .i64 (List.drop 1 (List.take 2 (List.drop (0+((Int.toNat b)*2)) d))) fun p=>(rdI .i64 (List.drop 1 (List.take 2 a)) fun q=>(cond ((m==o)&&((p==q)&&true)) (r0 true) (k0 (IntKind.wrap .i64 (b+(1:Int))))))))) none) none) none) none) none) (r0 false))
def M7 (N:Nat)  (r0:Bool→Option R) (e:Nat) (c:Bool) (a d:LA):Nat→Int→Option R
 | 0,_=>none
 | n+1,b=>(Abg N r0 e c a d (M7 N r0 e c a d n) b)
def Au1 (N:Nat) (r0:Bool→Option R) (q0:Nat→LA→Int→Option R) (g:LA) (i:Bool) (f:LA) (j:Bool) (a:LA) (c:Bool):Option R :=
 (cond (Nat.ble 22 (List.length g)) (cond (Nat.ble 2 (List.length f)) (cond ((!j)||(Bm (List.take 2 f))) (Apm N (List.take 22 g) i (List.take 2 f) false (fun e d=>(q0 e d 0))) none) none) none)
def Au2 (N:Nat) (g:LA) (i:Bool) (f:LA) (j:Bool) (a:LA) (c:Bool) (r0:Bool→Option R):Option R:=(Au1 N r0 (fun e d b=>(M7 N r0 e c a d N b)) g i f j a c)
def Ali:=(Ai (@Au2 R)).1
theorem Awo:@Ali R=@Au2 R:=(Ai _).2
def Vf:Hints:={ H:=(hS (hR [3,4,5]) (hS (hR [5,7]) (hS (hS (hR [5,7,8]) (hS (hN [5,7,8] (hS (hS (hR [5,7,8,15]) (hN [5,7,8] hL hL)) (hS (hN [5,7,8] (hS (hR [5,7,8,23]) (hN [5,7,8] (hS (hR [6]) hL) hL)) hL) (hR [5,7,8]))) hL) hL)) (hS (hR [6]) hL)))),nils:=[],modes:=[],free:=[],cob:=[] }
def Zi (N:Nat):List (Nat×Tw):=[(114,A1r N)]
def Zj (N:Nat):Env:=mkE 24 Vf (Zi N)
def Bn0 (N:Nat) (F:KF R):=Ao (Zj N) Tryz.f194 Vf.modes [] F
def A17 (N:Nat) (F:KF R):=atF (Zj N) [] N Tryz.f194 Vf (Bn0 N F)
def M8  (F:KF R):Bool→Option R:=(fun r=>F (.bool r) [])
def I6 (e:Nat) (c:Bool) (a d:LA) (b:Int):St:={ s:=[(5,(.optr 300000 0)),(7,(.own 300001 0 e)),(8,(.int .i64 b))],h:=[(300000,⟨false,false,true,c,0,a,false⟩),(300001,⟨false,false,true,false,2,d,false⟩)] }
def A18 (N:Nat) (F:KF R):St→Option R:=Bq (Zj N) [] N (A17 N F [1,1,0,1,0] []) N
def Vg (N:Nat) (F:KF R) (n:Nat):St→Option R:=A4 (Zj N) [] N (A17 N F [1,1,0,1,0] []) n
theorem Bfn (N:Nat)  (F:KF R) (e:Nat) (c:Bool) (a d:LA):∀ (n:Nat) (b:Int),Vg N F n (I6 e c a d b)=(M7 N (M8 F) e c a d n b):=by
 intro n
 induction n with
 | zero=>intros;kernel_rfl
 | succ n ih =>
  intro b
  have e0:=funext fun b=>(show Vg N F n (I6 e c a d b)=_ from ih b)
  have hK:Vg N F (n+1) (I6 e c a d b)=(Abg N (M8 F) e c a d (fun b=>Vg N F n (I6 e c a d b)) b):=by kernel_rfl
  exact hK.trans (by rw [e0];rfl)
theorem Aia (N:Nat) (g:LA) (i:Bool) (f:LA) (j:Bool) (a:LA) (c:Bool) (F:KF R):Ab Tryz.prog muts (Zi N) Vf N 194 [(.pagg g i),(.pagg f j),(.pagg a c)] [] F=(Ali N g i f j a c (M8 F)):=by
 have e1:=funext fun e=>funext fun d=>funext fun b=>(show A18 N F (I6 e c a d b)=_ from (Ap ..).trans (Bfn N F e c a d N b))
 have hK:Ab Tryz.prog muts (Zi N) Vf N 194 [(.pagg g i),(.pagg f j),(.pagg a c)] [] F=(Au1 N (M8 F) (fun e d b=>A18 N F (I6 e c a d b)) g i f j a c):=by kernel_rfl
 rw [Awo]
 exact hK.trans (by rw [e1];rfl)
def Qo (N:Nat) (args:List AV) (h:Ak) (k:KF R):Option R :=
 match args,h with
 | [(.pagg g i),(.pagg f j),(.pagg a c)],[]=>(Ali N g i f j a c (M8 k))
 | _,_=>none
def A19 (N:Nat):Tw:=⟨Qo N,fun args h k=>by
 unfold Qo;split
 exact twE (Aia ..) (Aia ..)
 rfl⟩
theorem Buv (N:Nat):Ax Tryz.prog 194 (A19 N):=fun args h res l hh=>by
 change Qo N args h (fun v l=>some (v,l))=_ at hh
 unfold Qo at hh;split at hh
 exact Aa (T:=Zi N) ⟨Bmx N,trivial⟩ follows ((Aia ..).trans hh)
 cases hh
def Aib (N:Nat) (r0:Int→Option R)  (a:LA) (d:Bool) (b:LA) (e:Bool) (c:LA) (f:Bool):Option R :=
 (cond (Nat.ble 22 (List.length a)) (cond (Nat.ble 2 (List.length b)) (cond ((!e)||(Bm (List.take 2 b))) (cond (Nat.ble 2 (List.length c)) (cond ((!f)||(Bm (List.take 2 c))) (Ali N (List.take 22 a) d (List.take 2 b) false (List.take 2 c) false (fun i=>(cond ((!i)==false) (rdI .i64 b fun j=>(cond ((cond false true (j != (0:Int)))==false) (rdI .i64 c fun l=>(cond (cond false true (l==(0:Int))) (r0 0) (rdI .i64 (List.drop 1 b) fun m=>(rdI .i64 (List.drop 15 a) fun n=>(cond (decide (m≤n)) (rdI .i64 (List.drop 13 a) fun o=>(r0 o)) (rdI .i64 (List.drop 14 a) fun p=>(r0 p))))))) (r0 0))) (r0 0)))) none) none) none) none) none)
def Aic (N:Nat) (a:LA) (d:Bool) (b:LA) (e:Bool) (c:LA) (f:Bool) (r0:Int→Option R):Option R:=(Aib N r0 a d b e c f)
def Pg:=(Ai (@Aic R)).1
theorem Alj:@Pg R=@Aic R:=(Ai _).2
def App:Hints:={ H:=(hS (hR [3,4,5]) (hS (hS (hR [3,4,21]) (hN [3,4] (hS (hR [6]) hL) hL)) (hS (hS (hR [3,26]) (hN [3] (hS (hR [6]) hL) hL)) (hS (hR [6]) hL)))),nils:=[],modes:=[],free:=[],cob:=[] }
def Abh (N:Nat):List (Nat×Tw):=[(194,A19 N)]
def Xm  (F:KF R):Int→Option R:=(fun q=>F (.int .i64 q) [])
theorem Xn (N:Nat) (a:LA) (d:Bool) (b:LA) (e:Bool) (c:LA) (f:Bool) (F:KF R):Ab Tryz.prog muts (Abh N) App N 170 [(.pagg a d),(.pagg b e),(.pagg c f)] [] F=(Pg N a d b e c f (Xm F)):=by
 have hK:Ab Tryz.prog muts (Abh N) App N 170 [(.pagg a d),(.pagg b e),(.pagg c f)] [] F=(Aib N (Xm F) a d b e c f):=by kernel_rfl
 rw [Alj]
 exact hK
def L5 (N:Nat) (args:List AV) (h:Ak) (k:KF R):Option R :=
 match args,h with
 | [(.pagg a d),(.pagg b e),(.pagg c f)],[]=>(Pg N a d b e c f (Xm k))
 | _,_=>none
def Apq (N:Nat):Tw:=⟨L5 N,fun args h k=>by
 unfold L5;split
 exact twE (Xn ..) (Xn ..)
 rfl⟩
theorem Bjw (N:Nat):Ax Tryz.prog 170 (Apq N):=fun args h res g hh=>by
 change L5 N args h (fun v g=>some (v,g))=_ at hh
 unfold L5 at hh;split at hh
 exact Aa (T:=Abh N) ⟨Buv N,trivial⟩ follows ((Xn ..).trans hh)
 cases hh
def J6 (N:Nat)  (r0:Int→Option R) (f:Nat) (c:Bool) (a d:LA) (k0:Int→Int→LA→Option R)  (g b:Int) (e:LA):Option R :=
 (cond (decide (b<((f:Nat):Int))) (cond (Nat.ble 22 (List.length a)) (cond (Nat.ble 2 (List.length e)) (cond (Aj b f) (cond (Nat.ble 2 (List.length (List.drop (0+((Int.toNat b)*2)) d))) (Pg N (List.take 22 a) c (List.take 2 e) false (List.take 2 (List.drop (0+((Int.toNat b)*2)) d)) false (fun q=>(cond (Aj b f) (cond (Nat.ble 2 (List.length (List.drop (0+((Int.toNat b)*2)) d))) (cond ((Nat.beq (List.length (List.take 2 (List.drop (0+((Int.toNat b)*2)) d))) 2)&&((Nat.ble 2 (List.length e))&&(!false))) (k0 (IntKind.wrap .i64 (g+q)) (IntKind.wrap .i64 (b+(1:Int))) (setCells e 0 (List.take 2 (List.drop (0+((Int.toNat b)*2)) d)))) none) none) none))) none) none) none) none) (r0 g))
def E3 (N:Nat)  (r0:Int→Option R) (f:Nat) (c:Bool) (a d:LA):Nat→Int→Int→LA→Option R
 | 0,_,_,_=>none
 | n+1,g,b,e=>(J6 N r0 f c a d (E3 N r0 f c a d n) g b e)
def Abi (N:Nat) (r0:Int→Option R) (q0:Nat→LA→Int→Int→LA→Option R) (a:LA) (c:Bool) (i:LA) (j:Nat) (m l:Bool):Option R :=
 (cond (Nat.ble 22 (List.length a)) (A15 N (List.take 22 a) c i j false l (fun f t u d=>(cond (Nat.ble 22 (List.length a)) (M6 N (List.take 22 a) c (fun o=>(cond ((Nat.beq (List.length o) 2)&&((Nat.ble 2 2)&&(!false))) (q0 f d 0 0 (setCells [(.int .i64 0),(.int .i64 0)] 0 o)) none))) none))) none)
def Abj (N:Nat) (a:LA) (c:Bool) (i:LA) (j:Nat) (m l:Bool) (r0:Int→Option R):Option R:=(Abi N r0 (fun f d g b e=>(E3 N r0 f c a d N g b e)) a c i j m l)
def M9:=(Ai (@Abj R)).1
theorem Aid:@M9 R=@Abj R:=(Ai _).2
def L6:Hints:={ H:=(hS (hR [1,2]) (hS (hR [2,5]) (hS (hR [2,5,8,9]) (hS (hS (hR [2,5,8,9,10]) (hN [9] (hN [2,5,8,9,10] (hS (hS (hR [2,5,8,9,10,23]) (hN [2,5,8,9,10] hL hL)) (hS (hN [2,5,8,9,10] (hS (hR [2,5,8,9,10]) (hR [2,5,8,9,10])) hL) (hR [2,5,8,9,10]))) hL) hL)) (hS (hR [4]) hL))))),nils:=[],modes:=[],free:=[],cob:=[] }
def Oj (N:Nat):List (Nat×Tw):=[(67,Bm4 N),(113,U0 N),(170,Apq N)]
def Ok (N:Nat):Env:=mkE 40 L6 (Oj N)
def Bbo (N:Nat) (F:KF R):=Ao (Ok N) Tryz.f128 L6.modes [] F
def Alk (N:Nat) (F:KF R):=atF (Ok N) [] N Tryz.f128 L6 (Bbo N F)
def Hn  (F:KF R):Int→Option R:=(fun r=>F (.int .i64 r) [])
def E4 (f:Nat) (c:Bool) (a d:LA) (g b:Int) (e:LA):St:={ s:=[(2,(.optr 300000 0)),(5,(.own 300001 0 f)),(8,(.optr 300002 0)),(9,(.int .i64 g)),(10,(.int .i64 b))],h:=[(300000,⟨false,false,true,c,0,a,false⟩),(300001,⟨false,false,true,false,2,d,false⟩),(300002,⟨false,false,true,false,0,e,false⟩)] }
def All (N:Nat) (F:KF R):St→Option R:=Bq (Ok N) [] N (Alk N F [1,1,1,0,1,0] []) N
def L7 (N:Nat) (F:KF R) (n:Nat):St→Option R:=A4 (Ok N) [] N (Alk N F [1,1,1,0,1,0] []) n
theorem A2a (N:Nat)  (F:KF R) (f:Nat) (c:Bool) (a d:LA):∀ (n:Nat) (g b:Int) (e:LA),L7 N F n (E4 f c a d g b e)=(E3 N (Hn F) f c a d n g b e):=by
 intro n
 induction n with
 | zero=>intros;kernel_rfl
 | succ n ih =>
  intro g b e
  have e0:=funext fun g=>funext fun b=>funext fun e=>(show L7 N F n (E4 f c a d g b e)=_ from ih g b e)
  have hK:L7 N F (n+1) (E4 f c a d g b e)=(J6 N (Hn F) f c a d (fun g b e=>L7 N F n (E4 f c a d g b e)) g b e):=by kernel_rfl
  exact hK.trans (by rw [e0];rfl)
theorem Vh (N:Nat) (a:LA) (c:Bool) (i:LA) (j:Nat) (m l:Bool) (F:KF R):Ab Tryz.prog muts (Oj N) L6 N 128 [(.pagg a c),(.imm i j 1 m l)] [] F=(M9 N a c i j m l (Hn F)):=by
 have e1:=funext fun f=>funext fun d=>funext fun g=>funext fun b=>funext fun e=>(show All N F (E4 f c a d g b e)=_ from (Ap ..).trans (A2a N F f c a d N g b e))
 have hK:Ab Tryz.prog muts (Oj N) L6 N 128 [(.pagg a c),(.imm i j 1 m l)] [] F=(Abi N (Hn F) (fun f d g b e=>All N F (E4 f c a d g b e)) a c i j m l):=by kernel_rfl
 rw [Aid]
 exact hK.trans (by rw [e1];rfl)
def J7 (N:Nat) (args:List AV) (h:Ak) (k:KF R):Option R :=
 match args,h with
 | [(.pagg a c),(.imm i j 1 m l)],[]=>(M9 N a c i j m l (Hn k))
 | _,_=>none
def Alm (N:Nat):Tw:=⟨J7 N,fun args h k=>by
 unfold J7;split
 exact twE (Vh ..) (Vh ..)
 rfl⟩
theorem Bfo (N:Nat):Ax Tryz.prog 128 (Alm N):=fun args h res p hh=>by
 change J7 N args h (fun v p=>some (v,p))=_ at hh
 unfold J7 at hh;split at hh
 exact Aa (T:=Oj N) ⟨B30 N,Ahy N,Bjw N,trivial⟩ follows ((Vh ..).trans hh)
 cases hh
def Ad2 (N:Nat)  (r0:LA→Int→Option R) (g:Int) (f:Bool) (a:LA) (e:Bool) (c:LA) (k0:Int→LA→Option R)  (b:Int) (d:LA):Option R :=
 (cond (decide (b<g)) (rdL 1 c fun q r=>(cond (Aj b r) (rdI .i64 (List.drop ((Int.toNat b)*1) q) fun t=>(cond (t==(2:Int)) (cond (Nat.ble 3 (List.length d)) (rdI .i64 (List.drop 5 a) fun u=>(Bf N u (fun w=>(Lw N (List.take 3 d) false w false (fun x=>(cond (Nat.ble 22 (List.length a)) (rdL 3 (List.drop 1 c) fun i y=>(cond (Aj b y) (cond (Nat.ble 3 (List.length (List.drop ((Int.toNat b)*3) i))) (Aaf N (List.take 22 a) f (List.take 3 (List.drop ((Int.toNat b)*3) i)) e (fun z=>(rdI .i64 (List.drop 17 a) fun aa=>(Bf N aa (fun ab=>(rdL 3 (List.drop 2 c) fun j ac=>(cond (Aj b ac) (cond (Nat.ble 3 (List.length (List.drop ((Int.toNat b)*3) j))) (Aj3 N ab false (List.take 3 (List.drop ((Int.toNat b)*3) j)) e (fun ad=>(Lw N z false ad false (fun ae=>(Lw N x false ae false (fun l=>(cond ((Nat.beq (List.length l) 3)&&((Nat.ble 3 (List.length d))&&(!false))) (k0 (IntKind.wrap .i64 (b+(1:Int))) (setCells d 0 l)) none))))))) none) none))))))) none) none)) none)))))) none) (k0 (IntKind.wrap .i64 (b+(1:Int))) d))) none)) (cond (Nat.ble 3 (List.length d)) (cond ((Nat.beq 0 0)&&((Nat.beq (List.length (List.take 3 d)) 3)&&(Nat.beq 3 3))) (cond (Nat.ble 3 (List.length (List.take 3 d))) (r0 (List.take 3 (List.take 3 d)) 0) none) none) none))
def R6 (N:Nat)  (r0:LA→Int→Option R) (g:Int) (f:Bool) (a:LA) (e:Bool) (c:LA):Nat→Int→LA→Option R
 | 0,_,_=>none
 | n+1,b,d=>(Ad2 N r0 g f a e c (R6 N r0 g f a e c n) b d)
def Bjx (N:Nat) (r0:LA→Int→Option R) (q0:Int→LA→Option R) (a:LA) (f:Bool) (g:Int) (c:LA) (e:Bool):Option R :=
 (cond (Nat.ble 22 (List.length a)) (cond (Nat.ble 3 (List.length c)) (Ae2 N (List.take 22 a) f g (List.take 3 c) e (fun ak m=>(cond (m != (0:Int)) (r0 [(.bool false),.nsl,.nsl] m) (cond (Nat.ble 22 (List.length a)) (rdL 1 c fun af ag=>(M9 N (List.take 22 a) f af ag false e (fun ah=>(Bf N ah (fun o=>(cond ((Nat.beq 0 0)&&((Nat.beq (List.length o) 3)&&(Nat.beq 3 3))) (q0 0 o) none)))))) none)))) none) none)
def Bjy (N:Nat) (a:LA) (f:Bool) (g:Int) (c:LA) (e:Bool) (r0:LA→Int→Option R):Option R:=(Bjx N r0 (fun b d=>(R6 N r0 g f a e c N b d)) a f g c e)
def Apr:=(Ai (@Bjy R)).1
theorem Bfp:@Apr R=@Bjy R:=(Ai _).2
def Aln:Hints:={ H:=(hS (hR [1,3,5,6]) (hS (hR [1,3,5,6,9]) (hS (hS (hR [1,3,5,6,9,20]) (hN [1,3,5,6] (hS (hR [6,7]) hL) hL)) (hS (hR [1,3,5,6,10]) (hS (hS (hR [1,3,5,6,10,11]) (hN [6,10] (hN [1,3,5,6,10,11] (hS (hS (hR [1,3,5,6,10,11,30]) (hN [1,3,5,6,10,11] hL hL)) (hS (hN [1,3,5,6,10,11] (hS (hR [1,3,5,6,10,11,38]) (hN [1,3,5,6,10,11] (hR [1,3,5,6,10,11]) hL)) hL) (hR [1,3,5,6,10,11]))) hL) hL)) (hS (hR [6,7]) hL)))))),nils:=[],modes:=[(3,0),(0,0)],free:=[],cob:=[] }
def Au3 (N:Nat):List (Nat×Tw):=[(78,Auw N),(128,Alm N),(20,Eu N),(32,Ml N),(58,A1a N),(35,Asr N)]
def Au4 (N:Nat):Env:=mkE 63 Aln (Au3 N)
def B1i (N:Nat) (F:KF R):=Ao (Au4 N) Tryz.f79 Aln.modes [] F
def Bm5 (N:Nat) (F:KF R):=atF (Au4 N) [] N Tryz.f79 Aln (B1i N F)
def Aaj  (F:KF R):LA→Int→Option R:=(fun ai aj=>F (.tup [(.pagg ai false),(.int .i64 aj)]) [])
def R7 (g:Int) (f:Bool) (a:LA) (e:Bool) (c:LA) (b:Int) (d:LA):St:={ s:=[(1,(.int .i64 g)),(3,(.optr 300000 0)),(5,(.optr 300001 0)),(6,(.optr 300002 0)),(10,(.optr 300003 0)),(11,(.int .i64 b))],h:=[(300000,⟨false,false,true,f,0,a,false⟩),(300001,⟨false,false,true,e,0,c,false⟩),(300002,⟨false,false,false,false,0,[(.bool false),.nsl,.nsl],false⟩),(300003,⟨false,false,true,false,0,d,false⟩)] }
def Bm6 (N:Nat) (F:KF R):St→Option R:=Bq (Au4 N) [] N (Bm5 N F [1,1,1,1,0,1,0] []) N
def Alo (N:Nat) (F:KF R) (n:Nat):St→Option R:=A4 (Au4 N) [] N (Bm5 N F [1,1,1,1,0,1,0] []) n
theorem Buw (N:Nat)  (F:KF R) (g:Int) (f:Bool) (a:LA) (e:Bool) (c:LA):∀ (n:Nat) (b:Int) (d:LA),Alo N F n (R7 g f a e c b d)=(R6 N (Aaj F) g f a e c n b d):=by
 intro n
 induction n with
 | zero=>intros;kernel_rfl
 | succ n ih =>
  intro b d
  have e0:=funext fun b=>funext fun d=>(show Alo N F n (R7 g f a e c b d)=_ from ih b d)
  have hK:Alo N F (n+1) (R7 g f a e c b d)=(Ad2 N (Aaj F) g f a e c (fun b d=>Alo N F n (R7 g f a e c b d)) b d):=by kernel_rfl
  exact hK.trans (by rw [e0];rfl)
theorem A2b (N:Nat) (a:LA) (f:Bool) (g:Int) (c:LA) (e:Bool) (F:KF R):Ab Tryz.prog muts (Au3 N) Aln N 79 [(.pagg a f),(.int .i64 g),(.pagg c e)] [] F=(Apr N a f g c e (Aaj F)):=by
 have e1:=funext fun b=>funext fun d=>(show Bm6 N F (R7 g f a e c b d)=_ from (Ap ..).trans (Buw N F g f a e c N b d))
 have hK:Ab Tryz.prog muts (Au3 N) Aln N 79 [(.pagg a f),(.int .i64 g),(.pagg c e)] [] F=(Bjx N (Aaj F) (fun b d=>Bm6 N F (R7 g f a e c b d)) a f g c e):=by kernel_rfl
 rw [Bfp]
 exact hK.trans (by rw [e1];rfl)
def Ad3 (N:Nat) (args:List AV) (h:Ak) (k:KF R):Option R :=
 match args,h with
 | [(.pagg a f),(.int .i64 g),(.pagg c e)],[]=>(Apr N a f g c e (Aaj k))
 | _,_=>none
def A2c (N:Nat):Tw:=⟨Ad3 N,fun args h k=>by
 unfold Ad3;split
 exact twE (A2b ..) (A2b ..)
 rfl⟩
theorem Bm7 (N:Nat):Ax Tryz.prog 79 (A2c N):=fun args h res p hh=>by
 change Ad3 N args h (fun v p=>some (v,p))=_ at hh
 unfold Ad3 at hh;split at hh
 exact Aa (T:=Au3 N) ⟨Bfl N,Bfo N,Ge N,Q5 N,Bt9 N,Baj N,trivial⟩ follows ((A2b ..).trans hh)
 cases hh
end
end Gx
