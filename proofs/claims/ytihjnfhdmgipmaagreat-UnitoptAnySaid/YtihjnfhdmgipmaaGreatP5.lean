/- A part of the proof; each theorem says what it holds. -/
import Derived.JoinedOf
import Derived.Test.YtihjnfhdmgipmaaGreatP4
set_option linter.unusedVariables false
set_option linter.defProp false
set_option linter.unusedSimpArgs false
open Nat (ble beq)
open List (take drop replicate)
open Go.IntKind (wrap)
namespace Gx.Uo
open Go Go.Proofs
noncomputable section
variable{u:UnitD}{fx:List Int}{H:Nat}{a b:Nat->Rat}
def qa(l:List RatD)(i:Nat):Rat:=((l[i]?).map RatD.q).getD 0
def Sw(u:UnitD):Int->StD->List Int->Nat->StD
|_,s,_,0=>s
|_,s,[],_+1=>s
|h,s,k::ks,i+1=>match Og u h s k with
  |some t=>Sw u (h+1) t ks i
  |none=>s
def A1l{h:Int}{s:StD}{ks:List Int}:Sw u h s ks 0=s:=by cases ks<;>rfl
def yb:∀{ks:List Int}{es rs:List RatD}{h:Int}{s:StD}{was:Bool}{v:Rat},es.length=ks.length->rs.length=ks.length->(Ab3 u h s was v ks es rs).2=0->∀ i<ks.length,
  Og u (h+i) (Sw u h s ks i) (ks.getD i 0)=some (Sw u h s ks (i+1))/\P8 u (ks.getD i 0==2) (qa es i) (qa rs i)=true/\EK u (if i=0 then was else ks.getD (i - 1) 0==2) (ks.getD i 0==2) (if i=0 then v else qa es (i - 1)) (qa es i) (qa rs i)=true
|[],_,_,_,_,_,_,_,_,_,i,hi=>absurd hi (by simp)
| k::ks,e::es,r::rs,h,s,was,v,I,L,hc,i,hi=>by
  rw[Ab3]at hc
  cases hs:Og u h s k with
  |none=>rw[hs]at hc;simp at hc
  | some t =>
   rw[hs]at hc;dsimp only at hc
   cases hr:P8 u (k==2) e.q r.q with
   |false=>rw[hr]at hc;simp at hc
   | true =>
    cases D:EK u was (k==2) v e.q r.q with
    |false=>rw[hr,D]at hc;simp at hc
    | true =>
     rw[hr,D]at hc
     simp only[cond_true]at hc
     cases i with
     |zero =>
      refine⟨?_,hr,D⟩
      show Og u (h+((0:Nat):Int)) s k=some (match Og u h s k with|some t=>Sw u (h+1) t ks 0|none=>s)
      rw[show h+((0:Nat):Int)=h by omega,hs];dsimp only;rw[A1l]
     | succ i =>
      have G:=yb (ks:=ks) (es:=es) (rs:=rs) (by simpa using I) (by simpa using L) hc i (by simpa using hi)
      have e1:∀ j,Sw u h s (k::ks) (j+1)=Sw u (h+1) t ks j:=fun j=>by rw[Sw,hs]
      rw[e1,e1]
      refine⟨?_,G.2.1,?_⟩
      ·rw[show h+((i+1:Nat):Int)=h+1+(i:Int) by omega];exact G.1
      ·have:=G.2.2
       cases i with
       |zero=>exact this
       |succ i=>exact this
def yc{S:Nat->Nj}{p r:Nat->Rat}:∀{ks:List Int}{es rs As Bs:List RatD}{h:Nat}{s:StD},es.length=ks.length->rs.length=ks.length->As.length=ks.length->Bs.length=ks.length->(Cb u h s ks).2=true->(∀ i≤ks.length,S (h+i)=ds (Sw u h s ks i))->(∀ i<ks.length,(Sw u h s ks (i+1)).k=ks.getD i 0)->(∀ i<ks.length,p (h+i)=qa es i/\r (h+i)=qa rs i/\a (h+i)=qa As i/\b (h+i)=qa Bs i)->(∀ i<ks.length,ks.getD i 0≠2->qa es i=0/\qa rs i=0) ->
  Vl (un u) a b (Bw u fx H a b) S p r (h+ks.length)=Vl (un u) a b (Bw u fx H a b) S p r h+Abz As es Bs rs - K5 u s (Cb u h s ks).1 ks es rs
|[],[],[],[],[],h,s,_,_,_,_,_,_,_,_,_=>by
  have h1:Abz [] [] [] []=0:=by rw[Abz];intros;simp_all
  have h2:K5 u s (Cb u h s []).1 [] [] []=0:=by rw[K5];intros;simp_all
  rw[h1,h2]
  show Vl _ _ _ _ _ _ _ h=_
  grind
| k::ks,e::es,r0::rs,A::As,B::Bs,h,s,l1,l2,l3,l4,D,hS,hk,hp,hz=>by
  cases hs:Og u h s k with
  |none=>rw[Cb,hs]at D;cases D
  | some t =>
   have e1:∀ j,Sw u h s (k::ks) (j+1)=Sw u (h+1) t ks j:=fun j=>by rw[Sw,hs]
   rw[Cb,hs]at D ⊢
   dsimp only at D ⊢
   have ih:=yc (ks:=ks) (es:=es) (rs:=rs) (As:=As) (Bs:=Bs) (h:=h+1) (s:=t) (S:=S) (p:=p) (r:=r) (by simpa using l1) (by simpa using l2) (by simpa using l3) (by simpa using l4) (by rw[show((h+1:Nat):Int)=(h:Int)+1 by omega];exact D)
    (fun i hi=>by rw[show h+1+i=h+(i+1) by omega,hS (i+1) (by simpa using hi),e1];rw[show((h+1:Nat):Int)=(h:Int)+1 by omega])
    (fun i hi=>by have:=hk (i+1) (by simpa using hi);rw[e1]at this;rw[show((h+1:Nat):Int)=(h:Int)+1 by omega];exact this)
    (fun i hi=>by have:=hp (i+1) (by simpa using hi);rw[show h+1+i=h+(i+1) by omega];exact this)
    (fun i hi=>hz (i+1) (by simpa using hi))
   have s0:=hS 0 (by simp)
   have s1:=hS 1 (by simp)
   rw[e1]at s1
   have k1:=hk 0 (by simp)
   rw[e1]at k1
   obtain⟨p1,p2,p3,p4⟩:=hp 0 (by simp)
   have z:=hz 0 (by simp)
   have G:S h=ds s:=s0
   have I:S (h+1)=ds t:=by rw[s1];cases ks<;>rfl
   have L:t.k=k:=by
    have:(Sw u (h+1) t ks 0).k=k:=k1
    cases ks<;>exact this
   have T:p h=e.q:=p1
   have Y:r h=r0.q:=p2
   have p3':a h=A.q:=p3
   have p4':b h=B.q:=p4
   have z':k≠2->e.q=0/\r0.q=0:=z
   have step:Vl (un u) a b (Bw u fx H a b) S p r (h+1)=Vl (un u) a b (Bw u fx H a b) S p r h - ((L8 u s t:Int):Rat)+(if k=2 then OU (un u) A.q B.q e.q r0.q else 0):=by
    show Vl _ _ _ _ _ _ _ h - _+_=_
    rw[G,I,T,Y,p3',p4']
    show _ - ((L8 u s t:Int):Rat)+(if t.k=2 then _ else 0)=_
    rw[L]
   rw[A3a,show h+(ks.length+1)=h+1+ks.length by omega,ih,step,Abz,K5,show((h+1:Nat):Int)=(h:Int)+1 by omega]
   by_cases c:k=2
   ·rw[if_pos c,show(k==2)=true by simpa using c,cond_true]
    have g:OU (un u) A.q B.q e.q r0.q=A.q*e.q+B.q*r0.q - At3 u e.q r0.q:=by
     unfold OU own At3
     show A.q*e.q+-Dy (e.q - (u.min:Rat)) u.segs.l - (u.noLoad:Rat)+(B.q - (u.reservePrice:Rat))*r0.q=_
     grind
    rw[g];grind
   ·rw[if_neg c,show(k==2)=false by simpa using c,cond_false,(z' c).1,(z' c).2]
    grind
def Ag(fx ks:List Int):Prop:=∀ i<ks.length,fx.getD i 0=-1\/fx.getD i 0=ks.getD i 0
def Ar7{e r:Rat}(h:P8 u true e r=true):(u.min:Rat)<=e/\0<=r/\r<=(u.reserve:Rat)/\e+r<=(u.max:Rat):=by
 unfold P8 Axq at h
 simp only[cond_true,A2y,decide_eq_true_eq]at h
 obtain⟨k,⟨D,G⟩,I⟩:=h
 exact⟨k,by simpa using D,G,I⟩
def Aog{e r:Rat}(h:P8 u false e r=true):e=0/\r=0:=by
 unfold P8 at h
 simpa using h
def ux{p:PlanD}{hh:Int}(Y:A4 u hh=true)(h1:p.st.l.length=H)(h2:p.en.l.length=H)(h3:p.re.l.length=H)(hc:(Ab3 u 0 (Ar u) (u.state==2) (u.output:Rat) p.st.l p.en.l p.re.l).2=0)(hg:Ag fx p.st.l):
    (∀ i≤H,C4 u (Sw u 0 (Ar u) p.st.l i))/\(∀ i<H,(Sw u 0 (Ar u) p.st.l (i+1)).k=p.st.l.getD i 0)/\∀ i<H,HourP (un u) (Bw u fx H a b) (fun i=>ds (Sw u 0 (Ar u) p.st.l i)) (qa p.en.l) (qa p.re.l) i:=by
  have hs:=(Bf Y).1
  have ch:=yb (by omega) (by omega) hc
  have ok:∀ i≤H,C4 u (Sw u 0 (Ar u) p.st.l i):=fun i=>by
    induction i with
    | zero => intro _; show C4 u (Sw u 0 (Ar u) p.st.l 0); have : Sw u 0 (Ar u) p.st.l 0 = Ar u := by cases p.st.l <;> rfl
              rw[this];exact Oa hs
    |succ i ih=>intro hi;exact(BL hs (ih (by omega)) (ch i (by omega)).1).1
  have kd:∀ i<H,(Sw u 0 (Ar u) p.st.l (i+1)).k=p.st.l.getD i 0:=fun i hi=>(BL hs (ok i (by omega)) (ch i (by omega)).1).2.1
  refine⟨ok,kd,fun i hi=>?_⟩
  obtain⟨c1,T,c3⟩:=ch i (by omega)
  obtain⟨t1,t2,t3,t4⟩:=BL hs (ok i (by omega)) c1
  have w0:was (fun i=>ds (Sw u 0 (Ar u) p.st.l i)) i=(if i=0 then(u.state==2)else p.st.l.getD (i - 1) 0==2):=by
    show((Sw u 0 (Ar u) p.st.l i).k==2)=_
    by_cases e:i=0
    · subst e;rw[if_pos rfl];cases p.st.l<;>rfl
    · rw[if_neg e]
      have:=kd (i - 1) (by omega)
      rw[show i - 1+1=i by omega]at this
      rw[this]
  have q0:vC (un u) (qa p.en.l) i=(if i=0 then(u.output:Rat)else qa p.en.l (i - 1)):=rfl
  have D:EK u (was (fun i=>ds (Sw u 0 (Ar u) p.st.l i)) i) (p.st.l.getD i 0==2) (vC (un u) (qa p.en.l) i) (qa p.en.l i) (qa p.re.l i)=true:=by rw[w0,q0];exact c3
  refine⟨Arm (ok i (by omega)) t3,?_,fun I=>?_,fun G=>?_⟩
  · show((fx.getD i 0==-1||fx.getD i 0==(Sw u 0 (Ar u) p.st.l (i+1)).k)&&MF u i (Sw u 0 (Ar u) p.st.l (i+1)).k)=true
    rw[kd i hi,A2y,A5y]
    refine⟨(hg i (by omega)).imp (fun h=>by simpa using h) (fun h=>by simpa using h),?_⟩
    rw[show(0:Int)+(i:Int)=(i:Int) by omega]at t4;exact t4
  · have I:(Sw u 0 (Ar u) p.st.l (i+1)).k=2:=I
    rw[kd i hi]at I
    rw[I]at T D
    obtain⟨r1,r2,r3,r4⟩:=Ar7 T
    refine⟨r1,r2,r3,r4,?_⟩
    cases L:was (fun i=>ds (Sw u 0 (Ar u) p.st.l i)) i with
    | true =>
      rw[L]at D
      unfold EK at D
      simp at D
      exact D
    | false =>
      rw[L]at D
      unfold EK at D
      simp at D
      exact D
  · have G:(Sw u 0 (Ar u) p.st.l (i+1)).k≠2:=G
    rw[kd i hi]at G
    have e2:(p.st.l.getD i 0==2)=false:=by simpa using G
    rw[e2]at T D
    obtain⟨z1,z2⟩:=Aog T
    refine⟨fun L=>?_,z1,z2⟩
    have L:was (fun i=>ds (Sw u 0 (Ar u) p.st.l i)) i=true:=by show((Sw u 0 (Ar u) p.st.l i).k==2)=true;have:(Sw u 0 (Ar u) p.st.l i).k=2:=L;rw[this];rfl
    rw[L]at D
    unfold EK at D
    simp at D
    exact D
def Agm{p:PlanD}{hh:Int}{A B:List RatD}(D:A4 u hh=true)(hH:hh=H)(hc:(gT u hh p).2=0)(I:Ag fx p.st.l)(hA:A.length=H)(hB:B.length=H)(L:∀ i<H,a i=qa A i)(T:∀ i<H,b i=qa B i):
  ∃ s m,C4 u s/\Hv (Bw u fx H a b) (Jt u) H H (ds s)=some m/\Ov A p.en.l+Ov B p.re.l - K5 u (Ar u) (Cb u 0 (Ar u) p.st.l).1 p.st.l p.en.l p.re.l<=m.profit:=by
 obtain⟨_,Y,c3⟩:=Af9 hc
 obtain⟨l1,l2,l3⟩:=Abw Y
 have l1:p.st.l.length=H:=by omega
 have l2:p.en.l.length=H:=by omega
 have l3:p.re.l.length=H:=by omega
 obtain⟨ok,kd,G⟩:=ux (fx:=fx) (H:=H) (a:=a) (b:=b) D l1 l2 l3 c3 I
 have s0:(fun i=>ds (Sw u 0 (Ar u) p.st.l i)) 0=(Bw u fx H a b).s0:=by show ds (Sw u 0 (Ar u) p.st.l 0)=ds (Ar u);cases p.st.l<;>rfl
 obtain⟨m,t,le⟩:=UL (Ak4 (fx:=fx) (H:=H) (a:=a) (b:=b) D) s0 G H (A2s _) (.inr (.inr rfl))
 refine⟨_,m,ok H (A2s _),t,?_⟩
 have pf:=yc (fx:=fx) (H:=H) (u:=u) (S:=fun i=>ds (Sw u 0 (Ar u) p.st.l i)) (p:=qa p.en.l) (r:=qa p.re.l) (ks:=p.st.l) (es:=p.en.l) (rs:=p.re.l) (As:=A) (Bs:=B) (h:=0) (s:=Ar u) (a:=a) (b:=b) (by omega) (by omega) (by omega) (by omega) (gD (by omega) (by omega) c3) (fun i _=>by rw[A22];rfl) (fun i hi=>kd i (by omega)) (fun i hi=>by rw[A22];exact⟨rfl,rfl,L i (by omega),T i (by omega)⟩) (fun i hi hk=>(G i (by omega)).off (by show(Sw u 0 (Ar u) p.st.l (i+1)).k≠2;rw[kd i (by omega)];exact hk) |>.2)
 rw[A22,l1]at pf
 rw[pf,Alg (by omega) (by omega) (by omega)]at le
 rw[show Vl (un u) a b (Bw u fx H a b) (fun i=>ds (Sw u 0 (Ar u) p.st.l i)) (qa p.en.l) (qa p.re.l) 0=0 from rfl]at le
 have e0:((0:Nat):Int)=0:=rfl
 rw[e0]at le
 grind
end
end Gx.Uo
namespace Gx
open Go Go.Proofs
section
variable{R:Type}
section
variable{u:UnitD}{ks:List Int}{n:Nat}
def A1m(u:UnitD)(ks:List Int):Nat->PD
|0=>⟨u.output,u.output⟩
|p+1=>B_ u ks p
def Ay5{p:Nat}(h:B8 ks p=true):B_ u ks p=cond (BN u ks p) ⟨Fc u.min ((A1m u ks p).lo - u.rampDown),Cn u.max ((A1m u ks p).hi+u.rampUp)⟩ ⟨u.min,u.startRamp⟩:=by cases p<;>(rw[B_,h];rfl)
def Aw0{p:Nat}(h:B8 ks p=false):B_ u ks p=⟨0,0⟩:=by cases p<;>(rw[B_,h];rfl)
end
end
end Gx
namespace Gx
open Go Go.Proofs
section
variable{R:Type}
section
variable{u:UnitD}{ks:List Int}{n:Nat}
def Ar8(u:UnitD)(ks:List Int)(n h:Nat):PD :=
 cond (h==0&&u.state==2) ⟨Fc u.min (u.output - u.rampDown),Cn (cond (decide (h+1<n)&&!B8 ks (h+1)) (Cn (cond (BN u ks h) u.max (Cn u.max u.startRamp)) u.stopRamp) (cond (BN u ks h) u.max (Cn u.max u.startRamp))) (u.output+u.rampUp)⟩
  ⟨u.min,cond (decide (h+1<n)&&!B8 ks (h+1)) (Cn (cond (BN u ks h) u.max (Cn u.max u.startRamp)) u.stopRamp) (cond (BN u ks h) u.max (Cn u.max u.startRamp))⟩
def Aoh{N:Nat}{K:LA->O R}{c g i:Bool}{h:Nat}(D:uR u)(L:ks.length=n)(T:n<=1000)(hh:h<n):SG N u.av c (Am ks) n g i (h:Int) K=K (Ar8 u ks n h).av:=by
 unfold uR at D
 rw[fF];unfold VG
 have G:∀ f:Int,DV N K (h:Int) c u.av f=K (cond (h==0&&u.state==2) (PD.mk (Fc u.min (u.output - u.rampDown)) (Cn f (u.output+u.rampUp))) (PD.mk u.min f)).av:=by
  intro f
  unfold DV LM SF
  simp only[u2,u6,u7,Am5,Av1]
  rw[i64 (a:=u.output - u.rampDown) (by omega),i64 (a:=u.output+u.rampUp) (by omega)]
  cases h with
  |zero=>rw[show(((0:Nat):Int)==0)=true from rfl];cases (u.state==2)<;>rfl
  |succ h=>rw[show(((h+1:Nat):Int)==0)=false by simp;omega,show(h+1==0)=false from rfl];rfl
 have I:∀ l:Int,Vr N K (Am ks) n g i (h:Int) c u.av l=K (cond (h==0&&u.state==2) (PD.mk (Fc u.min (u.output - u.rampDown)) (Cn (cond (decide (h+1<n)&&!B8 ks (h+1)) (Cn l u.stopRamp) l) (u.output+u.rampUp))) (PD.mk u.min (cond (decide (h+1<n)&&!B8 ks (h+1)) (Cn l u.stopRamp) l))).av:=by
  intro l
  unfold Vr LN
  simp only[G,u9]
  rw[wS (by omega)]
  by_cases k:h+1<n
  ·rw[Ox k,show(true==true)=true from rfl,ct,Aa k,ct,Bh (by omega),show decide (h+1<n)=true by simpa using k,Se (by omega),A5s,show(ks[h+1] != 2)=(!(ks[h+1]==2))from rfl]
   cases (ks[h+1]==2)<;>rfl
  ·rw[Rc (by omega),show decide (h+1<n)=false by simpa using k];rfl
 simp only[I,u3,u8,Am5]
 unfold Ar8
 cases h with
|zero =>
  rw[show(((0:Nat):Int)==0)=true from rfl,show BN u ks 0=(u.state==2)from rfl,show(u.state != 2)=(!(u.state==2))from rfl]
  cases (u.state==2)<;>rfl
|succ h =>
  rw[show(((h+1:Nat):Int)==0)=false by simp;omega,show BN u ks (h+1)=B8 ks h from rfl,show(false==true)=false from rfl,cf,show(decide (((h+1:Nat):Int)>0)==true)=true by simp,ct]
  rw[show wrap .i64 (((h+1:Nat):Int) - 1)=(h:Int) by rw[i64 (by omega)];omega,Aa (by omega),ct,Bh (by omega),Se (ks:=ks) (h:=h) (by omega),show(ks[h] != 2)=(!(ks[h]==2))from rfl]
  cases (ks[h]==2)<;>rfl
def Ay6(ok:UOk u){h:Nat}(k:B8 ks h=true):Xn u ks n h=cond (decide (0<h)&&BN u ks h) ⟨Fc (Ar8 u ks n h).lo ((Xn u ks n (h - 1)).lo - u.rampDown),Cn (Ar8 u ks n h).hi ((Xn u ks n (h - 1)).hi+u.rampUp)⟩ (Ar8 u ks n h):=by
 obtain⟨a,b,c,d⟩:=ok
 cases h with
|zero =>
  unfold Xn Ar8
  rw[B_,k,show BN u ks 0=(u.state==2)from rfl]
  cases (u.state==2)<;>cases (decide (0+1<n)&&!B8 ks (0+1))<;>simp[Dg,Fr]<;>omega
|succ h =>
  rw[A62,Aro k]
  unfold Xn Ar8
  rw[B_,k,show BN u ks (h+1)=B8 ks h from rfl]
  cases B8 ks h<;>cases (decide (h+1+1<n)&&!B8 ks (h+1+1))<;>simp[Dg,Fr]<;>omega
def gE(u:UnitD)(ks:List Int)(n p:Nat):Nat->PD:=fun i=>if i<p then Xn u ks n i else⟨0,0⟩
def gC(u:UnitD)(ks:List Int)(n p:Nat):Nat->PD:=fun i=>if i<p then Xn u ks n i else V4 u ks n i
def Aw1{h:Nat}(k:B8 ks h=false):Xn u ks n h=⟨0,0⟩:=by unfold Xn;rw[k];exact Aw0 k
def Agn{N:Nat}{K:Nat->Int->LA->O R}{f e d:Bool}(ok:UOk u)(hu:uR u)(hn:n<=1000)(hk:ks.length=n):∀(m k:Nat),m<n->m<k ->
  F0 N K (Am ks) n f e n d u.av k (m:Int) (tb n (gC u ks n m))=K n 0 (tb n (V4 u ks n))
|0,k+1,_,_=>by
  rw[F0];unfold N0
  rw[show decide (((0:Nat):Int)>0)=false from rfl,cf,V3 fun i _=>by unfold gC;rw[if_neg (by omega)]]
| m+1,k+1,L,hf=>by
  rw[F0];unfold N0 Pj
  have h:m<n:=by omega
  have D:m<ks.length:=by omega
  have G:m+1<ks.length:=by omega
  have Y:=Agn (N:=N) (K:=K) (f:=f) (e:=e) (d:=d) ok hu hn hk m k (by omega) (by omega)
  have hb:=ok.b;have ha:=ok.a
  have r1:=Afw (ks:=ks) (n:=n) ok (n - 1 - (m+1)) (m+1) (by omega)
  have r2:=Afv (ks:=ks) (n:=n) ok (m+1)
  have f1:=Afu (ks:=ks) ok (m+1)
  have w2:wrap .i64 (((m+1:Nat):Int) - 1)=(m:Int):=by rw[i64 (by omega)];omega
  have g0:gC u ks n (m+1) m=Xn u ks n m:=by unfold gC;rw[if_pos (by omega)]
  have g1:gC u ks n (m+1) (m+1)=V4 u ks n (m+1):=by unfold gC;rw[if_neg (by omega)]
  have up:∀ v:PD,v=V4 u ks n m->tb n (Ag0 (gC u ks n (m+1)) m v)=tb n (gC u ks n m):=fun v hv=>V3 fun i _=>by
   subst hv
   unfold Ag0 gC
   by_cases T:i=m
   ·subst T;rw[if_pos rfl,if_neg (by omega)]
   ·rw[if_neg T]
    by_cases h2:i<m
    ·rw[if_pos (by omega),if_pos h2]
    ·rw[if_neg (by omega),if_neg h2]
  have same:V4 u ks n m=Xn u ks n m->tb n (gC u ks n (m+1))=tb n (gC u ks n m):=fun hs=>by
   rw[<-up _ rfl,hs,<-g0]
   exact V3 fun i _=>by unfold Ag0;by_cases T:i=m<;>simp[T]
  have s1:∀(a b:Int),[AV.int .i64 a,.int .i64 b]=(PD.mk a b).av:=fun _ _=>rfl
  have st:=TL u ks (n:=n) (h:=m) (by omega)
  rw[show decide (((m+1:Nat):Int)>0)=true by simp,ct,Aa L,ct,Bh G,w2]
  cases ho:(ks[m+1]==2)with
  |false =>
   have o:B8 ks (m+1)=false:=by rw[Se G];exact ho
   rw[show(false==true)=false from rfl,cf]
   dsimp only
   rw[cf,w2,same (by rw[st,o,A6n,cond_false])]
   exact Y
  | true =>
   have o:B8 ks (m+1)=true:=by rw[Se G];exact ho
   rw[show(true==true)=true from rfl,ct,Aa h,ct,Bh D]
   dsimp only
   rw[w2]
   cases I:(ks[m]==2)with
   |false =>
    have o2:B8 ks m=false:=by rw[Se D];exact I
    rw[show(cond true false false)=false from rfl,cf,same (by rw[st,o2,A5u,cond_false])]
    exact Y
   |true =>
    have o2:B8 ks m=true:=by rw[Se D];exact I
    rw[show(cond true true false)=true from rfl,ct]
    simp only[Aa h,Aa L,ct,nT h,nT L,nU h,nU L,u6,u7,g0,g1,s1]
    rw[Arn h,ct,Ai4 h,i64 (a:=(V4 u ks n (m+1)).lo - u.rampUp) (by omega),i64 (a:=(V4 u ks n (m+1)).hi+u.rampDown) (by omega),up _ (by rw[st,o,o2];rfl)]
    exact Y
def Ago{N:Nat}{X:O R}{K:Nat->Int->LA->O R}{f e d:Bool}(ok:UOk u)(hu:uR u)(hn:n<=1000)(h0:0<n)(hk:ks.length=n)(hN:1100<=N)(G:Oo u ks n=true->K 0 7 []=X)(I:Oo u ks n=false->K n 0 (tb n (V4 u ks n))=X):∀(m p k:Nat),p+m=n->m<k ->
  (∀ h,h<p->B8 ks h=true->(Xn u ks n h).lo<=(Xn u ks n h).hi)->Ez N K (n:Int) (Am ks) n f e d u.av k n (p:Int) (tb n (gE u ks n p))=X
| 0,p,k+1,hp,_,T=>by
  rw[Ez];unfold N1
  have:Oo u ks n=false:=by
   unfold Oo
   rw[A5d]
   intro h hm
   simp at hm
   cases Y:B8 ks h with
   |true=>have:=T h (by omega) Y;simp;omega
   |false=>simp
  rw[Rc (by omega),cf,i64 (by omega),show(n:Int) - 1=((n - 1:Nat):Int) by omega]
  have e:=Agn (N:=N) (K:=K) (f:=f) (e:=e) (d:=d) (ks:=ks) ok hu hn hk (n - 1) N (by omega) (by omega)
  dsimp only
  rw[V3 (g:=gE u ks n p) (g':=gC u ks n (n - 1)) fun i hi=>by
   unfold gE gC
   rw[if_pos (by omega)]
   by_cases h:i<n - 1
   ·rw[if_pos h]
   ·rw[if_neg h,show i=n - 1 by omega,f_ _ _ h0],e]
  exact I this
| m+1,p,k+1,hp,hf,T=>by
  rw[Ez];unfold N1 Pi Ua Wq
  have h:p<n:=by omega
  have L:p<ks.length:=by omega
  have hb:=ok.b;have ha:=ok.a
  have ih:=Ago (N:=N) (K:=K) (f:=f) (e:=e) (d:=d) ok hu hn h0 hk hN G I m (p+1) k (by omega) (by omega)
  rw[Ox h,ct,Aa h,ct,Bh L,wS (by omega)]
  cases Y:(ks[p] != 2)with
  | true =>
   have o:B8 ks p=false:=by rw[Se L];simpa using Y
   rw[ct,V3 (g:=gE u ks n p) (g':=gE u ks n (p+1)) fun i _=>by
    unfold gE
    by_cases G:i<p
    ·rw[if_pos G,if_pos (by omega)]
    ·rw[if_neg G]
     by_cases I:i=p
     ·subst I;rw[if_pos (by omega),Aw1 o]
     ·rw[if_neg (by omega)]]
   exact ih fun h' hh' D=>by
    by_cases e:h'=p
    ·subst e;rw[o]at D;cases D
    ·exact T h' (by omega) D
  | false =>
   have o:B8 ks p=true:=by rw[Se L];simpa using Y
   have en:=Ay6 (n:=n) ok o
   rw[cf,Ef,ct,Cj,Aoh hu hk hn h,ct,Awn h,ct,Aty h]
   have s1:∀(a b:Int),[AV.int .i64 a,.int .i64 b]=(PD.mk a b).av:=fun _ _=>rfl
   have up:tb n (Ag0 (gE u ks n p) p (Xn u ks n p))=tb n (gE u ks n (p+1)):=V3 fun i _=>by
    unfold Ag0 gE
    by_cases G:i=p
    ·subst G;simp
    ·rw[if_neg G]
     by_cases I:i<p
     ·rw[if_pos I,if_pos (by omega)]
     ·rw[if_neg I,if_neg (by omega)]
   have fin:cond (Ab (p:Int) n) (Aj .i64 (drop (0+((p:Int).toNat*2)) (tb n (gE u ks n (p+1)))) fun w=>cond (Ab (p:Int) n) (Aj .i64 (drop ((0+((p:Int).toNat*2))+1) (tb n (gE u ks n (p+1)))) fun x=>cond (decide (w>x)) (K 0 7 []) (Ez N K (n:Int) (Am ks) n f e d u.av k n ((p+1:Nat):Int) (tb n (gE u ks n (p+1))))) none) none=X:=by
    rw[Aa h,ct,nT h,ct,nU h,show gE u ks n (p+1) p=Xn u ks n p by unfold gE;rw[if_pos (by omega)]]
    by_cases hc:(Xn u ks n p).lo>(Xn u ks n p).hi
    ·rw[decide_eq_true hc,ct]
     refine G ?_
     unfold Oo
     rw[A7l]
     exact⟨p,by simpa using h,by simp[o];omega⟩
    ·rw[decide_eq_false hc,cf]
     exact ih fun h' hh' D=>by
      by_cases e:h'=p
      ·subst e;omega
      ·exact T h' (by omega) D
   cases p with
   |zero =>
    rw[show(decide (((0:Nat):Int)>0)==true)=false from rfl,cf]
    dsimp only
    rw[cf,wS (by omega)]
    rw[show(decide ((0:Nat)<0))=false from rfl,A5u,cond_false]at en
    rw[<-en,up]
    simpa only[Aa h,ct,nT h,nU h]using fin
   | succ q =>
    have r0:=Afv (ks:=ks) (n:=n) ok q
    have r1:=Afu (ks:=ks) ok q
    have ge0:Ag0 (gE u ks n (q+1)) (q+1) (Ar8 u ks n (q+1)) (q+1)=Ar8 u ks n (q+1):=by simp[Ag0]
    have ge1:Ag0 (gE u ks n (q+1)) (q+1) (Ar8 u ks n (q+1)) q=Xn u ks n q:=by unfold Ag0 gE;rw[if_neg (by omega),if_pos (by omega)]
    have hq:q<n:=by omega
    rw[show(decide (((q+1:Nat):Int)>0)==true)=true by simp,ct,show wrap .i64 (((q+1:Nat):Int) - 1)=(q:Int) by rw[i64 (by omega)];omega,Aa hq,ct,Bh (by omega)]
    rw[show decide (0<q+1)=true by simp,A5s,show BN u ks (q+1)=B8 ks q from rfl,A62]at en
    rw[<-Se (by omega)]
    dsimp only
    rw[wS (by omega),show wrap .i64 (((q+1:Nat):Int) - 1)=(q:Int) by rw[i64 (by omega)];omega]
    cases hw:B8 ks q with
    |false =>
     rw[hw,cond_false]at en
     rw[show(cond true false false)=false from rfl,cf,<-en,up]
     simpa only[Aa h,ct,nT h,nU h]using fin
    | true =>
     rw[hw,cond_true]at en
     rw[show(cond true true false)=true from rfl,ct]
     simp only[Aa h,Aa hq,ct,nT h,nT hq,nU h,nU hq,u6,u7,ge0,ge1,s1]
     rw[Arn h,ct,Ai4 h,i64 (a:=(Xn u ks n q).lo - u.rampDown) (by omega),i64 (a:=(Xn u ks n q).hi+u.rampUp) (by omega),<-en]
     rw[V3 (g:=Ag0 (Ag0 (gE u ks n (q+1)) (q+1) (Ar8 u ks n (q+1))) (q+1) (Xn u ks n (q+1))) (g':=Ag0 (gE u ks n (q+1)) (q+1) (Xn u ks n (q+1))) fun i _=>by
      unfold Ag0;by_cases G:i=q+1<;>simp[G],up]
     simpa only[Aa h,ct,nT h,nU h]using fin
end
end
end Gx
namespace Gx
open Go Go.Proofs
section
variable{R:Type}
def gO{u:UnitD}{h:Int}(D:A4 u h=true):UOk u:=by
 simp only[A4,A2y,Im,decide_eq_true_eq]at D
 obtain⟨h1,h2,h3,h4,h5,h6,h7,h8,h9,G,I,L,T,Y,k,h16⟩:=D
 refine⟨by omega,by omega,by omega,fun hs=>?_⟩
 unfold Am6 at k
 rw[show(u.state==2)=true by simpa using hs]at k
 simpa[Im]using k
def bK(u:UnitD)(h:Int)(ks:List Int):Int:=cond (!A4 u h) 1 (cond ((ks.length:Int) != h) 4 (cond (!(Cb u 0 (Ar u) ks).2) 16 (cond ((u.state==2&&!B8 ks 0)&&decide (u.output>u.stopRamp)) 7 (cond (Oo u ks ks.length) 7 0))))
section
variable{u:UnitD}{ks:List Int}{n:Nat}
def Ay7{f:Int->O R}(h:0<ks.length):Aj .i64 (Am ks) f=f ks[0]:=by
 have:=RU (l:=ks) (i:=0) h (f:=f)
 rwa [A3m]at this
def pI{N:Nat}{X:O R}{K:Nat->Int->LA->O R}{h:Int}{g i o:Bool}(hl:u.away.l.length<=1000)(hk:ks.length<=1000)(hN:4096<=N)(hn:n=ks.length)
  (D:bK u h ks=0->K n 0 (tb n (V4 u ks n))=X) (k:bK u h ks≠0->K 0 (bK u h ks) []=X):Ry N u.av o h (Am ks) n g i K=X:=by
 subst hn
 rw[HS];unfold Vb
 rw[Ef,ct,Cj,Ja (by omega) (by omega) (by omega)]
 unfold bK at D k
 cases hv:A4 u h with
|false=>rw[hv]at k;exact k (by simp)
| true =>
  rw[hv]at D k
  have ok:=gO hv
  obtain⟨hs,hu,hh⟩:=Bf hv
  simp only[A5b,cond_false]at D k ⊢
  cases I:((ks.length:Int) != h)with
  |true=>rw[I]at k;exact k (by simp)
  | false =>
   rw[I]at D k
   have L:(ks.length:Int)=h:=by simpa using I
   have h0:0<ks.length:=by omega
   rw[cf,ct]
   simp only[cond_false]at D k
   refine EJ (by omega) hs hl hk rfl (fun hw=>?_) (fun hw=>?_)
   ·rw[hw]at D k
    simp only[A5b,cond_false]at D k
    rw[show((0:Int) != 0)=false from rfl,cf,Am5,show Ab 0 ks.length=true by simp[Ab];omega,ct,Ay7 h0,Av1,u9]
    have G:cond ((u.state==2&&!B8 ks 0)&&decide (u.output>u.stopRamp)) 7 (cond (Oo u ks ks.length) 7 0)=cond (Oo u ks ks.length) 7 (0:Int)->Ky N K h (Am ks) ks.length g i o u.av=X:=by
     intro hc
     rw[hc]at D k
     unfold Ky Ub
     rw[<-L,show((decide (0<=(ks.length:Int)))&&((decide ((ks.length:Int)<=(ks.length:Int)))&&((decide ((ks.length:Int)<=140737488355328))&&(decide (((ks.length:Int)*((16:Nat):Int))<=140737488355328)))))=true by simp;omega,ct,A2u,Atx]
     have:=Ago (N:=N) (K:=K) (f:=g) (e:=i) (d:=o) (X:=X) ok hu hk h0 rfl (by omega) (fun he=>by rw[he]at k;exact k (by simp)) (fun he=>by rw[he]at D;exact D rfl) ks.length 0 N (by omega) (by omega) (by omega)
     rw[V3 (g:=gE u ks ks.length 0) (g':=fun _=>⟨0,0⟩) fun i _=>by unfold gE;rw[if_neg (by omega)]]at this
     exact this
    rw[Se h0]at G k
    have e:(ks[0] != 2)=!(ks[0]==2):=rfl
    rw[e]
    cases T:(u.state==2)with
    |false=>rw[T]at G;exact G rfl
    | true =>
     rw[T]at G k
     cases Y:(ks[0]==2)with
     |true=>rw[Y]at G;exact G rfl
     |false =>
      rw[Y]at G k
      cases ho:decide (u.output>u.stopRamp)with
      |false=>rw[ho]at G;exact G rfl
      |true=>rw[ho]at k;exact k (by simp)
   ·rw[hw]at k
    exact k (by simp)
end
end
end Gx
namespace Gx
open Go Go.Proofs
section
variable{R:Type}
def rq(v:Int):RatD:=bO (v:Rat)
def A1n(u:UnitD)(A:List Int):Nat->Int
|0=>u.output
|i+1=>A.getD i 0
structure Gd(u:UnitD)(ks:List Int)(n h:Nat)(v p r:Int):Prop where
 on:B8 ks h=true->((V4 u ks n h).lo<=p/\p<=(V4 u ks n h).hi)/\(0<=r/\r<=u.reserve/\p+r<=u.max)
 was:B8 ks h=true->BN u ks h=true->p+r - v<=u.rampUp/\v - p<=u.rampDown
 st:B8 ks h=true->BN u ks h=false->p+r<=u.startRamp
 off:B8 ks h=false->p=0/\r=0
def GdA(u:UnitD)(ks:List Int)(n m:Nat)(A B:List Int):Prop:=A.length=m/\B.length=m/\∀ i,i<m->Gd u ks n i (A1n u A i) (A.getD i 0) (B.getD i 0)
end
end Gx
namespace Gx
open Go Go.Proofs
set_option maxRecDepth 100000
section
variable{R:Type}
variable{N:Nat}{u:UnitD}{p:PlanD}{f e:Bool}{c:Int}
def Avg(ks:List Int)(en re:List RatD)(a b c:Bool):PlanD:=⟨.of ks false a,.of en false b,.of re false c⟩
def Ar9{ks:List Int}{en re:List RatD}{a b c:Bool}:[AV.imm (Am ks) ks.length 1 false a,.imm (en.flatMap RatD.av) en.length 3 false b,.imm (re.flatMap RatD.av) re.length 3 false c]=(Avg ks en re a b c).av:=by rw[<-Ny];rfl
end
end Gx
namespace Gx.Cf
open Go Go.Proofs
def Am(l:List Int):LA:=l.map fun n=>.int .i64 n
end Gx.Cf
namespace Gx.Cf
open Go Go.Proofs
section
variable{R:Type}
abbrev e1:{e:Int // e≠0}:=⟨1,by decide⟩
end
end Gx.Cf
namespace Gx
open Go Go.Proofs
set_option maxRecDepth 100000
def A0o(v:Int):(rq v).q=(v:Rat):=Aqs _
def Avh(a b:Int):decide ((a:Rat)<=(b:Rat))=decide (a<=b):=by rw[decide_eq_decide];exact A3n
section
variable{u:UnitD}{ks:List Int}{n:Nat}{A B:List Int}
def Ajn{on:Bool}{p r:Int}(k:on=true->u.min<=p/\0<=r/\r<=u.reserve/\p+r<=u.max)(D:on=false->p=0/\r=0):P8 u on (p:Rat) (r:Rat)=true:=by
 unfold P8 Axq
 cases on with
|true =>
  obtain⟨a,b,c,d⟩:=k rfl
  rw[cond_true,<-A3y,Avh,Avh,Avh,Avh,decide_eq_true a,decide_eq_true b,decide_eq_true c,decide_eq_true d];rfl
|false=>obtain⟨rfl,rfl⟩:=D rfl;rfl
def Aoi{was on:Bool}{v p r:Int}(k:on=true->was=true->p+r - v<=u.rampUp/\v - p<=u.rampDown)(D:on=true->was=false->p+r<=u.startRamp)(G:on=false->was=true->v<=u.stopRamp):EK u was on (v:Rat) (p:Rat) (r:Rat)=true:=by
 unfold EK
 rw[<-A3y,<-A3i,<-A3i,Avh,Avh,Avh,Avh]
 cases on with
|true =>
  cases was with
  |true=>obtain⟨a,b⟩:=k rfl rfl;rw[decide_eq_true a,decide_eq_true b];rfl
  |false=>have a:=D rfl rfl;rw[decide_eq_true a];rfl
|false =>
  cases was with
  |true=>have a:=G rfl rfl;rw[decide_eq_true a];rfl
  |false=>rfl
def Alh{h:Int}(k:bK u h ks=0):A4 u h=true/\(ks.length:Int)=h/\(Cb u 0 (Ar u) ks).2=true/\(u.state=2->B8 ks 0=false->u.output<=u.stopRamp)/\Oo u ks ks.length=false:=by
 unfold bK at k
 cases I:A4 u h with
|false=>rw[I]at k;simp at k
| true =>
  rw[I]at k
  simp only[A5b,cond_false]at k
  cases D:((ks.length:Int) != h)with
  |true=>rw[D]at k;simp at k
  | false =>
   rw[D]at k
   cases L:(Cb u 0 (Ar u) ks).2 with
   |false=>rw[L]at k;simp at k
   | true =>
    rw[L]at k
    cases G:((u.state==2&&!B8 ks 0)&&decide (u.output>u.stopRamp))with
    |true=>rw[G]at k;simp at k
    | false =>
     rw[G]at k
     cases T:Oo u ks ks.length with
     |true=>rw[T]at k;simp at k
     |false =>
      refine⟨rfl,by simpa using D,rfl,fun Y h2=>?_,rfl⟩
      rw[show(u.state==2)=true by simpa using Y,h2]at G
      simp at G;exact G
def EY{l:List Int}{h:Nat}(hh:h<l.length):l.getD h 0=l[h]:=by rw[A2z,A2r hh];rfl
def Agp{H:Int}{EN RE:List RatD}(he:bK u H ks=0)(hn:n=ks.length)(g:GdA u ks n n A B)(hE:EN.length=n)(hR:RE.length=n)(qE:∀ i (h:i<EN.length),EN[i].q=((A.getD i 0:Int):Rat))(qR:∀ i (h:i<RE.length),RE[i].q=((B.getD i 0:Int):Rat)):∀(m h:Nat)(s:StD),h+m=n->(Cb u h s (ks.drop h)).2=true->Ab3 u h s (BN u ks h) (A1n u A h:Rat) (ks.drop h) (EN.drop h) (RE.drop h)=((n:Int),0)
|0,h,s,hh,_=>by
  rw[Jx (l:=ks) (by omega),Ab3,show n=h by omega]
  intro k ks e es r rs T;cases T
| m+1,h,s,hh,I=>by
  obtain⟨hv,hlen,_,Y,hf⟩:=Alh he
  have ok:=gO hv
  rw[<-hn]at hf
  have T:h<ks.length:=by omega
  have h2:h<EN.length:=by omega
  have h3:h<RE.length:=by omega
  have gd:=g.2.2 h (by omega)
  have r3:=Afu (ks:=ks) ok h
  have r1:=Afw (ks:=ks) (n:=n) ok (n - 1 - h) h (by omega)
  have r2:=Afv (ks:=ks) (n:=n) ok h
  rw[Fg T]at I ⊢
  rw[Fg h2,Fg h3,Ab3]
  rw[Cb]at I
  cases hs:Og u h s ks[h]with
  |none=>rw[hs]at I;simp at I
  | some t =>
   rw[hs]at I
   dsimp only at I ⊢
   rw[qE h h2,qR h h3,<-Se T]
   rw[Ajn (fun G=>by have:=gd.on G;have:=r3.2.2.2.2 G;omega) (fun G=>gd.off G),cond_true]
   rw[Aoi (fun G D=>gd.was G D) (fun G D=>gd.st G D) (fun G D=>by
    cases h with
    |zero=>exact Y (by simpa[BN]using D) G
    |succ q =>
     have L:B8 ks q=true:=D
     have g1:=(g.2.2 q (by omega)).on L
     have q1:=Afw (ks:=ks) (n:=n) ok (n - 1 - q) q (by omega)
     have e:Xn u ks n q=⟨(B_ u ks q).lo,Cn (B_ u ks q).hi u.stopRamp⟩:=by unfold Xn;rw[L,G,show decide (q+1<n)=true by simp;omega];rfl
     rw[e]at q1
     simp only[Dg]at q1
     show A.getD q 0<=_
     omega),cond_true]
   exact Agp he hn g hE hR qE qR m (h+1) t (by omega) (by exact I)
def Aw2{H:Int}{p:PlanD}(D:bK u H ks=0)(g:GdA u ks ks.length ks.length A B)(G:p.st.l=ks)(hE:p.en.l.length=ks.length)(hR:p.re.l.length=ks.length)(qE:∀ i (h:i<p.en.l.length),p.en.l[i].q=((A.getD i 0:Int):Rat))(qR:∀ i (h:i<p.re.l.length),p.re.l[i].q=((B.getD i 0:Int):Rat)):gT u H p=(H,0):=by
 obtain⟨I,k,L,_,_⟩:=Alh D
 unfold gT uY
 rw[I,G,hE,hR,decide_eq_true k]
 have:=Agp (n:=ks.length) D rfl g hE hR qE qR ks.length 0 (Ar u) (by omega) (by simpa using L)
 simp only[A3m]at this
 rw[k]at this
 exact this
end
end Gx
namespace Gx
open Go Go.Proofs
set_option maxRecDepth 100000
section
variable{R:Type}
section
variable(u:UnitD)(ks:List Int)(n a:Nat)(v:Int)
def Asa(x:Int)(h:Nat):Int:=cond (B8 ks h) (Cn (Fc x (V4 u ks n h).lo) (V4 u ks n h).hi) 0
def A0p:Nat->Int
|0=>v
|i+1=>Asa u ks n (A0p i) (a - (i+1))
def A0q:Nat->Int
|0=>v
|i+1=>Asa u ks n (A0q i) (a+(i+1))
def TS(h:Nat):Int:=if h<=a then A0p u ks n a v (a - h)else A0q u ks n a v (h - a)
def At9:TS u ks n a v a=v:=by unfold TS;rw[if_pos (A2s _),A6d];rfl
def Ali{h:Nat}(hh:h<a):TS u ks n a v h=Asa u ks n (TS u ks n a v (h+1)) h:=by
 unfold TS
 rw[if_pos (by omega),if_pos (by omega),show a - h=(a - (h+1))+1 by omega,A0p,show a - (a - (h+1)+1)=h by omega]
def Alj{h:Nat}(hh:a<=h):TS u ks n a v (h+1)=Asa u ks n (TS u ks n a v h) (h+1):=by
 unfold TS
 rw[if_neg (by omega),show h+1 - a=(h - a)+1 by omega,A0q,show a+(h - a+1)=h+1 by omega]
 by_cases e:h<=a
 ·rw[if_pos e,show h=a by omega,A6d];rfl
 ·rw[if_neg e]
end
section
variable{u:UnitD}{ks:List Int}{n a:Nat}{v:Int}
def Avi{x:Int}{h:Nat}(k:B8 ks h=true)(D:(V4 u ks n h).lo<=(V4 u ks n h).hi):(V4 u ks n h).lo<=Asa u ks n x h/\Asa u ks n x h<=(V4 u ks n h).hi:=by unfold Asa;rw[k,cond_true,Dg,Fr];omega
def Asb{x:Int}{h:Nat}(k:B8 ks h=false):Asa u ks n x h=0:=by unfold Asa;rw[k];rfl
def Ab0(I:B8 ks a=true->(V4 u ks n a).lo<=v/\v<=(V4 u ks n a).hi)(L:B8 ks a=false->v=0)(G:∀ h,h<n->(V4 u ks n h).lo<=(V4 u ks n h).hi)(h:Nat)(hh:h<n):(B8 ks h=true->(V4 u ks n h).lo<=TS u ks n a v h/\TS u ks n a v h<=(V4 u ks n h).hi)/\(B8 ks h=false->TS u ks n a v h=0):=by
 by_cases e:h=a
 ·subst e;rw[At9];exact⟨I,L⟩
 ·by_cases l:h<a
  ·rw[Ali _ _ _ _ _ l];exact⟨fun D=>Avi D (G h hh),fun D=>Asb D⟩
  ·obtain⟨k,rfl⟩:∃ k,h=k+1:=⟨h - 1,by omega⟩
   rw[Alj _ _ _ _ _ (by omega)];exact⟨fun D=>Avi D (G _ hh),fun D=>Asb D⟩
def Asd(ok:UOk u)(I:B8 ks a=true->(V4 u ks n a).lo<=v/\v<=(V4 u ks n a).hi)(L:B8 ks a=false->v=0)(D:∀ h,h<n->(V4 u ks n h).lo<=(V4 u ks n h).hi){k:Nat}(G:k+1<n)(o1:B8 ks k=true)(o2:B8 ks (k+1)=true):
  TS u ks n a v (k+1) - TS u ks n a v k<=u.rampUp/\TS u ks n a v k - TS u ks n a v (k+1)<=u.rampDown:=by
 have r0:=(Ab0 I L D k (by omega)).1 o1
 have r1:=(Ab0 I L D (k+1) G).1 o2
 have st:=TL u ks (n:=n) (h:=k) G
 rw[o1,o2]at st
 simp only[Bool.and_true,cond_true,Dg,Fr]at st
 have f:B_ u ks (k+1)=⟨Fc u.min ((B_ u ks k).lo - u.rampDown),Cn u.max ((B_ u ks k).hi+u.rampUp)⟩:=by rw[B_,o2,o1];rfl
 have q1:=Afw (ks:=ks) (n:=n) ok (n - 1 - (k+1)) (k+1) (by omega)
 have T:=Afv (ks:=ks) (n:=n) ok (k+1)
 have Y:=Aro (u:=u) (n:=n) (h:=k) o2
 rw[f]at T
 simp only[Dg,Fr]at T
 rw[Y]at st
 have hb:=ok.b
 have lo:(V4 u ks n k).lo=max (B_ u ks k).lo ((V4 u ks n (k+1)).lo - u.rampUp):=by rw[st]
 have hi:(V4 u ks n k).hi=min (B_ u ks k).hi ((V4 u ks n (k+1)).hi+u.rampDown):=by rw[st]
 have hk0:=D k (by omega)
 have hk1:=D (k+1) G
 by_cases l:k<a
 ·have e:=Ali u ks n a v l
  unfold Asa at e
  rw[o1,cond_true,Dg,Fr]at e
  omega
 ·have e:=Alj u ks n a v (h:=k) (by omega)
  unfold Asa at e
  rw[o2,cond_true,Dg,Fr]at e
  omega
def Aoj(u:UnitD)(ks:List Int)(n a:Nat)(v:Int):List Int:=(List.range n).map (TS u ks n a v)
def Agq{i:Nat}(hi:i<n):(Aoj u ks n a v).getD i 0=TS u ks n a v i:=by unfold Aoj;rw[A2z,A5o,A9i hi];rfl
def Aok{i:Nat}:(replicate n (0:Int)).getD i 0=0:=by
 rw[A2z]
 by_cases h:i<n
 ·rw[A5p,if_pos h];rfl
 ·rw[A5p,if_neg h];rfl
def Ase(ok:UOk u)(hu:uR u)(L:B8 ks a=true->(V4 u ks n a).lo<=v/\v<=(V4 u ks n a).hi)(T:B8 ks a=false->v=0)(Y:∀ h,h<n->(V4 u ks n h).lo<=(V4 u ks n h).hi):GdA u ks n n (Aoj u ks n a v) (replicate n 0):=by
 unfold uR at hu
 refine⟨by simp[Aoj],by simp,fun i hi=>?_⟩
 rw[Agq hi,Aok]
 have r0:=Ab0 L T Y i hi
 have q1:=Afw (ks:=ks) (n:=n) ok (n - 1 - i) i (by omega)
 have G:=Afv (ks:=ks) (n:=n) ok i
 have q3:=Afu (ks:=ks) ok i
 have hb:=ok.b
 refine⟨fun D=>?_,fun D I=>?_,fun D I=>?_,fun D=>⟨r0.2 D,rfl⟩⟩
 ·have:=r0.1 D
  have:=q3.2.2.2.2 D
  omega
 ·have:=r0.1 D
  cases i with
  | zero =>
   have f:B_ u ks 0=⟨Fc u.min (u.output - u.rampDown),Cn u.max (u.output+u.rampUp)⟩:=by
    rw[B_,D,show(u.state==2)=true from I];rfl
   rw[f]at G
   simp only[Dg,Fr]at G
   show _ - u.output<=_/\u.output - _<=_
   omega
  |succ k =>
   have w:=Asd ok L T Y hi I D
   show _ - (Aoj u ks n a v).getD k 0<=_/\(Aoj u ks n a v).getD k 0 - _<=_
   rw[Agq (by omega)]
   omega
 ·have:=r0.1 D
  have f:B_ u ks i=⟨u.min,u.startRamp⟩:=by rw[Ay5 D,I];rfl
  rw[f]at G
  simp only at G
  omega
end
end
end Gx
namespace Gx.Uo
open Go Go.Proofs
noncomputable section
variable{u:UnitD}{fx:List Int}{H:Nat}{a b:Nat->Rat}
def Agr{p:PlanD}{hh:Int}(k:A4 u hh=true)(D:p.st.l.length=H)(G:p.en.l.length=H)(I:p.re.l.length=H)(hc:(Ab3 u 0 (Ar u) (u.state==2) (u.output:Rat) p.st.l p.en.l p.re.l).2=0)(L:Ag fx p.st.l):
  ∃ s m,C4 u s/\Hv (Bw u fx H a b) (Jt u) H H (ds s)=some m:=by
 obtain⟨ok,kd,T⟩:=ux (fx:=fx) (H:=H) (a:=a) (b:=b) k D G I hc L
 have s0:(fun i=>ds (Sw u 0 (Ar u) p.st.l i)) 0=(Bw u fx H a b).s0:=by show ds (Sw u 0 (Ar u) p.st.l 0)=ds (Ar u);rw[A1l]
 obtain⟨m,t,_⟩:=UL (Ak4 (fx:=fx) (H:=H) (a:=a) (b:=b) k) s0 T H (A2s _) (.inr (.inr rfl))
 exact⟨_,m,ok H (A2s _),t⟩
def Asf(l:List Int)(i:Nat)(h:i<(l.map rq).length):((l.map rq)[i]'h).q=((l.getD i 0:Int):Rat):=by rw[A4i,A0o,EY (by simpa using h)]
def Ags{ks:List Int}(G:ks.length=H)(hg:Ag fx ks)(L:bK u (H:Int) ks=0):∃ s m,C4 u s/\Hv (Bw u fx H a b) (Jt u) H H (ds s)=some m:=by
 obtain⟨D,_,_,_,k⟩:=Alh L
 have ok:=gO D
 have T:=(Bf D).2.1
 rw[Arp ok,G]at k
 have I:∀ h,h<H->(V4 u ks H h).lo<=(V4 u ks H h).hi:=fun h hh=>by
  have:=A5d.1 k h (A9b.2 hh)
  simpa using this
 have hH:0<H:=by have:=(Bf D).2.2;omega
 obtain⟨A,g⟩:∃ A,GdA u ks H H A (replicate H 0):=by
  cases Y:B8 ks 0 with
  |true=>exact⟨_,Ase (a:=0) (v:=(V4 u ks H 0).lo) ok T (fun _=>⟨A65 _,I 0 hH⟩) (fun h=>by rw[Y]at h;cases h) I⟩
  |false=>exact⟨_,Ase (a:=0) (v:=0) ok T (fun h=>by rw[Y]at h;cases h) (fun _=>rfl) I⟩
 have l1:=g.1
 have g':GdA u ks ks.length ks.length A (replicate H 0):=by rw[G];exact g
 have ck:=Aw2 (p:=⟨.of ks false false,.of (A.map rq) false false,.of ((replicate H 0).map rq) false false⟩) L g' rfl (by show(A.map rq).length=_;simp;omega) (by show((replicate H 0).map rq).length=_;simp;omega)
  (fun i h=>Asf A i h) (fun i h=>Asf (replicate H 0) i h)
 obtain⟨_,_,c3⟩:=Af9 (show(gT u (H:Int) _).2=0 by rw[ck])
 exact Agr (p:=⟨.of ks false false,.of (A.map rq) false false,.of ((replicate H 0).map rq) false false⟩) D G (by show(A.map rq).length=_;simp;omega) (by show((replicate H 0).map rq).length=_;simp) c3 hg
def Avj{S:Nat->Nj}{p r:Nat->Rat}{ks:List Int}(T:UOk u)(L:S 0=ds (Ar u))(D:∀ i<H,ks.getD i 0=(S (i+1)).1)(G:∀ i<H,HourP (un u) (Bw u fx H a b) S p r i):∀ h<H,B8 ks h=true->((B_ u ks h).lo:Rat)<=p h/\p h<=((B_ u ks h).hi:Rat)
| 0,hh,k=>by
  have on1:(S (0+1)).1=2:=by rw[<-D 0 hh];simpa[B8]using k
  have o:=(G 0 hh).on on1
  have w:was S 0=(u.state==2):=by unfold was;rw[L];rfl
  have q:vC (un u) p 0=(u.output:Rat):=rfl
  rw[w,q]at o
  unfold B_;rw[k]
  have e1:(u.min:Rat)<=p 0:=o.lo
  have I:=o.hi;have e3:=o.r0
  have e4:p 0+r 0<=(u.max:Rat):=I
  cases hs:(u.state==2)with
  |true =>
   have rp:p 0+r 0 - (u.output:Rat)<=(u.rampUp:Rat)/\(u.output:Rat) - p 0<=(u.rampDown:Rat):=by have:=o.ramp;rw[hs]at this;exact this
   simp only[cond_true,Fr,Dg]
   constructor
   ·rw[Avy,A3i];unfold mx;grind
   ·rw[Amd,A3y];unfold mn;grind
  |false =>
   have rp:p 0+r 0<=(u.startRamp:Rat):=by have:=o.ramp;rw[hs]at this;exact this
   simp only[cond_true,cond_false]
   exact⟨e1,by grind⟩
| h+1,hh,k=>by
  have on1:(S (h+1+1)).1=2:=by rw[<-D (h+1) hh];simpa[B8]using k
  have o:=(G (h+1) hh).on on1
  have w:was S (h+1)=B8 ks h:=by unfold was B8;rw[D h (by omega)]
  have q:vC (un u) p (h+1)=p h:=rfl
  rw[w,q]at o
  unfold B_;rw[k]
  have e1:(u.min:Rat)<=p (h+1):=o.lo
  have I:=o.hi;have e3:=o.r0
  have e4:p (h+1)+r (h+1)<=(u.max:Rat):=I
  cases hs:B8 ks h with
  |true =>
   have rp:p (h+1)+r (h+1) - p h<=(u.rampUp:Rat)/\p h - p (h+1)<=(u.rampDown:Rat):=by have:=o.ramp;rw[hs]at this;exact this
   obtain⟨i1,i2⟩:=Avj T L D G h (by omega) hs
   simp only[cond_true,Fr,Dg]
   constructor
   ·rw[Avy,A3i];unfold mx;grind
   ·rw[Amd,A3y];unfold mn;grind
  |false =>
   have rp:p (h+1)+r (h+1)<=(u.startRamp:Rat):=by have:=o.ramp;rw[hs]at this;exact this
   simp only[cond_true,cond_false]
   exact⟨e1,by grind⟩
def Agt{S:Nat->Nj}{p r:Nat->Rat}{ks:List Int}(G:ks.length=H)(k:∀ i<H,ks.getD i 0=(S (i+1)).1)(D:∀ i<H,HourP (un u) (Bw u fx H a b) S p r i):∀(m h:Nat),h+m=H->(Cb u (h:Int) (sd (S h)) (ks.drop h)).2=true
|0,h,I=>by rw[A3v (by omega),Cb]
|m+1,h,I=>by
  have hh:h<ks.length:=by omega
  rw[A4g hh,Cb]
  have o:=D h (by omega)
  obtain⟨n1,n2⟩:=ph o.nx
  have kh:ks[h]=(S (h+1)).1:=by rw[<-k h (by omega),EY hh]
  have mh:=o.may
  have mh:((fx.getD h 0==-1||fx.getD h 0==(S (h+1)).1)&&MF u h (S (h+1)).1)=true:=mh
  rw[A2y]at mh
  have e:Og u (h:Int) (sd (S h)) ks[h]=some (sd (S (h+1))):=Arc (by rw[kh];exact mh.2) (by rw[kh];exact yY n2)
  rw[e]
  dsimp only
  have:=Agt G k D m (h+1) (by omega)
  rwa [show((h+1:Nat):Int)=(h:Int)+1 by omega]at this
def Agu{s:StD}{m:Mk}(I:A4 u (H:Int)=true)(hm:Hv (Bw u fx H a b) (Jt u) H H (ds s)=some m):∃ ks:List Int,ks.length=H/\Ag fx ks/\bK u (H:Int) ks=0:=by
 have k:=Ak4 (fx:=fx) (H:=H) (a:=a) (b:=b) I
 have ok:=gO I
 have hH:0<H:=by have:=(Bf I).2.2;omega
 obtain⟨S,S0,_,hS,_⟩:=Akg k H (A2s _) (ds s) m hm (H+1) (by show H<H+1;omega)
 have S0:S 0=ds (Ar u):=S0
 have D:=fun i hi=>(hS i hi).1
 generalize (fun i=>((Ps (un u) a b (Bw u fx H a b) (Jt u) (H+1) H (ds s) i).2.1:Rat))=p at D
 generalize (fun i=>((Ps (un u) a b (Bw u fx H a b) (Jt u) (H+1) H (ds s) i).2.2:Rat))=r at D
 have L:((List.range H).map fun i=>(S (i+1)).1).length=H:=by simp
 have G:∀ i<H,((List.range H).map fun i=>(S (i+1)).1).getD i 0=(S (i+1)).1:=fun i hi=>by
  rw[A2z,A5o,A9i hi];rfl
 generalize ((List.range H).map fun i=>(S (i+1)).1)=ks at L G
 refine⟨ks,L,fun i hi=>?_,?_⟩
 ·have mh:((fx.getD i 0==-1||fx.getD i 0==(S (i+1)).1)&&MF u i (S (i+1)).1)=true:=(D i (by omega)).may
  rw[A2y,A5y]at mh
  rw[G i (by omega)]
  exact mh.1.imp (fun h=>by simpa using h) (fun h=>by simpa using h)
 ·have w:=Agt L G D H 0 (by omega)
  rw[S0]at w
  have w:(Cb u 0 (Ar u) ks).2=true:=w
  unfold bK
  rw[I,w,show((ks.length:Int) != (H:Int))=false by rw[L];simp]
  simp only[A5b,cond_false]
  have e1:((u.state==2&&!B8 ks 0)&&decide (u.output>u.stopRamp))=false:=by
   cases T:(u.state==2)with
   |false=>rfl
   | true =>
    cases Y:B8 ks 0 with
    |true=>rfl
    |false =>
     have o:=(D 0 hH).off (by rw[<-G 0 hH];simpa[B8]using Y)
     have q:(u.output:Rat)<=(u.stopRamp:Rat):=o.1 (by rw[S0];show u.state=2;simpa using T)
     rw[decide_eq_false (by have:=A3n.1 q;omega)];rfl
  have e2:Oo u ks ks.length=false:=by
   unfold Oo
   rw[A5d]
   intro h hh
   have hh:h<H:=by rw[A9b]at hh;omega
   cases ho:B8 ks h with
   |false=>simp
   | true =>
    obtain⟨i1,i2⟩:=Avj ok S0 G D h hh ho
    have key:(Xn u ks ks.length h).lo<=(Xn u ks ks.length h).hi:=by
     unfold Xn
     rw[ho]
     cases hx:(decide (h+1<ks.length)&&!B8 ks (h+1))with
     |false=>simp only[A5s,cond_false];exact A3n.1 (A40 i1 i2)
     |true =>
      simp only[A5s,cond_true,Dg]
      rw[A2y]at hx
      have T:h+1<H:=by have:=of_decide_eq_true hx.1;omega
      have Y:B8 ks (h+1)=false:=by simpa using hx.2
      have o:=(D (h+1) T).off (by rw[<-G (h+1) T];simpa[B8]using Y)
      have q:p h<=(u.stopRamp:Rat):=o.1 (by rw[<-G h hh];simpa[B8]using ho)
      have a1:=A3n.1 (A40 i1 i2)
      have a2:=A3n.1 (A40 i1 q)
      unfold Lt;split<;>omega
    simp only[A5s,decide_eq_true_eq]
    omega
  rw[e1,e2];rfl
end
end Gx.Uo
namespace Gx.Uo
open Go Go.Proofs
noncomputable section
variable{R:Type}{N:Nat}{X:O R}
variable{u:UnitD}{fx:List Int}{H:Nat}
def oD{K:Bool->O R}{ks:List Int}{c d e g:Bool}(hl:ks.length=fx.length)(hk:ks.length<=1000):∀(m j k:Nat),j+m=ks.length->m<k->((∀ i,j<=i->i<ks.length->fx.getD i 0=-1\/fx.getD i 0=ks.getD i 0)->K true=X)->(¬ (∀ i,j<=i->i<ks.length->fx.getD i 0=-1\/fx.getD i 0=ks.getD i 0)->K false=X) ->
  Gn N K (Am ks) ks.length c d (Am fx) fx.length e g k (j:Int)=X
|0,j,k+1,hj,_,I,_=>by
  rw[Gn];unfold R3
  rw[Rc (by omega),cf]
  exact I fun i I L=>absurd L (by omega)
| m+1,j,k+1,hj,hf,I,L=>by
  rw[Gn];unfold R3
  have D:j<ks.length:=by omega
  have G:j<fx.length:=by omega
  have go:(fx[j]=-1\/fx[j]=ks[j])->Gn N K (Am ks) ks.length c d (Am fx) fx.length e g k (wrap .i64 ((j:Int)+1))=X:=fun Y=>by
   rw[wS (by omega)]
   refine oD hl hk m (j+1) k (by omega) (by omega) (fun h=>I fun i i1 i2=>?_) (fun h=>L fun h'=>h fun i i1 i2=>h' i (by omega) i2)
   by_cases e:i=j
   ·subst e;rw[EY D,EY G];exact Y
   ·exact h i (by omega) i2
  rw[Ox D,ct,Aa G,ct,Bh G,ct,Bh G,Aa D,ct,Bh D]
  by_cases e1:fx[j]=-1
  ·rw[show((fx[j] != -1)==true)=false by simp[e1],cf];exact go (.inl e1)
  ·rw[show((fx[j] != -1)==true)=true by simp[e1],ct]
   by_cases T:fx[j]=ks[j]
   ·rw[show(cond true (fx[j] != ks[j]) false)=false by simp[T],cf];exact go (.inr T)
   ·rw[show(cond true (fx[j] != ks[j]) false)=true by simp[T],ct]
    refine L fun h=>?_
    have:=h j (A2s _) D
    rw[EY D,EY G]at this
    rcases this with x|x
    ·exact e1 x
    ·exact T x
def Asg{K:Bool->O R}{ks:List Int}{c d e g:Bool}(G:ks.length<=1000)(hN:1100<=N)(I:ks.length=fx.length->Ag fx ks->K true=X)(D:¬ (ks.length=fx.length/\Ag fx ks)->K false=X):AT N (Am ks) ks.length c d (Am fx) fx.length e g K=X:=by
 rw[SV];unfold DX
 by_cases k:ks.length=fx.length
 ·rw[show((ks.length:Int) != (fx.length:Int))=false by rw[k];simp,cf]
  exact oD k G ks.length 0 N (by omega) (by omega) (fun h=>I k fun i hi=>h i (by omega) hi) (fun h=>D fun h'=>h fun i _ hi=>h'.2 i hi)
 ·rw[show((ks.length:Int) != (fx.length:Int))=true by simp;omega,ct]
  exact D fun h=>k h.1
def II(u:UnitD)(H:Nat)(fx:List Int):Nat->List Int->Bool
|0,l=>bK u (H:Int) l==0
|d+1,l=>[0,1,2].any fun k=>(fx.getD l.length 0==-1||fx.getD l.length 0==k)&&((Cb u 0 (Ar u) (l++[k])).2&&II u H fx d (l++[k]))
def PM(u:UnitD)(H:Nat)(fx:List Int)(d:Nat)(l:List Int)(k:Int):Bool:=(fx.getD l.length 0==-1||fx.getD l.length 0==k)&&((Cb u 0 (Ar u) (l++[k])).2&&II u H fx d (l++[k]))
def Ab1{d:Nat}{l:List Int}:II u H fx (d+1) l=(PM u H fx d l 0||(PM u H fx d l 1||PM u H fx d l 2)):=by
 show([0,1,2].any fun k=>PM u H fx d l k)=_
 simp
def Aol{l:List Int}{s:Int}:take (((0+l.length)+1)*1) (((Am l).take ((0+l.length)*1))++[.int .i64 s])=Am (l++[s]):=by
 have e:(Am l).take l.length=Am l:=A2t (by rw[K2];omega)
 rw[A22,A3g,A3g,e,A2t (by simp[Am])]
 unfold Am;simp
def Aua{K:Bool->O R}{rec:LA->Bool->Int->LA->Nat->Bool->Bool->LA->Nat->Bool->Bool->(Bool->O R)->O R}{l:List Int}{q p r m:Bool}(hs:Bg u=true)(L:u.away.l.length<=1000)(hN:1100<=N)(I:l.length<fx.length)(hl2:fx.length<=100){d:Nat}
  (G:∀(k:Int)(K':Bool->O R),rec u.av m (H:Int) (Am fx) fx.length false p (Am (l++[k])) (l++[k]).length false true K'=K' (II u H fx d (l++[k]))):∀ D,Bk N K rec (H:Int) (Am fx) fx.length q p (Am l) l.length r true m u.av (D+4) 0=K (II u H fx (d+1) l):=by
 have step:∀(s:Int)(D:Nat),(s=0\/s=1\/s=2)->Bk N K rec (H:Int) (Am fx) fx.length q p (Am l) l.length r true m u.av (D+1) s=cond (PM u H fx d l s) (K true) (Bk N K rec (H:Int) (Am fx) fx.length q p (Am l) l.length r true m u.av D (s+1)):=fun s D hs3=>by
  have q1:Hd N (Bk N K rec (H:Int) (Am fx) fx.length q p (Am l) l.length r true m u.av D) K rec (H:Int) (Am fx) fx.length q p (Am l) l.length r true s m u.av=cond ((Cb u 0 (Ar u) (l++[s])).2&&II u H fx d (l++[s])) (K true) (Bk N K rec (H:Int) (Am fx) fx.length q p (Am l) l.length r true m u.av D (s+1)):=by
   unfold Hd
   have e1:wrap .i64 (s+1)=s+1:=i64 (by omega)
   rw[EL,A68,ct,show((ble (0+l.length) 140737488355328)&&(ble ((0+l.length)*8) 140737488355328))=true by
    rw[show ble (0+l.length) 140737488355328=true by rw[A3p];omega,show ble ((0+l.length)*8) 140737488355328=true by rw[A3p];omega];rfl,ct,show((ble ((0+l.length)+1) 140737488355328)&&(ble (((0+l.length)+1)*8) 140737488355328))=true by
    rw[show ble (0+l.length+1) 140737488355328=true by rw[A3p];omega,show ble ((0+l.length+1)*8) 140737488355328=true by rw[A3p];omega];rfl,ct,Ef,ct,Cj,Aol,e1]
   refine EJ hN hs L (by simp;omega) (by simp) (fun T=>?_) (fun T=>?_)
   ·rw[T,show(((0:Int)==0)==true)=true from rfl,ct,ct,show 0+l.length+1=(l++[s]).length by simp,G]
    cases II u H fx d (l++[s])<;>rfl
   ·rw[T];rfl
  rw[Bk];unfold I0
  dsimp only
  rw[q1,decide_eq_true (show s<=2 by omega),ct,Aa I,ct,A3g,RU I,ct,RU I,i64 (a:=s+1) (by omega)]
  unfold PM
  rw[EY I]
  cases Y:(fx[l.length]==-1)with
  |true=>rw[show(fx[l.length] != -1)=false by unfold bne;rw[Y];rfl];rfl
  |false =>
   rw[show(fx[l.length] != -1)=true by unfold bne;rw[Y];rfl]
   cases h2:(fx[l.length]==s)with
   |true=>rw[show(fx[l.length] != s)=false by unfold bne;rw[h2];rfl];rfl
   |false=>rw[show(fx[l.length] != s)=true by unfold bne;rw[h2];rfl];rfl
 intro D
 rw[step 0 (D+3) (.inl rfl),show(0:Int)+1=1 from rfl,step 1 (D+2) (.inr (.inl rfl)),show(1:Int)+1=2 from rfl,step 2 (D+1) (.inr (.inr rfl)),show(2:Int)+1=3 from rfl,Ab1]
 have e3:Bk N K rec (H:Int) (Am fx) fx.length q p (Am l) l.length r true m u.av (D+1) 3=K false:=by
  rw[Bk];unfold I0
  rw[show decide ((3:Int)<=2)=false from rfl,cf]
 rw[e3]
 cases PM u H fx d l 0<;>cases PM u H fx d l 1<;>cases PM u H fx d l 2<;>rfl
def Ash(Y:A4 u (H:Int)=true)(G:u.away.l.length<=1000)(hN:4096<=N)(hH:H<=24)(I:fx.length=H):∀(d D:Nat)(l:List Int)(K:Bool->O R)(q p r m:Bool),l.length+d=H->d<D ->
  A8 N D u.av m (H:Int) (Am fx) fx.length q p (Am l) l.length r true K=K (II u H fx d l)
|0,D+1,l,K,q,p,r,m,hl,_=>by
  rw[A8];unfold N2
  dsimp only
  rw[show((l.length:Int)==(H:Int))=true by simp;omega,ct,Ef,ct,Cj]
  refine pI G (by omega) hN rfl (fun he=>?_) (fun he=>?_)
  ·unfold II;rw[he]
  ·unfold II;rfl
|d+1,D+1,l,K,q,p,r,m,hl,hD=>by
  rw[A8];unfold N2
  dsimp only
  rw[show((l.length:Int)==(H:Int))=false by simp;omega,cf]
  obtain⟨L,T⟩:∃ L,N=L+4:=⟨N - 4,by omega⟩
  have:=Aua (N:=N) (K:=K) (rec:=A8 N D) (q:=q) (p:=p) (r:=r) (m:=m) (H:=H) (fx:=fx) (Bf Y).1 G (by omega) (l:=l) (by omega) (by omega) (d:=d) (fun k K'=>Ash Y G hN hH I d D (l++[k]) K' false p false m (by simp;omega) (by omega)) L
  rw[<-T]at this
  exact this
def uy{K:Bool->O R}{g m:Bool}(hv:A4 u (H:Int)=true)(D:u.away.l.length<=1000)(hN:4096<=N)(G:fx.length=H):Yl N u.av m (H:Int) (Am fx) fx.length g false K=K (II u H fx H []):=by
 obtain⟨I,_,hr1,hr2⟩:=Bf hv
 rw[HU];unfold FT
 rw[Ef,ct,Cj,HT];unfold Vc
 rw[show((0:Int)==(H:Int))=false by simp;omega,cf]
 obtain⟨d,rfl⟩:∃ d,H=d+1:=⟨H - 1,by omega⟩
 have L:0<fx.length:=by omega
 have step:∀(s:Int)(k:Nat),(s=0\/s=1\/s=2)->B0 N K ((d+1:Nat):Int) (Am fx) fx.length false false m u.av (k+1) s=cond (PM u (d+1) fx d [] s) (K true) (B0 N K ((d+1:Nat):Int) (Am fx) fx.length false false m u.av k (s+1)):=fun s k hs3=>by
  have q1:Kz N (B0 N K ((d+1:Nat):Int) (Am fx) fx.length false false m u.av k) K ((d+1:Nat):Int) (Am fx) fx.length false false s m u.av=cond ((Cb u 0 (Ar u) ([]++[s])).2&&II u (d+1) fx d ([]++[s])) (K true) (B0 N K ((d+1:Nat):Int) (Am fx) fx.length false false m u.av k (s+1)):=by
   unfold Kz
   have e1:wrap .i64 (s+1)=s+1:=i64 (by omega)
   rw[Ef,ct,Cj,show([.int .i64 s]:LA)=Am ([]++[s])from rfl,e1]
   refine EJ (by omega) I D (by simp) rfl (fun T=>?_) (fun T=>?_)
   ·rw[T,show(((0:Int)==0)==true)=true from rfl,ct,ct]
    unfold OE
    refine(Ash hv D hN (by omega) G d N ([]++[s]) _ false false false m (by simp;omega) (by omega)).trans ?_
    cases II u (d+1) fx d ([]++[s])<;>rfl
   ·rw[T];rfl
  rw[B0];unfold N3
  dsimp only
  have r0:∀ F:Int->O R,Aj .i64 (Am fx) F=F fx[0]:=fun F=>by have:=RU (R:=R) L (f:=F);exact this
  have i0:Ab 0 fx.length=true:=Aa L
  rw[q1,decide_eq_true (show s<=2 by omega),ct,i0,ct,r0,ct,r0,i64 (a:=s+1) (by omega)]
  unfold PM
  rw[show([]:List Int).length=0 from rfl,EY L]
  cases h1:(fx[0]==-1)with
  |true=>rw[show(fx[0] != -1)=false by unfold bne;rw[h1];rfl];rfl
  |false =>
   rw[show(fx[0] != -1)=true by unfold bne;rw[h1];rfl]
   cases h2:(fx[0]==s)with
   |true=>rw[show(fx[0] != s)=false by unfold bne;rw[h2];rfl];rfl
   |false=>rw[show(fx[0] != s)=true by unfold bne;rw[h2];rfl];rfl
 obtain⟨k,Y⟩:∃ f',N=f'+4:=⟨N - 4,by omega⟩
 have e3:B0 N K ((d+1:Nat):Int) (Am fx) fx.length false false m u.av (k+1) 3=K false:=by
  rw[B0];unfold N3
  rw[show decide ((3:Int)<=2)=false from rfl,cf]
 have key:B0 N K ((d+1:Nat):Int) (Am fx) fx.length false false m u.av (k+4) 0=K (II u (d+1) fx (d+1) []):=by
  rw[step 0 (k+3) (.inl rfl),show(0:Int)+1=1 from rfl,step 1 (k+2) (.inr (.inl rfl)),show(1:Int)+1=2 from rfl,step 2 (k+1) (.inr (.inr rfl)),show(2:Int)+1=3 from rfl,Ab1,e3]
  cases PM u (d+1) fx d [] 0<;>cases PM u (d+1) fx d [] 1<;>cases PM u (d+1) fx d [] 2<;>rfl
 rw[<-Y]at key
 exact key
def Agv:∀{l e:List Int}{h:Int}{s:StD},(Cb u h s (l++e)).2=true->(Cb u h s l).2=true
|[],_,_,_,_=>by rw[Cb]
|k::l,e,h,s,D=>by
  rw[A4e,Cb]at D
  rw[Cb]
  cases hs:Og u h s k with
  |none=>rw[hs]at D;cases D
  |some t=>rw[hs]at D;dsimp only at D ⊢;exact Agv D
def uz(hs:Bg u=true):∀{l:List Int}{h:Int}{s:StD},C4 u s->(Cb u h s l).2=true->∀ k∈l,k=0\/k=1\/k=2
|[],_,_,_,_,k,G=>by cases G
| x::l,h,s,I,D,k,G=>by
  rw[Cb]at D
  cases hq:Og u h s x with
  |none=>rw[hq]at D;cases D
  |some t =>
   rw[hq]at D;dsimp only at D
   obtain⟨t1,t2,t3,_⟩:=BL hs I hq
   rcases A28.1 G with rfl|G
   ·rw[<-t2];exact Abo hs I t3
   ·exact uz hs t1 D k G
def Agw(hs:Bg u=true):∀(d:Nat)(l:List Int),II u H fx d l=true↔∃ e:List Int,e.length=d/\bK u (H:Int) (l++e)=0/\∀ i<d,fx.getD (l.length+i) 0=-1\/fx.getD (l.length+i) 0=e.getD i 0
| 0,l=>by
  unfold II
  constructor
  ·intro h;exact⟨[],rfl,by rw[A4x];simpa using h,fun i hi=>absurd hi (by omega)⟩
  ·rintro⟨e,D,G,_⟩
   have:e=[]:=A66.1 D
   subst this
   rw[A4x]at G;rw[G];rfl
| d+1,l=>by
  have key:∀ k,PM u H fx d l k=true↔(fx.getD l.length 0=-1\/fx.getD l.length 0=k)/\(Cb u 0 (Ar u) (l++[k])).2=true/\∃ e:List Int,e.length=d/\bK u (H:Int) (l++[k]++e)=0/\∀ i<d,fx.getD ((l++[k]).length+i) 0=-1\/fx.getD ((l++[k]).length+i) 0=e.getD i 0:=fun k=>by
   unfold PM
   rw[A2y,A2y,A5y,Agw hs d (l++[k]),beq_iff_eq,beq_iff_eq]
  have to:∀ k,PM u H fx d l k=true->∃ e:List Int,e.length=d+1/\bK u (H:Int) (l++e)=0/\∀ i<d+1,fx.getD (l.length+i) 0=-1\/fx.getD (l.length+i) 0=e.getD i 0:=fun k h=>by
   obtain⟨D,_,e,I,T,h5⟩:=(key k).1 h
   refine⟨k::e,by simp[I],by rw[A38]at T;exact T,fun i hi=>?_⟩
   cases i with
   |zero=>exact D
   |succ i=>have:=h5 i (by omega);rw[A3d,A7h,show l.length+1+i=l.length+(i+1) by omega]at this;exact this
  rw[Ab1,A5y,A5y]
  constructor
  ·rintro(h|h|h)<;>exact to _ h
  ·rintro⟨e,D,G,I⟩
   match e,D with
   |k::e,D =>
    have Y:=(Alh G).2.2.1
    have hk:=uz hs (Oa hs) Y k (by simp)
    have L:PM u H fx d l k=true:=(key k).2 ⟨I 0 (by omega),Agv (e:=e) (by rw[A38];exact Y),e,by simpa using D,by rw[A38];exact G,fun i hi=>by have:=I (i+1) (by omega);rw[A3d,A7h,show l.length+1+i=l.length+(i+1) by omega];exact this⟩
    rcases hk with rfl|rfl|rfl
    ·exact .inl L
    ·exact .inr (.inl L)
    ·exact .inr (.inr L)
def Agx{a b:Nat->Rat}(k:A4 u (H:Int)=true):II u H fx H []=true↔∃ s m,C4 u s/\Hv (Bw u fx H a b) (Jt u) H H (ds s)=some m:=by
 rw[Agw (Bf k).1]
 constructor
 ·rintro⟨e,D,G,I⟩
  exact Ags D (fun i hi=>by have:=I i (by omega);rw[A5f,A22]at this;exact this) G
 ·rintro⟨s,m,_,L⟩
  obtain⟨ks,T,k2,Y⟩:=Agu k L
  exact⟨ks,T,Y,fun i hi=>by rw[A5f,A22];exact k2 i (by omega)⟩
end
end Gx.Uo
namespace Gx
open Go
mutual
def Azm:AV->AV->Bool
|.int k n,.int k' n'=>Lo k k'&&decide (n=n')
|.bool b,.bool b'=>b==b'
|.str s,.str s'=>s==s'
|.nsl,.nsl=>true
|.imm c n s t o,.imm c' n' s' t' o'=>beq n n'&&(beq s s'&&(t==t'&&(o==o'&&pJ c c')))
|.iptr c o,.iptr c' o'=>o==o'&&pJ c c'
|.pagg c o,.pagg c' o'=>o==o'&&pJ c c'
|.own b f n,.own b' f' n'=>beq b b'&&(beq f f'&&beq n n')
|.optr b f,.optr b' f'=>beq b b'&&beq f f'
|.agg c,.agg c'=>pJ c c'
|.tup c,.tup c'=>pJ c c'
|.fn f c,.fn f' c'=>beq f f'&&pJ c c'
|.nilptr,.nilptr=>true
|.nilfn,.nilfn=>true
|.undef,.undef=>true
|.omap b,.omap b'=>beq b b'
|_,_=>false
def pJ:List AV->List AV->Bool
|[],[]=>true
|x::r,y::q=>Azm x y&&pJ r q
|_,_=>false
end
mutual
def Ajo:∀ a b,Azm a b=true->a=b:=by
 intro a b h
 cases a<;>cases b<;>simp only[Azm,A2y,A8y,beq_iff_eq,Lo,decide_eq_true_eq,reduceCtorEq,A4m]at h
 case int.int=>rw[h.1,h.2]
 case bool.bool=>rw[h]
 case str.str=>rw[h]
 case nsl.nsl=>rfl
 case imm.imm=>rw[h.1,h.2.1,h.2.2.1,h.2.2.2.1,Yv _ _ h.2.2.2.2]
 case iptr.iptr=>rw[h.1,Yv _ _ h.2]
 case pagg.pagg=>rw[h.1,Yv _ _ h.2]
 case own.own=>rw[h.1,h.2.1,h.2.2]
 case optr.optr=>rw[h.1,h.2]
 case agg.agg=>rw[Yv _ _ h]
 case tup.tup=>rw[Yv _ _ h]
 case fn.fn=>rw[h.1,Yv _ _ h.2]
 case nilptr.nilptr=>rfl
 case nilfn.nilfn=>rfl
 case undef.undef=>rfl
 case omap.omap=>rw[h]
def Yv:∀ a b,pJ a b=true->a=b:=by
 intro a b h
 cases a<;>cases b<;>simp only[pJ,A2y,A4m]at h
 ·rfl
 ·rw[Ajo _ _ h.1,Yv _ _ h.2]
end
def Azn:Option (Nat×Nat)->Option (Nat×Nat)->Bool
|none,none=>true
|some (a,b),some (c,d)=>beq a c&&beq b d
|_,_=>false
def A0r(x y:Blk):Bool:=x.dead==y.dead&&(x.sealed==y.sealed&&(x.pure==y.pure&&(x.taint==y.taint&&(beq x.sz y.sz&&(x.mp==y.mp&&(Azn x.ty y.ty&&pJ x.cells y.cells))))))
def Avk:Ap->Ap->Bool
|[],[]=>true
|(i,x)::r,(j,y)::q=>beq i j&&(A0r x y&&Avk r q)
|_,_=>false
def Aw3:∀ a b,Azn a b=true->a=b:=by
 intro a b h
 match a,b,h with
|none,none,_=>rfl
|some (a,b),some (c,d),h=>simp only[Azn,A2y,A8y]at h;rw[h.1,h.2]
|none,some _,h=>cases h
|some _,none,h=>simp[Azn]at h
def Aw4(x y:Blk)(h:A0r x y=true):x=y:=by
 unfold A0r at h
 simp only[A2y,A8y,beq_iff_eq]at h
 obtain⟨G,I,L,T,Y,h6,k,D⟩:=h
 have:=Aw3 _ _ k;have:=Yv _ _ D
 cases x;cases y;simp_all
def Ajp:∀ a b,Avk a b=true->a=b:=by
 intro a
 induction a with
|nil=>intro b h;cases b<;>simp[Avk]at h ⊢
| cons p r k =>
  intro b h
  cases b with
  |nil=>simp[Avk]at h
  |cons q s =>
   obtain⟨i,x⟩:=p;obtain⟨j,y⟩:=q
   simp only[Avk,A2y,A8y]at h
   rw[h.1,Aw4 _ _ h.2.1,k _ h.2.2]
structure Pt where
 f:Nat
 args:List AV
 h:Ap
 res:AV
 h':Ap
def Aom(P:Program)(p:Pt):Prop:=Asy P p.f p.args p.h p.res p.h'
def yd(P:Program):List Pt->Prop
|[]=>True
|p::r=>Aom P p/\yd P r
def TT(f:Nat)(a:LA)(h:Ap):List Pt->Option Pt
|[]=>none
|p::r=>cond (beq p.f f&&(pJ p.args a&&Avk p.h h)) (some p) (TT f a h r)
def Asi{R:Type}(k:AV->Ap->O R)(alt:O R):Option Pt->O R
|some p=>k p.res p.h'
|none=>alt
def Aw5 (l:List Pt) (f:Nat) (t:Tw):Tw:=⟨fun {R} a h k=>Asi k (t.runK a h k) (TT f a h l),fun {R} a h k=>by
 cases TT f a h l with
|none=>exact t.eq a h k
| some p=>rfl,[],fun _ _ _ _ _ _ hb=>Bool.noConfusion hb⟩
def ye{P:Program}{f:Nat}{a:LA}{h:Ap}:∀{l:List Pt},yd P l->∀{p},TT f a h l=some p->Asy P f a h p.res p.h'
|[],_,p,e=>by simp[TT]at e
| q::r,H,p,e=>by
  unfold TT at e
  cases hc:beq q.f f&&(pJ q.args a&&Avk q.h h)with
  |false=>rw[hc]at e;exact ye H.2 e
  |true =>
   rw[hc]at e
   simp only[cond_true,A3k]at e
   subst e
   simp only[A2y,A8y]at hc
   have:=Yv _ _ hc.2.1;have:=Ajp _ _ hc.2.2
   obtain⟨rfl,_,_⟩:=hc
   subst_vars;exact H.1
def Aub{P:Program}{l:List Pt}(H:yd P l){f:Nat}{t:Tw}(k:qu P f t):qu P f (Aw5 l f t):=by
 intro a h res h' e
 have e:Asi (fun v h'=>some (v,h')) (t.runK a h fun v h'=>some (v,h')) (TT f a h l)=some (res,h'):=e
 cases hq:TT f a h l with
|none=>rw[hq]at e;exact k a h res h' e
|some p =>
  rw[hq]at e
  simp only[Asi,A3k,A6x]at e
  obtain⟨rfl,rfl⟩:=e
  exact ye H hq
def Aw6(P:Program)(muts:Nat->List Bool)(N:Nat)(l:List Pt)(fs:List (Nat×Hints)):Nat->List (Nat×Tw)
|0=>[]
|d+1=>fs.map fun p=>(p.1,Aw5 l p.1 ⟨fun args h k=>rE P muts (Aw6 P muts N l fs d) p.2 N p.1 args h k,fun args h k=>by rw[GK,GK];exact JA ..,[],fun _ _ _ _ _ _ hb=>Bool.noConfusion hb⟩)
def Asj{P:Program}(G:P.follows .mixedOrders=true)(muts:Nat->List Bool)(N:Nat){l:List Pt}(H:yd P l)(fs:List (Nat×Hints)):∀ d,WU P (Aw6 P muts N l fs d)
|0=>trivial
| d+1=>by
  rw[Aw6]
  have key:∀(q:List (Nat×Hints)),WU P (q.map fun p=>((p.1,Aw5 l p.1 ⟨fun D h k=>rE P muts (Aw6 P muts N l fs d) p.2 N p.1 D h k,fun D h k=>by rw[GK,GK];exact JA ..,[],fun _ _ _ _ _ _ I=>Bool.noConfusion I⟩):Nat×Tw)):=by
   intro q
   induction q with
   |nil=>trivial
   |cons p r L =>
    refine⟨Aub H ?_,L⟩
    intro D h res h' hh
    exact CH (Asj G muts N H fs d) G ((GK ..).symm.trans hh)
  exact key fs
def Auc(f:Nat):List (Nat×Hints)->Hints
|[]=>⟨.leaf,[],[],[],[]⟩
|p::r=>cond (beq p.1 f) p.2 (Auc f r)
def yf(p:Pt):Option (AV×Ap)->Bool
|some (v,h)=>Azm p.res v&&Avk p.h' h
|none=>false
def Avl{P:Program}(k:P.follows .mixedOrders=true){muts:Nat->List Bool}{N:Nat}{l:List Pt}(H:yd P l){fs:List (Nat×Hints)}(d:Nat){p:Pt}
  (e:yf p (rE P muts (Aw6 P muts N l fs d) (Auc p.f fs) N p.f p.args p.h fun v h=>some (v,h))=true):Aom P p:=by
 cases hq:rE P muts (Aw6 P muts N l fs d) (Auc p.f fs) N p.f p.args p.h fun v h=>some (v,h)with
|none=>rw[hq]at e;cases e
|some q =>
  rw[hq]at e
  obtain⟨v,h⟩:=q
  simp only[yf,A2y]at e
  have:=Ajo _ _ e.1;have:=Ajp _ _ e.2
  subst_vars
  exact CH (Asj k muts N H fs d) k ((GK ..).symm.trans hq)
end Gx
namespace Gx
open Go Go.Proofs
def Aw7{P:Program}{p:Pt}{o:Option (AV×Ap)}(h:∀ v h',o=some (v,h')->Asy P p.f p.args p.h v h')(e:yf p o=true):Aom P p:=by
 cases hq:o with
|none=>rw[hq]at e;cases e
|some q =>
  rw[hq]at e
  obtain⟨v,h'⟩:=q
  simp only[yf,A2y]at e
  have k:=Ajo _ _ e.1;have D:=Ajp _ _ e.2
  unfold Aom;rw[k,D]
  exact h _ _ hq
def Ask:List Int->Bool
|a::b::r=>decide (a<=b)&&Ask (b::r)
|_=>true
def Alk:∀{l:List Int},Ask l=true->l.Pairwise fun x y=>decide (x<=y)=true
|[],_=>.nil
|[a],_=>by simp
| a::b::r,h=>by
  rw[Ask,A2y,decide_eq_true_eq]at h
  have D:=Alk h.2
  refine .cons (fun t k=>?_) D
  rcases A28.1 k with rfl|k
  ·simpa using h.1
  ·have:=(A61.1 D).1 t k
   simp at this ⊢;omega
def Asl(a:LA)(h:Ap):Option (AV×Ap):=match a,h with
|[.own 100000 0 n],[(100000,⟨false,false,true,false,1,c,false,none⟩)]=>cond (ble 1 n&&(ble n 16777216&&(c.take n).all Abg)) (cond (Ask ((c.take n).map Aot)) (some (.tup [],[(100000,bQ 1 (Xh ((c.take n).map Aot)++c.drop n))])) none) none
|_,_=>none
def Asm(a:LA)(h:Ap)(v:AV)(h':Ap)(k:Asl a h=some (v,h')):Asy Tryz.prog 125 a h v h':=by
 refine Xj 0 _ _ _ _ (show Eb 0 a h (fun v h'=>some (v,h'))=some (v,h')from ?_)
 unfold Asl at k;unfold Eb
 split at k
 ·rename_i n c
  rw[Fj];unfold Fp
  by_cases hc:(ble 1 n&&(ble n 16777216&&(c.take n).all Abg))=true
  ·rw[hc,cond_true]at k
   show cond (ble 1 n&&(ble n 16777216&&(c.take n).all Abg)) (some (AV.tup [],[(100000,bQ 1 (Xh (TF ((c.take n).map Aot))++c.drop n))])) none=some (v,h')
   rw[hc,cond_true]
   by_cases D:Ask ((c.take n).map Aot)=true
   ·rw[D,cond_true]at k
    rw[show TF ((c.take n).map Aot)=(c.take n).map Aot from List.mergeSort_of_pairwise (Alk D)]
    exact k
   ·rw[Bool.not_eq_true]at D;rw[D]at k;cases k
  ·rw[Bool.not_eq_true]at hc;rw[hc]at k;cases k
 ·cases k
def Aud{p:Pt}(k:p.f=125)(e:yf p (Asl p.args p.h)=true):Aom Tryz.prog p:=Aw7 (fun v h' D=>by rw[k];exact Asm _ _ _ _ D) e
end Gx
namespace Gx
open Go Go.Proofs
set_option maxRecDepth 100000
set_option linter.unusedVariables false
noncomputable section
def A0s:List (Nat×Hints):=[(23,{H:=hS hL (hS hL (hS hL (hS hL (hS hL (hS (hS hL (hS (hP [1,5,10,11,13,14,57,58] hL) hL)) (hS hL (hS (hS hL (hS (hP [1,10,11,13,14,82,83] (hS hL (hS hL (hS (hS (hS hL (hS hL (hS (hP [1,10,11,13,14,16,82,83,86,87,88] hL) hL))) hL) hL)))) hL)) (hS hL (hS (hS hL (hS (hP [1,10,11,13,14,19,115,116,117] hL) hL)) hL))))))))),modes:=[(3,0),(3,0),(0,0)],cob:=[5,26,27,44,45,52,53,148,149,7000024,7000029,7000034,7000040,7000050,7000055,7000064,7000077,7000078,7000079,7000087,7000107,7000116,7000140,7000153]}),(28,{H:=hL,modes:=[(0,0),(0,0),(3,0),(0,0)]}),(30,{H:=hL,modes:=[(3,0)]}),(33,{H:=hL,modes:=[(3,0)]}),(35,{H:=hL,modes:=[(3,0)]}),(41,{H:=hL,modes:=[(3,0)]}),(47,{H:=hL,modes:=[(3,0)]}),(49,{H:=hL,cob:=[4,14,15]}),(50,{H:=hS hL (hS hL (hS hL (hS hL (hS (hS hL (hS (hP [1,4,5,24,25] hL) hL)) (hS (hS hL (hS (hP [4,5,36,37] hL) hL)) (hS (hS hL (hS (hP [5,47,48] hL) hL)) hL)))))),nils:=[(2,2)],modes:=[(2,2)]}),(51,{H:=hL,modes:=[(3,0)]}),(53,{H:=hL,modes:=[(3,0)]}),(54,{H:=hS hL (hS hL (hS hL (hS (hP [0,1,2,7,8,30,31,32] hL) hL)))}),(56,{H:=hS hL (hS hL (hS (hS hL (hS (hP [0,1,2,6,7,8] hL) hL)) hL))}),(61,{H:=hL,modes:=[(3,0)]}),(66,{H:=hS hL (hS hL (hS hL (hS (hS hL (hS (hP [2,3,4,5,18,19,20] hL) hL)) hL))),modes:=[(3,0)]}),(67,{H:=hL,modes:=[(3,0)],cob:=[2,3]}),(70,{H:=hS hL (hS hL (hS (hS hL (hS (hP [0,1,3,8,9,18,19,20] hL) hL)) (hS hL (hS hL (hS hL (hS (hS hL (hS (hP [3,8,12,41,42,43] hL) hL)) hL)))))),modes:=[(3,0)]}),(71,{H:=hL,modes:=[(3,0)]}),(72,{H:=hL,modes:=[(3,0)]}),(73,{H:=hL,modes:=[(3,0)]}),(74,{H:=hL,modes:=[(3,0)]}),(75,{H:=hS hL (hS hL (hS hL (hS (hS hL (hS (hP [2,3,5,6,11,12,13] hL) hL)) hL)))}),(76,{H:=hL,modes:=[(3,0)]}),(79,{H:=hL,modes:=[(3,0)]}),(80,{H:=hL,modes:=[(3,0)]}),(81,{H:=hL,modes:=[(3,0)]}),(82,{H:=hL,modes:=[(3,0)]}),(83,{H:=hL,modes:=[(3,0)]}),(85,{H:=hL,modes:=[(3,0),(0,0)]}),(86,{H:=hS hL (hS hL (hS (hS hL (hS (hP [2,3,4,5] hL) hL)) hL)),cob:=[1000002,1000003]}),(87,{H:=hS hL (hS hL (hS hL (hS (hP [0,1,2,8,10] hL) hL)))}),(102,{H:=hL,modes:=[(3,0)]}),(103,{H:=hS hL (hS (hS hL (hS (hP [0,1,9,10,11] hL) hL)) hL)}),(104,{H:=hS hL (hS (hS hL (hS (hP [1,13,14] hL) hL)) hL)}),(105,{H:=hS hL (hS hL (hS hL (hS (hS hL (hS (hP [1,3,11,12,13] hL) hL)) hL)))}),(106,{H:=hS hL (hS (hS hL (hS (hP [0,1,7,8,9] hL) hL)) hL)}),(109,{H:=hL,nils:=[(4,2),(7,2)],modes:=[(1,2)]}),(112,{H:=hS hL (hS (hS hL (hS hL (hS hL (hS (hP [0,1,6,7,8,9] hL) hL)))) hL)}),(117,{H:=hL,nils:=[(3,1)],modes:=[(3,0),(1,1)]}),(120,{H:=hL,modes:=[(3,0)]}),(126,{H:=hS hL (hS hL (hS (hS hL (hS (hP [0,3] (hS hL (hS (hS (hS hL (hS (hS hL (hS (hS hL (hS (hP [0,3,4,5] hL) hL)) hL)) hL)) hL) hL))) hL)) hL)),nils:=[(2,1)],modes:=[(2,1)]}),(127,{H:=hS hL (hS hL (hS hL (hS hL (hS (hS (hP [0,1,4,5,6,7] hL) hL) hL)))),modes:=[(3,0)]}),(128,{H:=hS hL (hS hL (hS hL (hS (hS hL (hS (hP [0,1,5] hL) hL)) hL)))}),(132,{H:=hS hL (hS hL (hS hL (hS (hS (hP [0,1,6,7,8] hL) hL) hL)))}),(135,{H:=hS hL (hS hL (hS (hS hL (hS (hP [0,1,5] hL) hL)) hL))}),(138,{H:=hL,modes:=[(3,0)]}),(139,{H:=hL,modes:=[(3,0)]}),(140,{H:=hL,nils:=[(2,1)],modes:=[(2,1)]}),(142,{H:=hS hL (hS hL (hS hL (hS hL (hS hL (hS (hS hL (hS (hP [0,1,6,7,8] hL) hL)) hL))))),nils:=[(4,1)],modes:=[(2,1),(0,0)]}),(143,{H:=hS hL (hS hL (hS (hS hL (hS (hP [0,1,5,6] (hS hL (hS (hS (hS hL (hS (hS hL (hS (hP [0,1,5,6,7,8] hL) hL)) hL)) hL) hL))) hL)) hL)),nils:=[(4,1)],modes:=[(2,1)]}),(149,{H:=hL,modes:=[(3,0)]}),(170,{H:=hL,nils:=[(2,1)],modes:=[(2,1)]}),(180,{H:=hS hL (hS hL (hS (hS (hP [0,3] hL) hL) hL)),nils:=[(2,1)],modes:=[(2,1)]}),(193,{H:=hS hL (hS hL (hS (hS (hP [0,3] hL) hL) hL)),nils:=[(2,1)],modes:=[(2,1)]}),(194,{H:=hS hL (hS hL (hS hL (hS (hS hL (hS (hP [0,1,5] hL) hL)) hL)))}),(195,{H:=hS hL (hS (hS hL (hS (hP [0,1,2,7] hL) hL)) hL),nils:=[(6,2)],modes:=[(2,2)]}),(198,{H:=hL,modes:=[(3,0)]}),(212,{H:=hS hL (hS (hS hL (hS (hP [0,1,7,8] hL) hL)) hL)}),(214,{H:=hS hL (hS hL (hS (hS hL (hS (hP [3,6,7,8] hL) hL)) hL))}),(233,{H:=hL,modes:=[(3,0)]}),(235,{H:=hS hL (hS (hS hL (hS (hP [0,1,7,8] hL) hL)) hL)}),(247,{H:=hL,modes:=[(3,0)]}),(248,{H:=hL,modes:=[(3,0)]})]++[16,21,25,48,52,55,60,68,69,107,108,110,111,113,114,115,116,123,124,125,144,147,169,171,172,173,175,176,177,187,196,197,213].map fun f=>(f,{H:=hL})
structure PtL where
 l:List Pt
 ok:yd Tryz.prog l
def VM(n:Nat)(c:LA):Blk:=⟨false,false,true,false,n,c,false,none⟩
def Asn:Nat->List Bool:=Aph [(54,[true,false,false,false]),(56,[true,true,false]),(68,[false,false,false,true,true]),(70,[false,false,true,true]),(71,[false,true,true,true,true,true,true,true,true]),(85,[true,false,false]),(87,[true,true,false,false]),(89,[true,false]),(90,[true,false,false]),(92,[true,false,false,false,false]),(93,[true,false,false,false]),(94,[true,false,false,false]),(111,[true,false,false]),(112,[true,false,false,false]),(113,[true,false,false,false]),(123,[true,false,false]),(125,[true]),(126,[true]),(144,[true,false,false]),(145,[false,false,false,false,false,false]),(146,[false,false,false,false,false,false]),(147,[false,false,false,false,false,false]),(148,[false,false,false,false,false,false]),(149,[false,false,false,false,false,false]),(151,[true,false]),(152,[true,false]),(153,[true,false,false,false]),(154,[true,false,false,false,false,false,false,false]),(155,[true,false,false,false,false,false]),(157,[true,false,false]),(158,[true,false,false]),(159,[true,false,false]),(160,[true,false,false]),(161,[true,false,false]),(169,[false,true]),(171,[false,true,true,true,true,true,true,true,true]),(172,[false,true]),(180,[true]),(195,[true,false,false]),(202,[true,false,false,false,false,false]),(204,[true,false,false,false,false,false]),(205,[true,false,false]),(212,[false,true]),(232,[false,false,false,false,false,false]),(233,[false,false,false,false,false,false]),(238,[true]),(239,[false,false,true]),(240,[false,false,false,false,true]),(244,[true,false]),(246,[false,true,true,true,true,true,true,true,true]),(247,[false,false,false,false,false,false]),(248,[false,true,true,true,true,true,true,true,true]),(249,[false,false,false,true]),(250,[false,true,true,true,true,true,true,true,true])]
def PN(s:PtL)(p:Pt)(e:yf p (rE Tryz.prog Asn (Aw6 Tryz.prog Asn 1000000 s.l A0s 11) (Auc p.f A0s) 1000000 p.f p.args p.h fun v h=>some (v,h))=true):PtL:=⟨p::s.l,Avl follows s.ok _ e,s.ok⟩
def A0t(s:PtL)(p:Pt)(e:Aom Tryz.prog p):PtL:=⟨p::s.l,e,s.ok⟩
def pl:PtL:=⟨[],trivial⟩
def A2c:=PN pl ⟨66,[.pagg [.str [],iv 0,iv 10,iv 30,.imm [iv 20,iv 4] 1 2 false false,iv 0,iv 100,iv 100,iv 30,iv 30,iv 0,iv 0,iv 0,iv 50,iv 50,iv 0,iv 0,iv 0,.nsl,iv 0,iv 1,iv 0] false],[],.pagg [.imm [iv 10,iv 30] 2 1 false false,.imm [.bool false,.imm [] 0 1 false false,.imm [.int .u32 1] 1 1 false false,.bool true,.imm [.int .u32 80] 1 1 false false,.imm [.int .u32 1] 1 1 false false] 2 3 false false] false,[]⟩ (by kernel_rfl)
def A2d:=A0t A2c ⟨125,[.own 100000 0 2],[(100000,VM 1 [iv 10,iv 30])],.tup [],[(100000,VM 1 [iv 10,iv 30])]⟩ (Aud (by kernel_rfl) (by kernel_rfl))
def Azo:Ap:=[(100000,VM 0 [.bool false,.imm [.int .u32 5] 1 1 false false,.imm [.int .u32 1] 1 1 false false]),(100001,VM 0 [.imm [iv 10,iv 30] 2 1 false false,.imm [.bool false,.imm [] 0 1 false false,.imm [.int .u32 1] 1 1 false false,.bool true,.imm [.int .u32 80] 1 1 false false,.imm [.int .u32 1] 1 1 false false] 2 3 false false]),(100002,VM 0 [.bool false,.imm [] 0 1 false false,.imm [.int .u32 1] 1 1 false false]),(100003,⟨false,false,false,false,0,[.fn 68 [.optr 100002 0,.optr 100004 0,.optr 100005 0,.optr 100006 0]],false,none⟩),(100004,VM 0 [.str [],iv 0,iv 10,iv 30,.imm [iv 20,iv 4] 1 2 false false,iv 0,iv 100,iv 100,iv 30,iv 30,iv 0,iv 0,iv 0,iv 50,iv 50,iv 0,iv 0,iv 0,.nsl,iv 0,iv 1,iv 0]),(100005,⟨false,false,false,false,0,[iv 30],false,none⟩),(100006,⟨false,false,false,false,0,[iv 10],false,none⟩)]
def A2e:=PN A2d ⟨71,[iv 10,.optr 100000 0,.optr 100001 0,.optr 100002 0,.optr 100003 0],Azo,.pagg [.bool false,.imm [.int .u32 50] 1 1 false false,.imm [.int .u32 1] 1 1 false false] false,Azo⟩ (by kernel_rfl)
def A2f:=PN A2e ⟨71,[iv 30,.optr 100000 0,.optr 100001 0,.optr 100002 0,.optr 100003 0],Azo,.pagg [.bool false,.imm [.int .u32 70] 1 1 false false,.imm [.int .u32 1] 1 1 false false] false,Azo⟩ (by kernel_rfl)
def A2g:=PN A2f ⟨75,[.pagg [.imm [iv 10,iv 30] 2 1 false false,.imm [.bool false,.imm [.int .u32 50] 1 1 false false,.imm [.int .u32 1] 1 1 false false,.bool false,.imm [.int .u32 70] 1 1 false false,.imm [.int .u32 1] 1 1 false false] 2 3 false false] false,.pagg [.bool false,.imm [] 0 1 false false,.imm [.int .u32 1] 1 1 false false] false],[],iv 30,[]⟩ (by kernel_rfl)
def A2h:=PN A2g ⟨28,[.pagg [.str [],iv 0,iv 10,iv 30,.imm [iv 20,iv 4] 1 2 false false,iv 0,iv 100,iv 100,iv 30,iv 30,iv 0,iv 0,iv 0,iv 50,iv 50,iv 0,iv 0,iv 0,.nsl,iv 0,iv 1,iv 0] false,iv 0,iv 100,.pagg [.bool false,.imm [.int .u32 5] 1 1 false false,.imm [.int .u32 1] 1 1 false false] false,.pagg [.bool false,.imm [] 0 1 false false,.imm [.int .u32 1] 1 1 false false] false],[],.tup [iv 30,iv 0,.pagg [.bool false,.imm [.int .u32 70] 1 1 false false,.imm [.int .u32 1] 1 1 false false] false,iv 0],[]⟩ (by kernel_rfl)
def A2i:=PN A2h ⟨66,[.pagg [.str [],iv 0,iv 10,iv 30,.imm [iv 20,iv 4] 1 2 false false,iv 0,iv 100,iv 100,iv 30,iv 30,iv 0,iv 0,iv 0,iv 50,iv 50,iv 0,iv 0,iv 0,.imm [] 0 1 false false,iv 0,iv 1,iv 0] false],[],.pagg [.imm [iv 10,iv 30] 2 1 false false,.imm [.bool false,.imm [] 0 1 false false,.imm [.int .u32 1] 1 1 false false,.bool true,.imm [.int .u32 80] 1 1 false false,.imm [.int .u32 1] 1 1 false false] 2 3 false false] false,[]⟩ (by kernel_rfl)
def A2j:=PN A2i ⟨149,[.iptr [.str [],iv 0,iv 10,iv 30,.imm [iv 20,iv 4] 1 2 false false,iv 0,iv 100,iv 100,iv 30,iv 30,iv 0,iv 0,iv 0,iv 50,iv 50,iv 0,iv 0,iv 0,.imm [] 0 1 false false,iv 0,iv 1,iv 0,iv 1,.imm [.bool false,.imm [.int .u32 5] 1 1 false false,.imm [.int .u32 1] 1 1 false false] 1 3 false true,.imm [.bool false,.imm [] 0 1 false false,.imm [.int .u32 1] 1 1 false false] 1 3 false true,.imm [iv 10,iv 30] 2 1 false false,.imm [.bool false,.imm [] 0 1 false false,.imm [.int .u32 1] 1 1 false false,.bool true,.imm [.int .u32 80] 1 1 false false,.imm [.int .u32 1] 1 1 false false] 2 3 false false,.imm [] 0 2 false true,.imm [] 0 2 false true,.imm [] 0 2 false true,.imm [] 0 2 false true,.imm [] 0 2 false true,.imm [] 0 2 false true,.nsl,.nsl,.nsl,.nsl,.nsl,.nsl,.nsl,.nsl,.nsl,.nsl,.nsl,.nsl,.nsl,.nsl,.nsl,.nsl,.nsl,.nsl] true,iv 0],[],.pagg [.bool false,.imm [] 0 1 false false,.imm [.int .u32 1] 1 1 false false] false,[]⟩ (by kernel_rfl)
def A2k:=PN A2j ⟨247,[.iptr [.str [],iv 0,iv 10,iv 30,.imm [iv 20,iv 4] 1 2 false false,iv 0,iv 100,iv 100,iv 30,iv 30,iv 0,iv 0,iv 0,iv 50,iv 50,iv 0,iv 0,iv 0,.imm [] 0 1 false false,iv 0,iv 1,iv 0,iv 1,.imm [.bool false,.imm [.int .u32 5] 1 1 false false,.imm [.int .u32 1] 1 1 false false] 1 3 false true,.imm [.bool false,.imm [] 0 1 false false,.imm [.int .u32 1] 1 1 false false] 1 3 false true,.imm [iv 10,iv 30] 2 1 false false,.imm [.bool false,.imm [] 0 1 false false,.imm [.int .u32 1] 1 1 false false,.bool true,.imm [.int .u32 80] 1 1 false false,.imm [.int .u32 1] 1 1 false false] 2 3 false false,.imm [] 0 2 false true,.imm [] 0 2 false true,.imm [] 0 2 false true,.imm [] 0 2 false true,.imm [] 0 2 false true,.imm [] 0 2 false true,.nsl,.nsl,.nsl,.nsl,.nsl,.nsl,.nsl,.nsl,.nsl,.nsl,.nsl,.nsl,.nsl,.nsl,.nsl,.nsl,.nsl,.nsl] true,iv 0,iv 10],[],.pagg [.bool false,.imm [.int .u32 50] 1 1 false false,.imm [.int .u32 1] 1 1 false false] false,[]⟩ (by kernel_rfl)
def A2l:=PN A2k ⟨247,[.iptr [.str [],iv 0,iv 10,iv 30,.imm [iv 20,iv 4] 1 2 false false,iv 0,iv 100,iv 100,iv 30,iv 30,iv 0,iv 0,iv 0,iv 50,iv 50,iv 0,iv 0,iv 0,.imm [] 0 1 false false,iv 0,iv 1,iv 0,iv 1,.imm [.bool false,.imm [.int .u32 5] 1 1 false false,.imm [.int .u32 1] 1 1 false false] 1 3 false true,.imm [.bool false,.imm [] 0 1 false false,.imm [.int .u32 1] 1 1 false false] 1 3 false true,.imm [iv 10,iv 30] 2 1 false false,.imm [.bool false,.imm [] 0 1 false false,.imm [.int .u32 1] 1 1 false false,.bool true,.imm [.int .u32 80] 1 1 false false,.imm [.int .u32 1] 1 1 false false] 2 3 false false,.imm [] 0 2 false true,.imm [] 0 2 false true,.imm [] 0 2 false true,.imm [] 0 2 false true,.imm [] 0 2 false true,.imm [] 0 2 false true,.nsl,.nsl,.nsl,.nsl,.nsl,.nsl,.nsl,.nsl,.nsl,.nsl,.nsl,.nsl,.nsl,.nsl,.nsl,.nsl,.nsl,.nsl] true,iv 0,iv 30],[],.pagg [.bool false,.imm [.int .u32 70] 1 1 false false,.imm [.int .u32 1] 1 1 false false] false,[]⟩ (by kernel_rfl)
def A1o:Ap:=[(100000,VM 1 [iv 30,iv 10,iv 30]),(100001,⟨false,false,false,false,0,[.iptr [.str [],iv 0,iv 10,iv 30,.imm [iv 20,iv 4] 1 2 false false,iv 0,iv 100,iv 100,iv 30,iv 30,iv 0,iv 0,iv 0,iv 50,iv 50,iv 0,iv 0,iv 0,.imm [] 0 1 false false,iv 0,iv 1,iv 0,iv 1,.imm [.bool false,.imm [.int .u32 5] 1 1 false false,.imm [.int .u32 1] 1 1 false false] 1 3 false true,.imm [.bool false,.imm [] 0 1 false false,.imm [.int .u32 1] 1 1 false false] 1 3 false true,.imm [iv 10,iv 30] 2 1 false false,.imm [.bool false,.imm [] 0 1 false false,.imm [.int .u32 1] 1 1 false false,.bool true,.imm [.int .u32 80] 1 1 false false,.imm [.int .u32 1] 1 1 false false] 2 3 false false,.imm [] 0 2 false true,.imm [] 0 2 false true,.imm [] 0 2 false true,.imm [] 0 2 false true,.imm [] 0 2 false true,.imm [] 0 2 false true,.nsl,.nsl,.nsl,.nsl,.nsl,.nsl,.nsl,.nsl,.nsl,.nsl,.nsl,.nsl,.nsl,.nsl,.nsl,.nsl,.nsl,.nsl] true],false,none⟩),(100002,⟨false,false,false,false,0,[iv 0],false,none⟩),(100003,VM 0 [.bool false,.imm [] 0 1 false false,.imm [.int .u32 1] 1 1 false false])]
def A0u:=PN A2l ⟨70,[iv 10,iv 30,.own 100000 0 3,.fn 248 [.optr 100001 0,.optr 100002 0,.optr 100003 0]],A1o,.pagg [.imm [iv 10,iv 30] 2 1 false false,.imm [.bool false,.imm [.int .u32 50] 1 1 false false,.imm [.int .u32 1] 1 1 false false,.bool false,.imm [.int .u32 70] 1 1 false false,.imm [.int .u32 1] 1 1 false false] 2 3 false false] false,A1o⟩ (by kernel_rfl)
def A1p:Ap:=[(100004,VM 7 []),(100005,VM 7 []),(100006,VM 7 []),(100007,VM 7 []),(100008,VM 2 []),(100009,VM 2 []),(100010,VM 2 []),(100011,VM 2 []),(100012,VM 2 []),(100013,VM 2 [])]
def A1q:Ap:=[(100000,⟨false,false,false,false,0,[.optr 100001 0,.imm [iv (-1)] 1 1 false true,.own 100002 0 2,.own 100003 0 2,.own 100004 0 0,.own 100005 0 0,.own 100006 0 0,.own 100007 0 0,.nsl,.nsl,.nsl,.nsl,.nsl,.nsl,.nsl,.nsl,.nsl,.nsl,.nsl,.nsl,.nsl,.nsl,.nsl,.nsl,.nsl,.nsl,.nsl],false,none⟩),(100001,⟨false,false,false,false,0,[.str [],iv 0,iv 10,iv 30,.imm [iv 20,iv 4] 1 2 false false,iv 0,iv 100,iv 100,iv 30,iv 30,iv 0,iv 0,iv 0,iv 50,iv 50,iv 0,iv 0,iv 0,.imm [] 0 1 false false,iv 0,iv 1,iv 0,iv 1,.imm [.bool false,.imm [.int .u32 5] 1 1 false false,.imm [.int .u32 1] 1 1 false false] 1 3 false true,.imm [.bool false,.imm [] 0 1 false false,.imm [.int .u32 1] 1 1 false false] 1 3 false true,.imm [iv 10,iv 30] 2 1 false false,.imm [.bool false,.imm [] 0 1 false false,.imm [.int .u32 1] 1 1 false false,.bool true,.imm [.int .u32 80] 1 1 false false,.imm [.int .u32 1] 1 1 false false] 2 3 false false,.own 300000 0 1,.own 100009 0 0,.own 100010 0 0,.own 100011 0 0,.own 100012 0 0,.own 100013 0 0,.nsl,.nsl,.nsl,.nsl,.nsl,.nsl,.nsl,.nsl,.nsl,.nsl,.nsl,.nsl,.nsl,.nsl,.nsl,.nsl,.nsl,.nsl],false,none⟩),(100002,VM 7 [.bool true,.bool false,.imm [] 0 1 false false,.imm [.int .u32 1] 1 1 false false,iv 0,iv 0,.bool false,.bool false,.bool false,.nsl,.nsl,iv 0,iv 0,.bool false]),(100003,VM 7 [.bool true,.bool false,.imm [] 0 1 false false,.imm [.int .u32 1] 1 1 false false,iv 0,iv 0,.bool false,.bool true,.bool false,.imm [.int .u32 20] 1 1 false false,.imm [.int .u32 1] 1 1 false false,iv 0,iv 0,.bool true]),(100004,VM 7 []),(100005,VM 7 []),(100006,VM 7 []),(100007,VM 7 []),(100009,VM 2 []),(100010,VM 2 []),(100011,VM 2 []),(100012,VM 2 []),(100013,VM 2 []),(300000,VM 2 [.imm [iv 10,iv 30] 2 1 false false,.imm [.bool false,.imm [.int .u32 50] 1 1 false false,.imm [.int .u32 1] 1 1 false false,.bool false,.imm [.int .u32 70] 1 1 false false,.imm [.int .u32 1] 1 1 false false] 2 3 false false])]
def A0v:=PN A0u ⟨112,[.optr 100000 0,iv 0,.pagg [iv 2,iv 1] false,.pagg [.bool true,.bool true,.imm [.int .u32 50] 1 1 false false,.imm [.int .u32 1] 1 1 false false,iv 0,iv 0,.bool true] false],(100000,⟨false,false,false,false,0,[.optr 100001 0,.imm [iv (-1)] 1 1 false true,.own 100002 0 2,.own 100003 0 2,.own 100004 0 0,.own 100005 0 0,.own 100006 0 0,.own 100007 0 0,.nsl,.nsl,.nsl,.nsl,.nsl,.nsl,.nsl,.nsl,.nsl,.nsl,.nsl,.nsl,.nsl,.nsl,.nsl,.nsl,.nsl,.nsl,.nsl],false,none⟩)::(100001,⟨false,false,false,false,0,[.str [],iv 0,iv 10,iv 30,.imm [iv 20,iv 4] 1 2 false false,iv 0,iv 100,iv 100,iv 30,iv 30,iv 0,iv 0,iv 0,iv 50,iv 50,iv 0,iv 0,iv 0,.imm [] 0 1 false false,iv 0,iv 1,iv 0,iv 1,.imm [.bool false,.imm [.int .u32 5] 1 1 false false,.imm [.int .u32 1] 1 1 false false] 1 3 false true,.imm [.bool false,.imm [] 0 1 false false,.imm [.int .u32 1] 1 1 false false] 1 3 false true,.imm [iv 10,iv 30] 2 1 false false,.imm [.bool false,.imm [] 0 1 false false,.imm [.int .u32 1] 1 1 false false,.bool true,.imm [.int .u32 80] 1 1 false false,.imm [.int .u32 1] 1 1 false false] 2 3 false false,.own 100008 0 0,.own 100009 0 0,.own 100010 0 0,.own 100011 0 0,.own 100012 0 0,.own 100013 0 0,.nsl,.nsl,.nsl,.nsl,.nsl,.nsl,.nsl,.nsl,.nsl,.nsl,.nsl,.nsl,.nsl,.nsl,.nsl,.nsl,.nsl,.nsl],false,none⟩)::(100002,VM 7 [.bool true,.bool false,.imm [] 0 1 false false,.imm [.int .u32 1] 1 1 false false,iv 0,iv 0,.bool false,.bool false,.bool false,.nsl,.nsl,iv 0,iv 0,.bool false])::(100003,VM 7 [.bool true,.bool false,.imm [] 0 1 false false,.imm [.int .u32 1] 1 1 false false,iv 0,iv 0,.bool false,.bool false,.bool false,.nsl,.nsl,iv 0,iv 0,.bool false])::A1p,.tup [],A1q⟩ (by kernel_rfl)
def A0w:=PN A0v ⟨54,[.optr 100000 0,iv 0,iv 0,.pagg [iv 0,iv 1] false],(100000,⟨false,false,false,false,0,[.optr 100001 0,.imm [iv (-1)] 1 1 false true,.own 100002 0 2,.own 100003 0 2,.own 100004 0 0,.own 100005 0 0,.own 100006 0 0,.own 100007 0 0,.nsl,.nsl,.nsl,.nsl,.nsl,.nsl,.nsl,.nsl,.nsl,.nsl,.nsl,.nsl,.nsl,.nsl,.nsl,.nsl,.nsl,.nsl,.nsl],false,none⟩)::(100001,⟨false,false,false,false,0,[.str [],iv 0,iv 10,iv 30,.imm [iv 20,iv 4] 1 2 false false,iv 0,iv 100,iv 100,iv 30,iv 30,iv 0,iv 0,iv 0,iv 50,iv 50,iv 0,iv 0,iv 0,.imm [] 0 1 false false,iv 0,iv 1,iv 0,iv 1,.imm [.bool false,.imm [.int .u32 5] 1 1 false false,.imm [.int .u32 1] 1 1 false false] 1 3 false true,.imm [.bool false,.imm [] 0 1 false false,.imm [.int .u32 1] 1 1 false false] 1 3 false true,.imm [iv 10,iv 30] 2 1 false false,.imm [.bool false,.imm [] 0 1 false false,.imm [.int .u32 1] 1 1 false false,.bool true,.imm [.int .u32 80] 1 1 false false,.imm [.int .u32 1] 1 1 false false] 2 3 false false,.own 100008 0 0,.own 100009 0 0,.own 100010 0 0,.own 100011 0 0,.own 100012 0 0,.own 100013 0 0,.nsl,.nsl,.nsl,.nsl,.nsl,.nsl,.nsl,.nsl,.nsl,.nsl,.nsl,.nsl,.nsl,.nsl,.nsl,.nsl,.nsl,.nsl],false,none⟩)::(100002,VM 7 [.bool true,.bool false,.imm [] 0 1 false false,.imm [.int .u32 1] 1 1 false false,iv 0,iv 0,.bool false,.bool false,.bool false,.nsl,.nsl,iv 0,iv 0,.bool false])::(100003,VM 7 [.bool false,.bool false,.nsl,.nsl,iv 0,iv 0,.bool false,.bool false,.bool false,.nsl,.nsl,iv 0,iv 0,.bool false])::A1p,.tup [],A1q⟩ (by kernel_rfl)
def A0x:=PN A0w ⟨149,[.iptr [.str [],iv 0,iv 10,iv 30,.imm [iv 20,iv 4] 1 2 false false,iv 0,iv 100,iv 100,iv 30,iv 30,iv 0,iv 0,iv 0,iv 50,iv 50,iv 0,iv 0,iv 0,.imm [] 0 1 false false,iv 0,iv 1,iv 0,iv 1,.imm [.bool false,.imm [.int .u32 5] 1 1 false false,.imm [.int .u32 1] 1 1 false false] 1 3 false true,.imm [.bool false,.imm [] 0 1 false false,.imm [.int .u32 1] 1 1 false false] 1 3 false true,.imm [iv 10,iv 30] 2 1 false false,.imm [.bool false,.imm [] 0 1 false false,.imm [.int .u32 1] 1 1 false false,.bool true,.imm [.int .u32 80] 1 1 false false,.imm [.int .u32 1] 1 1 false false] 2 3 false false,.imm [.imm [iv 10,iv 30] 2 1 false false,.imm [.bool false,.imm [.int .u32 50] 1 1 false false,.imm [.int .u32 1] 1 1 false false,.bool false,.imm [.int .u32 70] 1 1 false false,.imm [.int .u32 1] 1 1 false false] 2 3 false false] 1 2 false true,.imm [] 0 2 false true,.imm [] 0 2 false true,.imm [] 0 2 false true,.imm [] 0 2 false true,.imm [] 0 2 false true,.nsl,.nsl,.nsl,.nsl,.nsl,.nsl,.nsl,.nsl,.nsl,.nsl,.nsl,.nsl,.nsl,.nsl,.nsl,.nsl,.nsl,.nsl] true,iv 0],[],.pagg [.bool false,.imm [] 0 1 false false,.imm [.int .u32 1] 1 1 false false] false,[]⟩ (by kernel_rfl)
def A0y:=PN A0x ⟨23,[.pagg [.str [],iv 0,iv 10,iv 30,.imm [iv 20,iv 4] 1 2 false false,iv 0,iv 100,iv 100,iv 30,iv 30,iv 0,iv 0,iv 0,iv 50,iv 50,iv 0,iv 0,iv 0,.nsl,iv 0,iv 1,iv 0] false,iv 1,.imm [.bool false,.imm [.int .u32 5] 1 1 false false,.imm [.int .u32 1] 1 1 false false] 1 3 false true,.imm [.bool false,.imm [] 0 1 false false,.imm [.int .u32 1] 1 1 false false] 1 3 false true,.imm [iv (-1)] 1 1 false true],[],.tup [.pagg [.imm [iv 2] 1 1 false false,.imm [.bool false,.imm [.int .u32 30] 1 1 false false,.imm [.int .u32 1] 1 1 false false] 1 3 false false,.imm [.bool false,.imm [] 0 1 false false,.imm [.int .u32 1] 1 1 false false] 1 3 false false] false,.pagg [.bool false,.imm [.int .u32 20] 1 1 false false,.imm [.int .u32 1] 1 1 false false] false,iv 0],[]⟩ (by kernel_rfl)
def A0z:=PN A0y ⟨33,[.pagg [.bool false,.imm [.int .u32 70] 1 1 false false,.imm [.int .u32 1] 1 1 false false] false,.pagg [.bool true,.imm [.int .u32 70] 1 1 false false,.imm [.int .u32 1] 1 1 false false] false],[],.pagg [.bool false,.imm [] 0 1 false false,.imm [.int .u32 1] 1 1 false false] false,[]⟩ (by kernel_rfl)
def A00:=PN A0z ⟨21,[.pagg [.bool false,.imm [.int .u32 70] 1 1 false false,.imm [.int .u32 1] 1 1 false false] false,.pagg [.bool false,.imm [.int .u32 70] 1 1 false false,.imm [.int .u32 1] 1 1 false false] false],[],iv 0,[]⟩ (by kernel_rfl)
def A01:=PN A00 ⟨33,[.pagg [.bool false,.imm [.int .u32 20] 1 1 false false,.imm [.int .u32 1] 1 1 false false] false,.pagg [.bool true,.imm [.int .u32 20] 1 1 false false,.imm [.int .u32 1] 1 1 false false] false],[],.pagg [.bool false,.imm [] 0 1 false false,.imm [.int .u32 1] 1 1 false false] false,[]⟩ (by kernel_rfl)
def A2m:=PN A01 ⟨21,[.pagg [.bool false,.imm [.int .u32 20] 1 1 false false,.imm [.int .u32 1] 1 1 false false] false,.pagg [.bool false,.imm [.int .u32 20] 1 1 false false,.imm [.int .u32 1] 1 1 false false] false],[],iv 0,[]⟩ (by kernel_rfl)
def kY:Asy Tryz.prog 16 [] [] (.bool true) []:=Avl follows (muts:=Asn) (N:=1000000) A2m.ok (fs:=A0s) 11 (p:=⟨16,[],[],.bool true,[]⟩) (by kernel_rfl)
end
end Gx
namespace Gx
open Go Go.Proofs
noncomputable section
variable{R:Type}(N:Nat)
def gP(_N:Nat)(r0:Bool->O R):O R:=r0 true
def EZ:=(shut (@gP R)).1
def Pp:@EZ R=@gP R:=(shut _).2
def wu:Bd Tryz.prog:=⟨16,fun
|[],[]=>some fun _ k=>EZ N fun b=>k (.bool b) []
| _,_=>none,(fun a h g e R k=>by
  split at e
  ·cases e;dsimp only;rw[Pp,Pp];rfl
  ·cases e),(fun a h g res h' e hh=>by
  split at e
  ·cases e;dsimp only at hh;rw[Pp]at hh;cases hh;exact kY
  ·cases e),[],fun _ _ _ _ _ _ _ _ hb=>Bool.noConfusion hb⟩
end
end Gx
namespace Gx
open Go Go.Proofs
set_option maxRecDepth 100000
noncomputable section
variable{R:Type}(N:Nat)
def Ow(r0:Bool->O R)(a:Int)(ai:LA)(af:Nat)(ar aj:Bool)(ak:LA)(ag:Nat)(au al:Bool)(f:Lu)(g h i:Int)(j:LA)(d:Nat)(av b:Bool)(l m n o p q r s t u v w x:Int)(y:LA)(e:Nat)(aw c:Bool)(z aa ab:Int)(am:LA)(ah:Nat)(ax ac:Bool)(an:LA)(ao:Nat)(ay ad:Bool)(ap:LA)(aq:Nat)(az ae:Bool)(bd:LA):O R:=(AX N [.str f,.int .i64 g,.int .i64 h,.int .i64 i,.imm j d 2 false b,.int .i64 l,.int .i64 m,.int .i64 n,.int .i64 o,.int .i64 p,.int .i64 q,.int .i64 r,.int .i64 s,.int .i64 t,.int .i64 u,.int .i64 v,.int .i64 w,.int .i64 x,.imm y e 1 false c,.int .i64 z,.int .i64 aa,.int .i64 ab] (b||(c||false)) a [.imm am ah 1 false ac,.imm an ao 3 false ad,.imm ap aq 3 false ae] (ac||(ad||(ae||false))) ai af false aj ak ag false al fun bi bv=>cond ((beq 0 0)&&((beq bi.length 3)&&(beq 3 3))) (cond (ble 3 bi.length) (cond (ble 3 bd.length) (Dv N (bi.take 3) false (bd.take 3) false fun bj=>r0 (decide (bj<=0))) none) none) none)
def H9(r0:Bool->O R)(a:Int)(ai:LA)(af:Nat)(ar aj:Bool)(ak:LA)(ag:Nat)(au al:Bool)(bb:LA)(ba:Nat)(be bc:Bool)(bf:Int)(f:Lu)(g h i:Int)(j:LA)(d:Nat)(av b:Bool)(l m n o p q r s t u v w x:Int)(y:LA)(e:Nat)(aw c:Bool)(z aa ab:Int)(am:LA)(ah:Nat)(ax ac:Bool)(an:LA)(ao:Nat)(ay ad:Bool)(ap:LA)(aq:Nat)(az ae:Bool)(bg bd:LA)(q3:O R):O R:=(cond (bf != 0) (Dd 1 bg fun bw bk=>cond (((bk:Int)==0)==true) (cond (ble 3 bd.length) (Vq N (bd.take 3) false fun bl=>r0 (cond true (bl==0) false)) none) (r0 false)) (Y8 N [.str f,.int .i64 g,.int .i64 h,.int .i64 i,.imm j d 2 false b,.int .i64 l,.int .i64 m,.int .i64 n,.int .i64 o,.int .i64 p,.int .i64 q,.int .i64 r,.int .i64 s,.int .i64 t,.int .i64 u,.int .i64 v,.int .i64 w,.int .i64 x,.imm y e 1 false c,.int .i64 z,.int .i64 aa,.int .i64 ab] (b||(c||false)) a [.imm am ah 1 false ac,.imm an ao 3 false ad,.imm ap aq 3 false ae] (ac||(ad||(ae||false))) fun bx bm=>cond ((bm != 0)==false) (AT N am ah false ac bb ba false bc fun bn=>cond (cond false true (!bn)) (r0 true) q3) (r0 true)))
def I5(r0:Bool->O R)(a:Int)(ai:LA)(af:Nat)(ar aj:Bool)(ak:LA)(ag:Nat)(au al:Bool)(bb:LA)(ba:Nat)(be bc:Bool)(bf:Int)(f:Lu)(g h i:Int)(j:LA)(d:Nat)(av b:Bool)(l m n o p q r s t u v w x:Int)(y:LA)(e:Nat)(aw c:Bool)(z aa ab:Int)(am:LA)(ah:Nat)(ax ac:Bool)(an:LA)(ao:Nat)(ay ad:Bool)(ap:LA)(aq:Nat)(az ae:Bool)(bg bd:LA):O R:=H9 N r0 a ai af ar aj ak ag au al bb ba be bc bf f g h i j d av b l m n o p q r s t u v w x y e aw c z aa ab am ah ax ac an ao ay ad ap aq az ae bg bd (Ow N r0 a ai af ar aj ak ag au al f g h i j d av b l m n o p q r s t u v w x y e aw c z aa ab am ah ax ac an ao ay ad ap aq az ae bd)
def Ia(r0:Bool->O R)(a:Int)(ai:LA)(af:Nat)(ar aj:Bool)(ak:LA)(ag:Nat)(au al:Bool)(bb:LA)(ba:Nat)(be bc:Bool)(bf:Int)(f:Lu)(g h i:Int)(j:LA)(d:Nat)(av b:Bool)(l m n o p q r s t u v w x:Int)(y:LA)(e:Nat)(aw c:Bool)(z aa ab:Int)(am:LA)(ah:Nat)(ax ac:Bool)(an:LA)(ao:Nat)(ay ad:Bool)(ap:LA)(aq:Nat)(az ae:Bool)(bg bd:LA)(q2:O R)(bh:Int):O R:=(cond ((bf != bh)==false) (EZ N fun bo=>cond (cond false true (!bo)) (r0 false) q2) (r0 false))
def Ga(r0:Bool->O R)(a:Int)(ai:LA)(af:Nat)(ar aj:Bool)(ak:LA)(ag:Nat)(au al:Bool)(bb:LA)(ba:Nat)(be bc:Bool)(bf:Int)(f:Lu)(g h i:Int)(j:LA)(d:Nat)(av b:Bool)(l m n o p q r s t u v w x:Int)(y:LA)(e:Nat)(aw c:Bool)(z aa ab:Int)(am:LA)(ah:Nat)(ax ac:Bool)(an:LA)(ao:Nat)(ay ad:Bool)(ap:LA)(aq:Nat)(az ae:Bool)(bg bd:LA)(bh:Int):O R:=Ia N r0 a ai af ar aj ak ag au al bb ba be bc bf f g h i j d av b l m n o p q r s t u v w x y e aw c z aa ab am ah ax ac an ao ay ad ap aq az ae bg bd (I5 N r0 a ai af ar aj ak ag au al bb ba be bc bf f g h i j d av b l m n o p q r s t u v w x y e aw c z aa ab am ah ax ac an ao ay ad ap aq az ae bg bd) bh
def Nb(r0:Bool->O R)(a:Int)(ai:LA)(af:Nat)(ar aj:Bool)(ak:LA)(ag:Nat)(au al:Bool)(bb:LA)(ba:Nat)(be bc:Bool)(f:Lu)(g h i:Int)(j:LA)(d:Nat)(av b:Bool)(l m n o p q r s t u v w x:Int)(y:LA)(e:Nat)(aw c:Bool)(z aa ab:Int)(am:LA)(ah:Nat)(ax ac:Bool)(an:LA)(ao:Nat)(ay ad:Bool)(ap:LA)(aq:Nat)(az ae:Bool)(q1:Int->LA->LA->Int->O R):O R:=(gM N [.str f,.int .i64 g,.int .i64 h,.int .i64 i,.imm j d 2 false b,.int .i64 l,.int .i64 m,.int .i64 n,.int .i64 o,.int .i64 p,.int .i64 q,.int .i64 r,.int .i64 s,.int .i64 t,.int .i64 u,.int .i64 v,.int .i64 w,.int .i64 x,.imm y e 1 false c,.int .i64 z,.int .i64 aa,.int .i64 ab] (b||(c||false)) a ai af false aj ak ag false al bb ba false bc fun bg bd bf=>cond ((beq 0 0)&&((beq bg.length 3)&&(beq 3 3))) (cond ((beq 0 0)&&((beq bd.length 3)&&(beq 3 3))) (Qn N [.str f,.int .i64 g,.int .i64 h,.int .i64 i,.imm j d 2 false b,.int .i64 l,.int .i64 m,.int .i64 n,.int .i64 o,.int .i64 p,.int .i64 q,.int .i64 r,.int .i64 s,.int .i64 t,.int .i64 u,.int .i64 v,.int .i64 w,.int .i64 x,.imm y e 1 false c,.int .i64 z,.int .i64 aa,.int .i64 ab] (b||(c||false)) a fun bp=>cond (!bp) (q1 bf bg bd 1) (cond (((af:Int) != a)==false) (cond ((cond false true ((ag:Int) != a))==false) (cond (cond false true ((ba:Int) != a)) (q1 bf bg bd 4) (Yl N [.str f,.int .i64 g,.int .i64 h,.int .i64 i,.imm j d 2 false b,.int .i64 l,.int .i64 m,.int .i64 n,.int .i64 o,.int .i64 p,.int .i64 q,.int .i64 r,.int .i64 s,.int .i64 t,.int .i64 u,.int .i64 v,.int .i64 w,.int .i64 x,.imm y e 1 false c,.int .i64 z,.int .i64 aa,.int .i64 ab] (b||(c||false)) a bb ba false bc fun bq=>cond (!bq) (q1 bf bg bd 7) (q1 bf bg bd 0))) (q1 bf bg bd 4)) (q1 bf bg bd 4))) none) none)
def Gb(r0:Bool->O R)(a:Int)(ai:LA)(af:Nat)(ar aj:Bool)(ak:LA)(ag:Nat)(au al:Bool)(bb:LA)(ba:Nat)(be bc:Bool)(f:Lu)(g h i:Int)(j:LA)(d:Nat)(av b:Bool)(l m n o p q r s t u v w x:Int)(y:LA)(e:Nat)(aw c:Bool)(z aa ab:Int)(am:LA)(ah:Nat)(ax ac:Bool)(an:LA)(ao:Nat)(ay ad:Bool)(ap:LA)(aq:Nat)(az ae:Bool):O R:=Nb N r0 a ai af ar aj ak ag au al bb ba be bc f g h i j d av b l m n o p q r s t u v w x y e aw c z aa ab am ah ax ac an ao ay ad ap aq az ae fun bf bg bd=>Ga N r0 a ai af ar aj ak ag au al bb ba be bc bf f g h i j d av b l m n o p q r s t u v w x y e aw c z aa ab am ah ax ac an ao ay ad ap aq az ae bg bd
def Mc(r0:Bool->O R)(q0:O R)(f:Lu)(g h i:Int)(j:LA)(d:Nat)(av b:Bool)(l m n o p q r s t u v w x:Int)(y:LA)(e:Nat)(aw c:Bool)(z aa ab a:Int)(am:LA)(ah:Nat)(ax ac:Bool)(an:LA)(ao:Nat)(ay ad:Bool)(ap:LA)(aq:Nat)(az ae:Bool)(ai:LA)(af:Nat)(ar aj:Bool)(ak:LA)(ag:Nat)(au al:Bool)(bb:LA)(ba:Nat)(be bc:Bool):O R:=(cond ((decide ((e:Int)>20))==false) (cond ((cond false true (decide ((d:Int)>20)))==false) (cond ((cond false true (decide ((ah:Int)>6)))==false) (cond ((cond false true (decide ((ba:Int)>6)))==false) (RF N an ao false ad fun br=>cond ((cond false true (!br))==false) (RF N ap aq false ae fun bs=>cond ((cond false true (!bs))==false) (RF N ai af false aj fun bt=>cond ((cond false true (!bt))==false) (RF N ak ag false al fun bu=>cond ((cond false true (!bu))==false) (cond ((decide (a>5))==true) (cond (cond false true (cond true (decide (a<=24)) false)) (r0 true) q0) q0) (r0 true)) (r0 true)) (r0 true)) (r0 true)) (r0 true)) (r0 true)) (r0 true)) (r0 true))
def Od:=(shut fun N f g h i j d av b l m n o p q r s t u v w x y e aw c z aa ab a am ah ax ac an ao ay ad ap aq az ae ai af ar aj ak ag au al bb ba be bc r0=>Mc (R:=R) N r0 (Gb N r0 a ai af ar aj ak ag au al bb ba be bc f g h i j d av b l m n o p q r s t u v w x y e aw c z aa ab am ah ax ac an ao ay ad ap aq az ae) f g h i j d av b l m n o p q r s t u v w x y e aw c z aa ab a am ah ax ac an ao ay ad ap aq az ae ai af ar aj ak ag au al bb ba be bc).1
def Wf(f g h i j d av b l m n o p q r s t u v w x y e aw c z aa ab a am ah ax ac an ao ay ad ap aq az ae ai af ar aj ak ag au al bb ba be bc r0):(@Od R N f g h i j d av b l m n o p q r s t u v w x y e aw c z aa ab a am ah ax ac an ao ay ad ap aq az ae ai af ar aj ak ag au al bb ba be bc r0)=(Mc N r0 (Gb N r0 a ai af ar aj ak ag au al bb ba be bc f g h i j d av b l m n o p q r s t u v w x y e aw c z aa ab am ah ax ac an ao ay ad ap aq az ae) f g h i j d av b l m n o p q r s t u v w x y e aw c z aa ab a am ah ax ac an ao ay ad ap aq az ae ai af ar aj ak ag au al bb ba be bc):=by rw[Od,(shut _).2]
def Xu:Hints:={H:=hK 1 (hJ [1,3,4,5,6,8] hL (hK 2 (hJ [1,3,4,5,6,8,13,14,15,16] hL (hJ [1,3,4,5,6,8,13,14,15] hL (hK 1 (hJ [1,3,4,6,8,14] hL hL))))))}
def BU:Oe:=[Ap6 N,Aoc N,DD N,tn N,wu N,aC N,nN N,Abb N,Abc N,O7 N]
def I6(F:KF R):=Iv Tryz.f4 Xu (BU N) [] N F
def WG(a:Int)(ai:LA)(af:Nat)(ar aj:Bool)(ak:LA)(ag:Nat)(au al:Bool)(f:Lu)(g h i:Int)(j:LA)(d:Nat)(av b:Bool)(l m n o p q r s t u v w x:Int)(y:LA)(e:Nat)(aw c:Bool)(z aa ab:Int)(am:LA)(ah:Nat)(ax ac:Bool)(an:LA)(ao:Nat)(ay ad:Bool)(ap:LA)(aq:Nat)(az ae:Bool)(bd:LA)(K:St->O R):=K ⟨[(1,iv a),(3,.imm ai af 3 ar aj),(4,.imm ak ag 3 au al),(6,op 0),(8,op 1),(14,op 2)],hq [bN 0 [.str f,iv g,iv h,iv i,.imm j d 2 av b,iv l,iv m,iv n,iv o,iv p,iv q,iv r,iv s,iv t,iv u,iv v,iv w,iv x,.imm y e 1 aw c,iv z,iv aa,iv ab],bN 0 [.imm am ah 1 ax ac,.imm an ao 3 ay ad,.imm ap aq 3 az ae],bQ 0 bd]⟩
def WH(a:Int)(ai:LA)(af:Nat)(ar aj:Bool)(ak:LA)(ag:Nat)(au al:Bool)(bb:LA)(ba:Nat)(be bc:Bool)(bf:Int)(f:Lu)(g h i:Int)(j:LA)(d:Nat)(av b:Bool)(l m n o p q r s t u v w x:Int)(y:LA)(e:Nat)(aw c:Bool)(z aa ab:Int)(am:LA)(ah:Nat)(ax ac:Bool)(an:LA)(ao:Nat)(ay ad:Bool)(ap:LA)(aq:Nat)(az ae:Bool)(bg bd:LA)(K:St->O R):=K ⟨[(1,iv a),(3,.imm ai af 3 ar aj),(4,.imm ak ag 3 au al),(5,.imm bb ba 1 be bc),(6,op 0),(8,op 1),(13,op 2),(14,op 3),(15,iv bf)],hq [bN 0 [.str f,iv g,iv h,iv i,.imm j d 2 av b,iv l,iv m,iv n,iv o,iv p,iv q,iv r,iv s,iv t,iv u,iv v,iv w,iv x,.imm y e 1 aw c,iv z,iv aa,iv ab],bN 0 [.imm am ah 1 ax ac,.imm an ao 3 ay ad,.imm ap aq 3 az ae],bQ 0 bg,bQ 0 bd]⟩
def WI(a:Int)(ai:LA)(af:Nat)(ar aj:Bool)(ak:LA)(ag:Nat)(au al:Bool)(bb:LA)(ba:Nat)(be bc:Bool)(bf:Int)(f:Lu)(g h i:Int)(j:LA)(d:Nat)(av b:Bool)(l m n o p q r s t u v w x:Int)(y:LA)(e:Nat)(aw c:Bool)(z aa ab:Int)(am:LA)(ah:Nat)(ax ac:Bool)(an:LA)(ao:Nat)(ay ad:Bool)(ap:LA)(aq:Nat)(az ae:Bool)(bg bd:LA)(K:St->O R):=fun bh=>K ⟨[(1,iv a),(3,.imm ai af 3 ar aj),(4,.imm ak ag 3 au al),(5,.imm bb ba 1 be bc),(6,op 0),(8,op 1),(13,op 2),(14,op 3),(15,iv bf),(16,iv bh)],hq [bN 0 [.str f,iv g,iv h,iv i,.imm j d 2 av b,iv l,iv m,iv n,iv o,iv p,iv q,iv r,iv s,iv t,iv u,iv v,iv w,iv x,.imm y e 1 aw c,iv z,iv aa,iv ab],bN 0 [.imm am ah 1 ax ac,.imm an ao 3 ay ad,.imm ap aq 3 az ae],bQ 0 bg,bQ 0 bd]⟩
def WJ(a:Int)(ai:LA)(af:Nat)(ar aj:Bool)(ak:LA)(ag:Nat)(au al:Bool)(bb:LA)(ba:Nat)(be bc:Bool)(f:Lu)(g h i:Int)(j:LA)(d:Nat)(av b:Bool)(l m n o p q r s t u v w x:Int)(y:LA)(e:Nat)(aw c:Bool)(z aa ab:Int)(am:LA)(ah:Nat)(ax ac:Bool)(an:LA)(ao:Nat)(ay ad:Bool)(ap:LA)(aq:Nat)(az ae:Bool)(K:St->O R):=K ⟨[(1,iv a),(3,.imm ai af 3 ar aj),(4,.imm ak ag 3 au al),(5,.imm bb ba 1 be bc),(6,op 0),(8,op 1)],hq [bN 0 [.str f,iv g,iv h,iv i,.imm j d 2 av b,iv l,iv m,iv n,iv o,iv p,iv q,iv r,iv s,iv t,iv u,iv v,iv w,iv x,.imm y e 1 aw c,iv z,iv aa,iv ab],bN 0 [.imm am ah 1 ax ac,.imm an ao 3 ay ad,.imm ap aq 3 az ae]]⟩
def MY(F:KF R)(a ai af ar aj ak ag au al f g h i j d av b l m n o p q r s t u v w x y e aw c z aa ab am ah ax ac an ao ay ad ap aq az ae bd):WG a ai af ar aj ak ag au al f g h i j d av b l m n o p q r s t u v w x y e aw c z aa ab am ah ax ac an ao ay ad ap aq az ae bd (A1 (I6 N F (pz 87381) []))=(Ow N (Bu F) a ai af ar aj ak ag au al f g h i j d av b l m n o p q r s t u v w x y e aw c z aa ab am ah ax ac an ao ay ad ap aq az ae bd):=by kernel_rfl
def MZ(F:KF R)(a ai af ar aj ak ag au al bb ba be bc bf f g h i j d av b l m n o p q r s t u v w x y e aw c z aa ab am ah ax ac an ao ay ad ap aq az ae bg bd):WH a ai af ar aj ak ag au al bb ba be bc bf f g h i j d av b l m n o p q r s t u v w x y e aw c z aa ab am ah ax ac an ao ay ad ap aq az ae bg bd (A1 (I6 N F (pz 5461) []))=(I5 N (Bu F) a ai af ar aj ak ag au al bb ba be bc bf f g h i j d av b l m n o p q r s t u v w x y e aw c z aa ab am ah ax ac an ao ay ad ap aq az ae bg bd):=(B6 (H9 N (Bu F) a ai af ar aj ak ag au al bb ba be bc bf f g h i j d av b l m n o p q r s t u v w x y e aw c z aa ab am ah ax ac an ao ay ad ap aq az ae bg bd) ((jW ..).trans (MY ..)):_)
def M_(F:KF R)(a ai af ar aj ak ag au al bb ba be bc bf f g h i j d av b l m n o p q r s t u v w x y e aw c z aa ab am ah ax ac an ao ay ad ap aq az ae bg bd):WI a ai af ar aj ak ag au al bb ba be bc bf f g h i j d av b l m n o p q r s t u v w x y e aw c z aa ab am ah ax ac an ao ay ad ap aq az ae bg bd (A1 (I6 N F (pz 1365) []))=(Ga N (Bu F) a ai af ar aj ak ag au al bb ba be bc bf f g h i j d av b l m n o p q r s t u v w x y e aw c z aa ab am ah ax ac an ao ay ad ap aq az ae bg bd):=(B6 (Ia N (Bu F) a ai af ar aj ak ag au al bb ba be bc bf f g h i j d av b l m n o p q r s t u v w x y e aw c z aa ab am ah ax ac an ao ay ad ap aq az ae bg bd) ((jW ..).trans (MZ ..)):_)
def M'(F:KF R)(a ai af ar aj ak ag au al bb ba be bc f g h i j d av b l m n o p q r s t u v w x y e aw c z aa ab am ah ax ac an ao ay ad ap aq az ae):WJ a ai af ar aj ak ag au al bb ba be bc f g h i j d av b l m n o p q r s t u v w x y e aw c z aa ab am ah ax ac an ao ay ad ap aq az ae (A1 (I6 N F (pz 21) []))=(Gb N (Bu F) a ai af ar aj ak ag au al bb ba be bc f g h i j d av b l m n o p q r s t u v w x y e aw c z aa ab am ah ax ac an ao ay ad ap aq az ae):=(B6 (Nb N (Bu F) a ai af ar aj ak ag au al bb ba be bc f g h i j d av b l m n o p q r s t u v w x y e aw c z aa ab am ah ax ac an ao ay ad ap aq az ae) (Axh fun bf bg bd=>(jW ..).trans (M_ ..)):_)
def BV:=Cc N 4 (BU N) Xu (fun
|[.agg [.str f,.int .i64 g,.int .i64 h,.int .i64 i,.imm j d 2 av b,.int .i64 l,.int .i64 m,.int .i64 n,.int .i64 o,.int .i64 p,.int .i64 q,.int .i64 r,.int .i64 s,.int .i64 t,.int .i64 u,.int .i64 v,.int .i64 w,.int .i64 x,.imm y e 1 aw c,.int .i64 z,.int .i64 aa,.int .i64 ab],.int .i64 a,.agg [.imm am ah 1 ax ac,.imm an ao 3 ay ad,.imm ap aq 3 az ae],.imm ai af 3 ar aj,.imm ak ag 3 au al,.imm bb ba 1 be bc],[]=>some fun _ k=>Od N f g h i j d av b l m n o p q r s t u v w x y e aw c z aa ab a am ah ax ac an ao ay ad ap aq az ae ai af ar aj ak ag au al bb ba be bc (Bu k)
| _,_=>none) fun _ _=>by split;intro R F;exact(B6 (Mc N (Bu F) · _ _ _ _ _ _ _ _ _ _ _ _ _ _ _ _ _ _ _ _ _ _ _ _ _ _ _ _ _ _ _ _ _ _ _ _ _ _ _ _ _ _ _ _ _ _ _ _ _ _ _ _ _) ((jW ..).trans (M' ..)):_).trans (Wf ..).symm;trivial
def Xv:=(BV N).tw
def WK:qu Tryz.prog 4 (Xv N):=(BV N).tok
end
end Gx
namespace Gx.Uo
open Go Go.Proofs
noncomputable section
variable{R:Type}{N:Nat}{K:Bool->O R}
def All{K:Bool->O R}:EZ N K=K true:=by rw[Pp];rfl
def Aso:rz.ok/\rz.q.num.sign=0/\rz.m=0:=by
 refine⟨⟨?_,?_⟩,?_,?_⟩
 ·intro x k;simp[rz,LS.l]at k
 ·intro x k;simp[rz,LS.l]at k
 ·simp[rz,RatD.q,LS.l,Au,val]
 ·simp[rz,RatD.m,LS.l]
def pm{l:List RatD}(D:∀ x∈l,x.ok)(h:Afh l=true):okR l/\l.length<=30:=by
 simp only[Afh,A2y,decide_eq_true_eq,A5t]at h
 refine⟨fun x k=>⟨D x k,rfl,?_⟩,h.1⟩
 have:=h.2 x k
 simp only[Aq3,A2y,decide_eq_true_eq]at this
 unfold RatD.m;omega
def Avm{A:List RatD}(o:okR A)(h:Nat)(hh:h<A.length):Pr A h (qa A h):=by
 refine⟨hh,?_⟩
 have e:qa A h=(A[h]).q:=by unfold qa;rw[A2r hh];rfl
 have:=o.at hh
 rw[e]
 exact⟨this.1,rfl,by have:=this.2.2;omega⟩
section
variable{f:List UInt8}{g h i:Int}{sg:List SegD}{av:Bool}{l m n o p q r s t u v w x:Int}{aw:List Int}{aw':Bool}{z aa ab a:Int}{ks:List Int}{ax:Bool}{en:List RatD}{ay:Bool}{re:List RatD}{az:Bool}{A:List RatD}{ar:Bool}{B:List RatD}{au:Bool}{fx:List Int}{be:Bool}
def pK(G:fit 1000000 N)(h1:∀ x∈en,x.ok)(h2:∀ x∈re,x.ok)(h3:∀ x∈A,x.ok)(h4:∀ x∈B,x.ok):
  Od N f g h i (sg.flatMap SegD.av) sg.length av false l m n o p q r s t u v w x (Am aw) aw.length aw' false z aa ab a (Am ks) ks.length ax false (en.flatMap RatD.av) en.length ay false (re.flatMap RatD.av) re.length az false (A.flatMap RatD.av) A.length ar false (B.flatMap RatD.av) B.length au false (Am fx) fx.length be false K=K true:=by
 have hN:100001000<=N:=by have:=G.1;omega
 rw[Wf];unfold Mc
 by_cases g1:20<aw.length
 ·rw[show((decide ((aw.length:Int)>20))==false)=false by simp;omega];rfl
 rw[show((decide ((aw.length:Int)>20))==false)=true by simp;omega,ct]
 by_cases g2:20<sg.length
 ·rw[show((cond false true (decide ((sg.length:Int)>20)))==false)=false by simp;omega];rfl
 rw[show((cond false true (decide ((sg.length:Int)>20)))==false)=true by simp;omega,ct]
 by_cases g3:6<ks.length
 ·rw[show((cond false true (decide ((ks.length:Int)>6)))==false)=false by simp;omega];rfl
 rw[show((cond false true (decide ((ks.length:Int)>6)))==false)=true by simp;omega,ct]
 by_cases g4:6<fx.length
 ·rw[show((cond false true (decide ((fx.length:Int)>6)))==false)=false by simp;omega];rfl
 rw[show((cond false true (decide ((fx.length:Int)>6)))==false)=true by simp;omega,ct,fV rfl (by omega)]
 cases r1:Afh en with
|false=>rfl
|true =>
 rw[show((cond false true (!true))==false)=true from rfl,ct,fV rfl (by omega)]
 cases r2:Afh re with
|false=>rfl
|true =>
 rw[show((cond false true (!true))==false)=true from rfl,ct,fV rfl (by omega)]
 cases r3:Afh A with
|false=>rfl
|true =>
 rw[show((cond false true (!true))==false)=true from rfl,ct,fV rfl (by omega)]
 cases r4:Afh B with
|false=>rfl
|true =>
 rw[show((cond false true (!true))==false)=true from rfl,ct]
 have o1:=pm h1 r1
 have o2:=pm h2 r2
 have o3:=pm h3 r3
 have o4:=pm h4 r4
 have body:(a<=5\/24<a)->Gb N K a (A.flatMap RatD.av) A.length ar false (B.flatMap RatD.av) B.length au false (Am fx) fx.length be false f g h i (sg.flatMap SegD.av) sg.length av false l m n o p q r s t u v w x (Am aw) aw.length aw' false z aa ab (Am ks) ks.length ax false (en.flatMap RatD.av) en.length ay false (re.flatMap RatD.av) re.length az false=K true:=fun h6=>by
  unfold Gb Nb
  rw[Aiy,show(false||(false||false))=false from rfl]
  have fin:∀ e:Int,e≠0->Ga N K a (A.flatMap RatD.av) A.length ar false (B.flatMap RatD.av) B.length au false (Am fx) fx.length be false e f g h i (sg.flatMap SegD.av) sg.length av false l m n o p q r s t u v w x (Am aw) aw.length aw' false z aa ab (Am ks) ks.length ax false (en.flatMap RatD.av) en.length ay false (re.flatMap RatD.av) re.length az false At8 rz.av e=K true:=fun e I=>by
   unfold Ga Ia I5 H9
   rw[show((e != e)==false)=true by simp,ct,All,show(cond false true (!true))=false from rfl,cf,show(e != 0)=true by simpa using I,ct,show ∀ F:LA->Nat->O R,Dd 1 At8 F=F [] 0 from fun _=>rfl,show((((0:Nat):Int)==0)==true)=true from rfl,ct,Gx.b3,ct,Y9,SE Aso.1 (G.le (by have:=Aso.2.2;omega)),Aso.2.1]
   rfl
  generalize hU:A09 f g h i sg false l m n o p q r s t u v w x aw false z aa ab=U
  have hal:U.away.l.length=aw.length:=by subst hU;rfl
  have h5:A4 U a=true->a<=5:=fun k=>by have:=(Bf k).2.2;omega
  refine Awy (a:=qa A) (b:=qa B) (by omega) h5 (Avm o3.1) (Avm o4.1) G (fun k=>?_) (fun k Y=>?_) (fun k L hno=>?_) (fun k L S M St En Re d hB=>?_)
  ·rw[show((beq 0 0)&&((beq (List.length At8) 3)&&(beq 3 3)))=true from rfl,ct,Gx.c3,ct,Ja (by omega) (by omega) (by omega),k,show(!false)=true from rfl,ct]
   exact fin 1 (by omega)
  ·rw[show((beq 0 0)&&((beq (List.length At8) 3)&&(beq 3 3)))=true from rfl,ct,Gx.c3,ct,Ja (by omega) (by omega) (by omega),k,show(!true)=false from rfl,cf]
   by_cases hE:(A.length:Int)=a
   ·rw[show(((A.length:Int) != a)==false)=true by rw[hE];simp,ct]
    by_cases hQ:(B.length:Int)=a
    ·rw[show((cond false true ((B.length:Int) != a))==false)=true by rw[hQ];simp,ct]
     by_cases hF:(fx.length:Int)=a
     ·exact absurd ⟨hE,hQ,hF⟩ Y
     ·rw[show(cond false true ((fx.length:Int) != a))=true by simp[hF],ct]
      exact fin 4 (by omega)
    ·rw[show((cond false true ((B.length:Int) != a))==false)=false by simp[hQ],cf]
     exact fin 4 (by omega)
   ·rw[show(((A.length:Int) != a)==false)=false by simp[hE],cf]
    exact fin 4 (by omega)
  ·obtain⟨hE,hQ,hF⟩:=L
   have hH:a=(a.toNat:Int):=by have:=(Bf k).2.2;omega
   have D:A4 U (a.toNat:Int)=true:=by rw[<-hH];exact k
   rw[show((beq 0 0)&&((beq (List.length At8) 3)&&(beq 3 3)))=true from rfl,ct,Gx.c3,ct,Ja (by omega) (by omega) (by omega),k,show(!true)=false from rfl,cf,show(((A.length:Int) != a)==false)=true by rw[hE];simp,ct,show((cond false true ((B.length:Int) != a))==false)=true by rw[hQ];simp,ct,show(cond false true ((fx.length:Int) != a))=false by rw[hF];simp,cf]
   have pc:=fun K':Bool->O R=>uy (R:=R) (K:=K') (N:=N) (u:=U) (fx:=fx) (H:=a.toNat) (g:=false) (m:=false) D (by omega) (by omega) (by omega)
   rw[<-hH]at pc
   have pz:II U a.toNat fx a.toNat []=false:=by
    cases hb:II U a.toNat fx a.toNat []with
    |false=>rfl
    |true =>
     obtain⟨s',m',q1,T⟩:=(Agx (a:=qa A) (b:=qa B) D).1 hb
     rw[hno s' q1]at T;cases T
   refine(pc _).trans ?_
   rw[pz,show(!false)=true from rfl,ct]
   exact fin 7 (by omega)
  ·obtain⟨hE,hQ,hF⟩:=L
   have hr:=(Bf k).2.2
   have hH:a=(a.toNat:Int):=by omega
   have D:A4 U (a.toNat:Int)=true:=by rw[<-hH];exact k
   rw[show((beq 0 0)&&((beq (List.length (Awv St En Re)) 3)&&(beq 3 3)))=true from rfl,ct,Gx.c3,ct,Ja (by omega) (by omega) (by omega),k,show(!true)=false from rfl,cf,show(((A.length:Int) != a)==false)=true by rw[hE];simp,ct,show((cond false true ((B.length:Int) != a))==false)=true by rw[hQ];simp,ct,show(cond false true ((fx.length:Int) != a))=false by rw[hF];simp,cf]
   have pc:=fun K':Bool->O R=>uy (R:=R) (K:=K') (N:=N) (u:=U) (fx:=fx) (H:=a.toNat) (g:=false) (m:=false) D (by omega) (by omega) (by omega)
   rw[<-hH]at pc
   have pz:II U a.toNat fx a.toNat []=true:=(Agx (a:=qa A) (b:=qa B) D).2 ⟨S,M,hB.ok,hB.tab⟩
   refine(pc _).trans ?_
   rw[pz,show(!true)=false from rfl,cf]
   unfold Ga Ia I5 H9
   dsimp only
   rw[show(((0:Int) != 0)==false)=true from rfl,ct,All,show(cond false true (!true))=false from rfl,cf,show((0:Int) != 0)=false from rfl,cf,Aiy,hU,Ar9]
   have oe:okR (Avg ks en re false false false).en.l:=o1.1
   have or:okR (Avg ks en re false false false).re.l:=o2.1
   rw[TN (by omega) (G.le (by omega)) (by omega) oe or]
   by_cases hc:¬ (gT U a (Avg ks en re false false false)).2=0
   ·rw[show(((gT U a (Avg ks en re false false false)).2 != 0)==false)=false by simp[hc],cf]
   replace hc:=Decidable.not_not.1 hc
   rw[show(((gT U a (Avg ks en re false false false)).2 != 0)==false)=true by simp[hc],ct]
   refine Asg (by omega) (by omega) (fun L hg=>?_) (fun _=>rfl)
   rw[show(cond false true (!true))=false from rfl,cf]
   unfold Ow
   rw[Aiy,hU,Ar9]
   refine wt (by omega) G (by omega) o3.2 o4.2 o3.1 o4.1 oe or fun e I=>?_
   obtain⟨s',m',q1,T,q3⟩:=Agm (H:=a.toNat) (fx:=fx) (a:=qa A) (b:=qa B) (A:=A) (B:=B) k hH hc hg (by omega) (by omega) (fun _ _=>rfl) (fun _ _=>rfl)
   have q4:=hB.best s' m' q1 T
   have ep:Asu U a (Avg ks en re false false false) A B=Ov A en+Ov B re - K5 U (Ar U) (Cb U 0 (Ar U) ks).1 ks en re:=by
    unfold Asu Aga Axw
    rw[hc,hE,hQ];simp;rfl
   have le:Asu U a (Avg ks en re false false false) A B<=M.profit:=by rw[ep];exact A40 q3 q4
   have hd:=hB.can
   have hq:=hB.q
   rw[Gx.c3,ct,Gx.b3,ct,Gx.b3,ct,Y9,Y9,AM I.1 hd.ok (G.le (by have:=I.2.2;rw[hd.m];omega)),I.2.1,hd.q,decide_eq_true (pZ.2 le)]
 by_cases c1:a>5
 ·rw[show(decide (a>5)==true)=true by simp[c1],ct]
  by_cases c2:a<=24
  ·rw[show(cond false true (cond true (decide (a<=24)) false))=true by simp[c2],ct]
  ·rw[show(cond false true (cond true (decide (a<=24)) false))=false by simp[c2],cf]
   exact body (.inr (by omega))
 ·rw[show(decide (a>5)==true)=false by simp[c1],cf]
  exact body (.inl (by omega))
end
end
end Gx.Uo
namespace Gx
open Go Go.RowKit
def Ab2{P:Program}{t:TypeId}(D:P.underlying t=some .string)(hc:P.cellsOf t=1):Opens P t (α:={s:Lu // s.length<=maxLen}) (fun s=>[.str s.1]) 1:=by
 refine⟨hc,by omega,fun _=>rfl,fun enc W k cs d ps h=>?_⟩
 obtain⟨s,rfl,_,G⟩:=DataW.trod_string D h
 refine⟨rfl,⟨s.data.toList,G⟩,?_⟩
 simp[RepCs,RepC]
def Opens.map{P:Program}{t:TypeId}{α β:Type}{e:α->LA}{n:Nat}(h:Opens P t e n)(e':β->LA)(g:α->β)(D:∀ a,e a=e' (g a))(G:∀ b,(e' b).length=n):Opens P t e' n:=by
 refine⟨h.size,h.pos,G,fun enc W k cs d ps I=>?_⟩
 obtain⟨L,a,T⟩:=h.read enc W k cs d ps I
 exact⟨L,g a,by rw[<-D];exact T⟩
structure OpensF(P:Program)(fs:List Field)(off:Nat){α:Type}(e:α->List AV)(n:Nat):Prop where
 len:∀ a,(e a).length=n
 read:∀{H:Type}(enc:TypeId×Value->H)(W:World)(fuel:Nat)(cs:List Value),(∀(i:Nat)(f:Field),fs[i]?=some f->∃ d ps,DataW.trod enc P W 0 (fun _=>true) true fuel f.type ((cs.drop f.offset).take (P.cellsOf f.type))=some (d,ps)) ->
  ∃ a,RepCs (fun k=>k<W.heap.size) W (e a) (fun j=>cs[j]?) off
def BW{P:Program}{off:Nat}:OpensF P [] off (α:=Unit) (fun _=>[]) 0:=⟨fun _=>rfl,fun _ _ _ _ _=>⟨(),by simp[RepCs]⟩⟩
def A0{P:Program}{f:Field}{fs:List Field}{off:Nat}{α β:Type}{e:α->LA}{n:Nat}{e':β->LA}{m:Nat}(ho:f.offset=off)(D:Opens P f.type e n)(T:OpensF P fs (off+n) e' m):
  OpensF P (f::fs) off (α:=α×β) (fun p=>e p.1++e' p.2) (n+m):=by
 refine⟨fun p=>by rw[A3d,D.len,T.len],fun enc W k cs h=>?_⟩
 obtain⟨d,ps,hd⟩:=h 0 f rfl
 obtain⟨hl,a,Y⟩:=D.read enc W k _ _ _ hd
 obtain⟨b,hb⟩:=T.read enc W k cs fun i g hg=>h (i+1) g (by simpa using hg)
 refine⟨(a,b),?_⟩
 rw[Cm]at Y hb ⊢
 intro j x L
 by_cases I:j<n
 ·rw[A42 (by rw[D.len];exact I)]at L
  obtain⟨u,G,hr⟩:=Y j x L
  refine⟨u,?_,hr⟩
  simp only[A22]at G
  rw[D.size,A6w I,A3z,ho]at G
  exact G
 ·rw[A5e (by rw[D.len];omega),D.len]at L
  obtain⟨u,G,hr⟩:=hb (j - n) x L
  refine⟨u,?_,hr⟩
  rw[show off+n+(j - n)=off+j by omega]at G
  exact G
def Sn{P:Program}{t:TypeId}{fs:Array Field}{α:Type}{e:α->LA}{n:Nat}(L:P.underlying t=some (.struct fs))(hc:P.cellsOf t=n)(T:0<n)(h:OpensF P fs.toList 0 e n):Opens P t e n:=by
 refine⟨hc,T,h.len,fun enc W G cs d ps Y=>?_⟩
 obtain⟨xs,g,_,_,hl,k,hf⟩:=DataW.trod_struct L Y
 refine⟨by rw[hl,hc],?_⟩
 exact h.read enc W g cs fun i f hi=>by
  have I:fs[i]?=some f:=by simpa using hi
  have:=hf i f I
  have D:i<xs.length:=by
   rw[k];exact(A4o.1 I).1
  rw[A2r D]at this
  exact⟨_,_,this⟩
end Gx
namespace Gx
open Go Go.RowKit
section
variable{P:Program}{W:World}{H:Type}{enc:TypeId×Value->H}{β:Cr}{h:Ap}
def YI{t:TypeId}{fs:Array Field}{k:Nat}{r:Reach}{v:Value}(D:P.underlying t=some (.struct fs))(h:Value.okWide P W r k t v):∃ cs,v=.agg cs:=by
 unfold Value.okWide at h
 rw[D]at h
 obtain⟨cs,h,_⟩:=h
 exact⟨cs,h⟩
def Asp{J:Nat->Prop}:∀{x:AV}{u:Value},RepC J W x u->Rep (fun _=>J) β h W x u
|.int ..,_,h=>by rw[Rep];rw[RepC]at h;exact h
|.bool _,_,h=>by rw[Rep];rw[RepC]at h;exact h
|.str _,_,h=>by rw[Rep];rw[RepC]at h;exact h
|.nsl,_,h=>by rw[Rep];rw[RepC]at h;exact h
|.imm ..,_,h=>by rw[Rep];exact h
|.iptr ..,_,h=>by rw[Rep];exact h
|.nilptr,_,h=>by rw[Rep];rw[RepC]at h;exact h
|.nilfn,_,h=>by rw[Rep];rw[RepC]at h;exact h
|.fn f [],_,h=>by
  rw[Rep];rw[RepC]at h
  exact⟨[],by simpa using h,by rw[Reps]⟩
|.fn _ (_::_),_,h=>by simp[RepC]at h
|.pagg ..,_,h=>by simp[RepC]at h
|.agg _,_,h=>by simp[RepC]at h
|.tup _,_,h=>by simp[RepC]at h
|.own ..,_,h=>by simp[RepC]at h
|.omap _,_,h=>by simp[RepC]at h
|.optr ..,_,h=>by simp[RepC]at h
|.undef,_,h=>by simp[RepC]at h
def Alm{J:Nat->Prop}:∀{c:LA}{cs:List Value}{rd:Nat->Option Value}{i:Nat},cs.length=c.length->(∀ j,cs[j]?=rd (i+j))->RepCs J W c rd i->Reps (fun _=>J) β h W c cs
|[],cs,_,_,k,_,_=>by rw[Reps];simpa using k
|x::r,[],_,_,k,_,_=>by simp at k
|x::r,u::us,rd,i,k,hr,hc=>by
  rw[RepCs]at hc
  obtain⟨⟨L,D,I⟩,hc⟩:=hc
  have G:=hr 0
  simp only[List.getElem?_cons_zero,A30]at G
  rw[<-G]at D
  cases D
  rw[Reps]
  refine⟨u,us,rfl,Asp I,Alm (by simpa using k) (fun j=>?_) hc⟩
  have:=hr (j+1)
  rw[List.getElem?_cons_succ]at this
  rw[this];congr 1;omega
def Aln{c:LA}{v:Value}(hr:Rep (fun _ k=>k<W.heap.size) β h W (.pagg c false) v):Rep (fun _ k=>k<W.heap.size) β h W (.agg c) v:=by
 rw[Rep]at hr
 obtain⟨cs,D,G,hc⟩:=hr
 rw[Rep]
 exact⟨cs,D,Alm G (fun j=>by rw[A22]) hc⟩
end
end Gx
namespace Gx
open Go Go.Proofs Go.RowKit
def Ay8{W:World}:GlobOk (fun _ k=>k<W.heap.size) W:=⟨(fun _ D=>by cases D),(fun _ G=>by cases G)⟩
def Agy{p:Int->Prop}:∀ m:List {n:Int // p n},m.flatMap (fun n=>[AV.int .i64 n.1])=Am (m.map (·.1))
|[]=>rfl
|a::r=>by rw[A3r,Agy r];rfl
def Asq{n:Int}(h:(Lit.int .u32 n).wf=true):0<=n/\n<4294967296:=by simp only[Lit.wf,A2y,decide_eq_true_eq,show IntKind.u32.min=0 from rfl,show IntKind.u32.max=4294967295 from rfl]at h;omega
section
variable{W:World}{H:Type}{enc:TypeId×Value->H}{β:Cr}{h:Ap}
def Ajq:Opens Tryz.prog 129 (α:={n:Nat // n<4294967296}) (fun n=>[.int .u32 (n.1:Int)]) 1:=(iK Tryz.underlying129 (by kernel_rfl)).map _ (fun n=>⟨n.1.toNat,by have:=Asq n.2;omega⟩) (fun n=>by have:=Asq n.2;simp;omega) (fun _=>rfl)
def yg:∀ l:List {n:Nat // n<4294967296},l.flatMap (fun n=>[AV.int .u32 (n.1:Int)])=Ad (l.map (·.1))
|[]=>rfl
|a::r=>by rw[A3r,yg r];rfl
def oE:Opens Tryz.prog 32 (α:={l:List Nat // Af l}) (fun l=>[.imm (Ad l.1) l.1.length 1 false false]) 1:=(Qf Tryz.underlying32 (by kernel_rfl) Ajq).map _ (fun l=>⟨l.1.map (·.1),fun x k=>by obtain⟨y,_,rfl⟩:=A3w.1 k;exact y.2⟩) (fun l=>by show [AV.imm (l.1.flatMap fun n=>[AV.int .u32 (n.1:Int)]) l.1.length 1 false false]=[AV.imm (Ad (l.1.map (·.1))) (l.1.map (·.1)).length 1 false false];rw[yg,A4y]) (fun _=>rfl)
def yh:Opens Tryz.prog 36 (α:={x:RatD // x.ok}) (fun x=>x.1.av) 3 :=
 (Sn Tryz.underlying36 (by kernel_rfl) (by decide) (A0 rfl (Sn Tryz.underlying34 (by kernel_rfl) (by decide) (A0 rfl (Ahr Tryz.underlying4 (by kernel_rfl)) (A0 rfl oE BW)))
  (A0 rfl oE BW))).map _ (fun p=>⟨⟨p.1.1,.of p.1.2.1.1 false false,.of p.2.1.1 false false⟩,p.1.2.1.2,p.2.1.2⟩) (fun _=>rfl) (fun _=>rfl)
end
end Gx
namespace Gx
open Go Go.Proofs Go.RowKit
section
variable{W:World}{H:Type}{enc:TypeId×Value->H}{β:Cr}{h:Ap}
def Et:Opens Tryz.prog 3 Am3 1:=(iK Tryz.underlying3 (by kernel_rfl)).map Am3 (fun n=>n.1) (fun _=>rfl) (fun _=>rfl)
def Aon:Opens Tryz.prog 71 SegD.av 2:=(Sn Tryz.underlying71 (by kernel_rfl) (by decide) (A0 rfl Et (A0 rfl Et BW))).map SegD.av (fun p=>⟨p.1,p.2.1⟩) (fun _=>rfl) (fun _=>rfl)
def Aoo{v:Value}{d:DataW H}{p:List MemPlace}(D:∃ cs,v=.agg cs)(G:DataW.Trod enc Tryz.prog W 0 (fun _=>true) true 26 v d p):
  ∃(a:Lu)(b d e:Int)(sg:List SegD)(g i j l m t u w n o x p q:Int)(aw:List Int)(z aa r:Int),Rep (fun _ k=>k<W.heap.size) β h W (.agg [AV.str a,.int .i64 b,.int .i64 d,.int .i64 e,.imm (sg.flatMap SegD.av) sg.length 2 false false,.int .i64 g,.int .i64 i,.int .i64 j,.int .i64 l,.int .i64 m,.int .i64 t,.int .i64 u,.int .i64 w,.int .i64 n,.int .i64 o,.int .i64 x,.int .i64 p,.int .i64 q,.imm (Am aw) aw.length 1 false false,.int .i64 z,.int .i64 aa,.int .i64 r]) v:=by
 obtain⟨cs,rfl⟩:=D
 obtain⟨⟨⟨a,_⟩,b,d,e,⟨sg,_⟩,g,i,j,l,m,t,u,w,n,o,x,p,q,⟨aw,_⟩,z,aa,r,_⟩,hr⟩:=Ad0 (β:=β) (h:=h) (Sn (P:=Tryz.prog) Tryz.underlying26 (by kernel_rfl) (by decide)
   (A0 rfl (Ab2 Tryz.underlying9 (by kernel_rfl)) (A0 rfl Et (A0 rfl Et (A0 rfl Et
   (A0 rfl (Qf Tryz.underlying24 (by kernel_rfl) Aon)
   (A0 rfl Et (A0 rfl Et (A0 rfl Et (A0 rfl Et (A0 rfl Et (A0 rfl Et (A0 rfl Et (A0 rfl Et (A0 rfl Et (A0 rfl Et (A0 rfl Et (A0 rfl Et (A0 rfl Et
   (A0 rfl (Qf Tryz.underlying22 (by kernel_rfl) Et)
   (A0 rfl Et (A0 rfl Et (A0 rfl Et BW))))))))))))))))))))))) G
 refine⟨a,b,d,e,sg,g,i,j,l,m,t,u,w,n,o,x,p,q,aw,z,aa,r,?_⟩
 rw[<-Ny]
 exact Aln hr
def kZ:∀ l:List {x:RatD // x.ok},l.flatMap (fun x=>x.1.av)=(l.map (·.1)).flatMap RatD.av
|[]=>rfl
|a::r=>by rw[A3r,kZ r];rfl
def Alo(l:List {x:RatD // x.ok}):∀ x∈l.map (·.1),x.ok:=fun x k=>by obtain⟨y,_,rfl⟩:=A3w.1 k;exact y.2
def vA:Opens Tryz.prog 29 (α:={l:List RatD // ∀ x∈l,x.ok}) (fun l=>[.imm (l.1.flatMap RatD.av) l.1.length 3 false false]) 1:=(Qf Tryz.underlying29 (by kernel_rfl) yh).map _ (fun l=>⟨l.1.map (·.1),Alo l.1⟩) (fun l=>by show [AV.imm (l.1.flatMap fun x=>x.1.av) l.1.length 3 false false]=[AV.imm ((l.1.map (·.1)).flatMap RatD.av) (l.1.map (·.1)).length 3 false false];rw[kZ,A4y]) (fun _=>rfl)
def yi{a:Option Addr}{len cap:Nat}{d:DataW H}{p:List MemPlace}(D:DataW.Trod enc Tryz.prog W 0 (fun _=>true) true 29 (.slice a len cap) d p):
  ∃ l:List RatD,(∀ x∈l,x.ok)/\Rep (fun _ k=>k<W.heap.size) β h W (.imm (l.flatMap RatD.av) l.length 3 false false) (.slice a len cap):=by
 obtain⟨l,_,hr⟩:=Akj (β:=β) (h:=h) Tryz.underlying29 (by kernel_rfl) yh D
 refine⟨l.map (·.1),Alo l,?_⟩
 rw[<-kZ,A4y];exact hr
def Aop{v:Value}{d:DataW H}{p:List MemPlace}(D:∃ cs,v=.agg cs)(G:DataW.Trod enc Tryz.prog W 0 (fun _=>true) true 42 v d p):
  ∃(ks:List Int)(en re:List RatD),(∀ x∈en,x.ok)/\(∀ x∈re,x.ok)/\Rep (fun _ k=>k<W.heap.size) β h W (.agg [.imm (Am ks) ks.length 1 false false,.imm (en.flatMap RatD.av) en.length 3 false false,.imm (re.flatMap RatD.av) re.length 3 false false]) v:=by
 obtain⟨cs,rfl⟩:=D
 obtain⟨⟨⟨ks,_⟩,⟨en,I⟩,⟨re,L⟩,_⟩,hr⟩:=Ad0 (β:=β) (h:=h) (Sn Tryz.underlying42 (by kernel_rfl) (by decide) (A0 rfl (Qf Tryz.underlying22 (by kernel_rfl) Et) (A0 rfl vA (A0 rfl vA BW)))) G
 refine⟨ks,en,re,I,L,?_⟩
 rw[<-Ny]
 exact Aln hr
end
end Gx
namespace Gx
open Go
def am{a b:Bool}(k:a=true)(D:b=true):(a&&b)=true:=by rw[k,D];rfl
def Aw8{P:Program}(h2:laidOutB P=true)(h3:mapsRowed P=true)(h7:(P.stops==[])=true)(h9:(P.stopKnobs==[])=true)(D:P.stopsHeard=true)(G:P.mayEnter=true){f:FuncId}{fn:Func}{s:ChangeSpec}{c:OpenClaim}(I:(c.inPlace==P.inPlace f)=true)(L:(c.unfollowed==P.unfollowed f)=true)(T:(c.recurses==P.recurses f)=true)(Y:(c.named==P.varsNamed f)=true)
  (h27:(c.lifted==P.liftsFinal)=true) (h28:(P.make==some c.make)=true) (h23:(c.plainKeys==P.plainKeys)=true)
  (h1:c.wf (OpenSpec.ofChange s)=true) (h4:fn.params.all (P.readableRec ·)=true) (h5:namedTie P c.named s.vars=true) (h6:(c.stops==[])=true) (h8:(c.knobs==[])=true)
  (h14:(c.maps==(fn.params.toList++s.plain.varTypes P).any (P.mapsRec ·))=true) (h15:(c.ifaces==(fn.params.toList++s.plain.varTypes P).any (P.ifacesRec ·))=true) (h16:(c.mapsOut==P.mapsAmong fn.resultTypes.toList)=true)
  (h17:(c.loops==(fn.params.toList++s.plain.varTypes P).any (P.loopsFrom ·))=true) (h18:(c.wideKeys==(fn.params.toList++s.plain.varTypes P++fn.resultTypes.toList).any (P.wideKeysFrom ·))=true)
  (h19:s.vars.all (P.varReadable ·)=true) (h20:fn.resultTypes.all (fun t=>P.readableRec t&&decide (t<P.types.size))=true) (h21:(c.ifacesOut==fn.resultTypes.toList.any (P.ifacesRec ·))=true) (h22:(c.loopsOut==fn.resultTypes.toList.any (P.loopsFrom ·))=true)
  (h24:c.shortTexts.isNone=true) (h29:(c.kinds==(if c.domain.isEmpty then []else fn.params.toList.map fun t=>match P.underlying t with|some (.int k)=>some k|_=>none))=true) (h30:(c.pinned==c.pinnedBy)=true)
  (h31:(c.veiled==(fn.params.toList++s.plain.varTypes P++fn.resultTypes.toList).any (P.veiledRec ·))=true) (h32:c.veiledFits P fn.params.toList (fn.params.toList++s.plain.varTypes P++fn.resultTypes.toList)=true):joinedFacts P f fn s c=true:=by
 unfold joinedFacts
 exact am (am (am (am (am (am (am (am (am (am (am (am (am (am (am (am (am (am (am (am (am (am (am (am (am (am (am (am (am (am (am h1 h2) h3) h4) h5) h6) h7) h8) h9) I) L) T) Y) h14) h15) h16) h17) h18) h19) h20) h21) h22) h23) h24) D) G) h27) h28) h29) h30) h31) h32
end Gx
