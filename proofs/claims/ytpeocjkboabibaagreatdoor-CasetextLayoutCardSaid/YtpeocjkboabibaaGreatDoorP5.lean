/- A part of the proof; each theorem says what it holds. -/
import Derived.Test.YtpeocjkboabibaaGreatDoorRows
import Derived.ChangeSame
import Derived.Test.YtpeocjkboabibaaGreatDoorP4
set_option linter.unusedVariables false
set_option linter.defProp false
set_option linter.unusedSimpArgs false
open Nat (ble beq)
open List (take drop replicate)
open Go.IntKind (wrap)
namespace Gx.Ct
open Go Go.Proofs Gx.Cf
theorem Aia {z:Int} (h:BS z=false):Ai z:=by
 unfold BS at h;simp only[A2y,decide_eq_false_iff_not] at h;unfold Ai;omega
theorem qi {f:FracD} (h:H2 f=false):I5 f:=by
 unfold H2 at h;simp only[A2y,decide_eq_false_iff_not] at h
 have:=Aia h.1;unfold I5 Ai at *;omega
theorem LY {α:Type} {p:α→Bool} {l:List α} (h:l.any p=false):∀ x ∈ l,p x=false:=fun x hx=>by
 rw[A3w] at h;simpa using h x hx
theorem Z1 {l:List Int} (h:A3 l=false):∀ z ∈ l,Ai z:=fun z d=>Aia (LY h z d)
theorem Ae5:∀ r:List Aq,(∀ w ∈ r,w≠[])→2*r.length≤(r.flatMap (32::·)).length
 | [],_=>by simp
 | w::r,h=>by
  have:=Ae5 r fun x hx=>h x (by simp[hx])
  have d:w.length≠0:=fun e=>h w (by simp) (A3m.1 e)
  rw[A10,A09,A1a,A1a];omega
theorem Aqn {ws:List Aq} (h:Agg ws):2*ws.length≤(Dq ws).length:=by
 obtain⟨w,r,rfl,d,f⟩:=h
 have:=Ae5 r fun x hx=>(f x hx).1
 have k:w.length≠0:=fun e=>d.1 (A3m.1 e)
 rw[Dq,Ho,A09,A09,A1a,A2d];omega
theorem Asq {W:List (List Aq)} {ws:List Aq} (h:ws ∈ W):(Dq ws).length≤(W.flatMap Dq).length:=by
 obtain⟨a,b,rfl⟩:=A6d h
 rw[A2n,A10,A09,A09];omega
theorem Aqo {s:Aq} (h:Ba s=true):s≠B5:=fun e=>by
 rw[e] at h;revert h;decide
structure Acc (c:CaseD):Prop where
 i:CaseI 20000000000000 c
 n:N9 c=true
 h:1≤c.hours∧c.hours≤24
 s:IR c=true
 nm:∀ l ∈ By c,(∀ s ∈ l,Ba s=true)∧l.Nodup
 k:Qj c=true
 m:I9 c=true
 b:Rh c=false
 l:(Ww c).length≤1048576
theorem Au9 {c:CaseD} (h:Acc c):T' c=0:=by
 have t:Xy c=0:=by
  unfold Xy
  rw[if_pos (by simp only[A1u];exact fun l d=>(h.nm l d).1),if_neg]
  rw[Bool.not_eq_true,A3w]
  intro l d
  have key:∀ (r seen:List Aq),r.Nodup→(∀ w ∈ r,w ∉ seen)→IS seen r=false:=by
   intro r
   induction r with
   | nil=>intro _ _ _;rfl
   | cons w r u =>
    intro seen hn hs
    rw[A2m] at hn
    rw[IS,u (seen++[w]) hn.2 fun x hx f=>by
     rcases A1k.1 f with q | q
     ·exact hs x (by simp[hx]) q
     ·rw[A2s.1 q] at hx;exact hn.1 hx]
    have:=hs w (by simp)
    simpa using this
  rw[key l [] (h.nm l d).2 fun _ _ f=>by cases f];decide
 have:=h.h
 unfold T'
 rw[if_neg (by rw[h.n];decide),if_neg (by omega),if_neg (by rw[h.s];decide),if_neg (by rw[t];decide),if_neg (by rw[h.k];decide),if_neg (by rw[h.m];decide),if_neg (by rw[h.b];decide),if_neg (by have:=h.l;omega)]
theorem YZ {i:Int} {n:Nat} (h:Lk i n=true):0≤i∧i<(n:Int):=by
 unfold Lk at h;simpa using h
theorem Aqp {c:CaseD} (a:Acc c):GoodC c:=by
 have x:=a.k;have hs:=a.s;have hn:=a.n;have y:=a.b;have f:=a.m
 unfold Qj at x;unfold IR at hs;unfold N9 at hn;unfold Rh at y;unfold I9 at f
 simp only[A1f,A1u,decide_eq_true_eq,A2y] at x hs hn y
 rw[A1u] at f
 obtain⟨U,k2,k3,k4,V⟩:=x
 obtain⟨s1,s2,s3⟩:=hs
 obtain⟨n1,n2,n3,n4,n5,n6⟩:=hn
 obtain⟨b0,b1,b2,b3,b4,b5,b6,b7⟩:=y
 have hN:∀ l ∈ By c,(∀ s ∈ l,Ba s=true)∧l.Nodup:=a.nm
 have pB:=hN (Cq c) (by simp[By])
 have pL:=hN (F4 c) (by simp[By])
 have pU:=hN (Ei c) (by simp[By])
 have pS:=hN (fM c) (by simp[By])
 have pT:=hN (Age c) (by simp[By])
 have pO:=hN (Agf c) (by simp[By])
 have sh:∀ {l:Sl Int},P' c l=true→A3 l.l=false→eY c l:=fun A X=>⟨by unfold P' at A;simpa using A,Z1 X⟩
 have len:∀ ws ∈ Vg c,ws.length≤524288:=fun ws Y=>by
  have A:=Aqn ((Passed.mk a.i Ap1 (fun l hl=>(hN l hl).1) a.k).lines ws Y)
  have X:=Asq Y
  have h3:=a.l
  unfold Ww at h3
  omega
 refine⟨a.h,sh s1 b1,⟨pB.2,n1⟩,⟨pL.2,n2,fun h=>Aqo (pL.1 _ h) rfl⟩,⟨pU.2,n3⟩,⟨pS.2,n4⟩,⟨pT.2,n5⟩,⟨pO.2,n6⟩,fun b h=>?_,fun l h=>?_,fun u h=>?_,fun u h=>?_,fun t h=>?_,fun o h=>?_⟩
 ·have q:=LY b2 b h
  unfold fO at q
  rw[A2y] at q
  exact⟨pB.1 _ (A2g h),sh (s2 b h) q.1,Aia q.2⟩
 ·have q:=LY b3 l h
  unfold IQ at q
  simp only[A2y] at q
  obtain⟨d,C,D,F,G⟩:=q
  have v:=Z1 F
  refine⟨pL.1 _ (A2g h),YZ (U l h).1,YZ (U l h).2,⟨qi d,qi C,qi D⟩,v _ (by simp),v _ (by simp),Z1 G,?_⟩
  have:=len (Uk (Cq c) l) (by unfold Vg;simp only[A1j,A1k];exact .inr (.inr (.inl (A2g h))))
  omega
 ·have q:=LY b4 u h
  unfold Y9 at q
  simp only[A2y] at q
  obtain⟨d,C,D,F,G⟩:=q
  have I:=Z1 d;have M:=Z1 D;have S:=Z1 G
  have ln:=len (Qh (Cq c) u) (by unfold Vg;simp only[A1j,A1k];exact .inr (.inr (.inr (.inl (A2g h)))))
  have sl:u.segs.l.length≤(Qh (Cq c) u).length:=by
   have e:(u.segs.l.flatMap fN).length=u.segs.l.length*2:=by
    induction u.segs.l with
    | nil=>rfl
    | cons a r T=>rw[A10,A09,T,A1a];show 2+_=_;omega
   unfold Qh;simp only[A09,e];omega
  refine⟨pU.1 _ (A2g h),YZ (k2 u h).1,fun z hz=>?_,Z1 F,?_,fun g hg=>?_,by omega,by omega⟩
  ·rcases A1k.1 (show z ∈ [u.min,u.max]++([u.noLoad,u.rampUp,u.rampDown,u.startRamp,u.stopRamp,u.upTime,u.downTime,u.startTime,u.hotCost,u.coldCost,u.hotHours,u.reserve,u.reservePrice]++[u.hours,u.output]) from hz) with q | q
   ·exact I z q
   ·rcases A1k.1 q with q | q
    ·exact M z q
    ·exact S z q
  ·have:=YZ (k2 u h).2;omega
  ·have:=Z1 (LY C g hg)
   exact⟨this _ (by simp),this _ (by simp)⟩
 ·have q:=LY b5 u h
  unfold Sr at q
  rw[A2y] at q
  have d:=Z1 q.1
  have ln:=len (Ku (Cq c) u) (by unfold Vg;simp only[A1j,A1k];exact .inr (.inr (.inr (.inr (.inl (A2g h))))))
  exact⟨pS.1 _ (A2g h),YZ (k3 u h),d _ (by simp),d _ (by simp),d _ (by simp),d _ (by simp),d _ (by simp),qi q.2,by omega⟩
 ·have q:=LY b6 t h
  unfold FP at q
  simp only[A2y] at q
  have ln:=len (HY (Cq c) t) (by unfold Vg;simp only[A1j,A1k];exact .inr (.inr (.inr (.inr (.inr (.inl (A2g h)))))))
  have s:=s3 t h
  exact⟨pT.1 _ (A2g h),YZ (k4 t h),sh s.1 q.1,sh s.2.1 q.2.1,sh s.2.2 q.2.2,by omega⟩
 ·have q:=LY b7 o h
  unfold Qi at q
  have ln:=len (Xx (F4 c) (Ei c) o) (by unfold Vg;simp only[A1j,A1k];exact .inr (.inr (.inr (.inr (.inr (.inr (A2g h)))))))
  have ml:o.moves.l.length≤(Xx (F4 c) (Ei c) o).length∧o.lines.l.length≤(Xx (F4 c) (Ei c) o).length:=by
   have e:(o.moves.l.flatMap (AD (Ei c))).length=o.moves.l.length*3:=by
    induction o.moves.l with
    | nil=>rfl
    | cons a r T=>rw[A10,A09,T,A1a];show 3+_=_;omega
   unfold Xx;simp only[A09,e,A1i];omega
  refine⟨pO.1 _ (A2g h),f o h,fun m f=>?_,by omega,fun i hi=>YZ ((V o h).1 i hi),by omega,by omega⟩
  have:=Z1 (LY q m f)
  exact⟨YZ ((V o h).2 m f),this _ (by simp),this _ (by simp)⟩
end Gx.Ct
namespace Gx.Ct
open Go Go.Proofs Gx.Cf
theorem Aar {c:UInt8} (h:45≤c.toNat∧c.toNat≤122):qY c=false∧c≠10∧c≠35∧c.toNat<128:=by
 have ne:∀ k:UInt8,k.toNat<45→c≠k:=fun k d e=>by rw[e] at h;omega
 refine⟨?_,ne 10 (by decide),ne 35 (by decide),by omega⟩
 unfold qY
 rw[beq_eq_false_iff_ne.2 (ne 32 (by decide)),beq_eq_false_iff_ne.2 (ne 9 (by decide)),beq_eq_false_iff_ne.2 (ne 13 (by decide))];rfl
def wIn (w:Aq):Prop:=w≠[]∧∀ c ∈ w,45≤c.toNat∧c.toNat≤122
theorem wIn.ok {w:Aq} (h:wIn w):A0l w:=⟨h.1,fun c d=>Aar (h.2 c d)⟩
theorem Ava (n:Nat):wIn (dec n):=⟨gF n,fun c d=>by
 have:=A1u.1 (OH n) c d
 unfold De at this
 simp only[A1f,decide_eq_true_eq] at this
 omega⟩
theorem wIn.cons {c:UInt8} {w:Aq} (h:45≤c.toNat∧c.toNat≤122) (d:∀ c ∈ w,45≤c.toNat∧c.toNat≤122):wIn (c::w):=⟨by simp,fun x hx=>by
 rcases A1j.1 hx with rfl | hx
 ·exact h
 ·exact d x hx⟩
theorem Aqq (z:Int):wIn (tx z):=by
 rw[Wn];unfold uJ Aeq
 have d:=Ava z.natAbs
 split
 ·exact .cons (by decide) d.2
 ·exact d
theorem Asr (f:FracD):wIn (Lj f):=by
 have k:=Aqq f.num
 have l:=Aqq f.den
 refine⟨by unfold Lj;simp,fun c d=>?_⟩
 unfold Lj at d
 rcases A1k.1 d with h | h
 ·exact k.2 c h
 ·rcases A1j.1 h with rfl | h
  ·decide
  ·exact l.2 c h
theorem Axw {w:Aq} (h:Avh w=true):wIn w:=by
 unfold Avh at h
 simp only[A1f,decide_eq_true_eq,A1u] at h
 refine⟨h.1,fun c d=>?_⟩
 have:=h.2.2 c d
 unfold PZ at this
 simp only[A1f,decide_eq_true_eq] at this
 omega
theorem Ass {s:Aq} (h:Ba s=true):wIn s:=by
 unfold Ba at h
 simp only[A1f,decide_eq_true_eq,A1u] at h
 obtain⟨d,_,_,_,f⟩:=h
 refine⟨fun e=>by rw[e] at d;simp at d,fun c k=>?_⟩
 have:=f c k
 unfold Ak0 PZ at this
 simp only[A1f,A4x,decide_eq_true_eq] at this
 omega
theorem Aqr {c:CaseD} (a:Acc c):∀ ws ∈ Vg c,ws≠[]∧∀ x ∈ ws,wIn x :=
 sH a.i (fun z _=>Aqq z) (fun f _ _=>Asr f) (fun _ h=>Axw h) (fun l d s hs=>Ass ((a.nm l d).1 s hs)) a.k
section
variable {R:Type} {N:Nat}
theorem Aib (hN:1000000000<N):Oj N R [] []:=jv (s:=[]) (fun _ h=>by cases h) (by decide) hN
end
end Gx.Ct
namespace Gx.Ct
open Go Go.Proofs Gx.Cf
theorem Axx {c:UInt8} (h:45≤c.toNat∧c.toNat≤122) (r:Lu) (ws:List Aq) (w:Aq):Fy (c::r) ws w false=Fy r ws (w++[c]) false:=by
 obtain⟨d,f,k,_⟩:=Aar h
 have l:wy c=false:=by
  unfold qY at d
  unfold wy
  rw[beq_eq_false_iff_ne.2 f,beq_eq_false_iff_ne.2 k,d];rfl
 rw[Fy,if_neg f,if_neg k,if_neg (by rw[l];decide)];rfl
theorem Aas:∀ (x:Aq) (r:Lu) (ws:List Aq) (w:Aq),(∀ c ∈ x,45≤c.toNat∧c.toNat≤122)→Fy (x++r) ws w false=Fy r ws (w++x) false
 | [],r,ws,w,_=>by rw[A11,A1p]
 | c::x,r,ws,w,h=>by
  rw[A1o,Axx (h c (by simp)),Aas x r ws (w++[c]) fun y d=>h y (by simp[d]),A1l];rfl
theorem Aj3:∀ (l:List Aq) (w:Aq) (ws:List Aq) (r:Lu),w≠[]→(∀ x ∈ l,wIn x)→Fy (l.flatMap (32::·)++10::r) ws w false=(ws++w::l)::Fy r [] [] false
 | [],w,ws,r,d,_=>by
  rw[A4a,A11,Fy,if_pos rfl];unfold lO;rw[if_neg d]
 | x::l,w,ws,r,d,h=>by
  have hx:=h x (by simp)
  rw[A10,A1l,A1o,Fy,if_neg (by decide),if_neg (by decide),if_pos (by decide),Aas x _ _ _ hx.2,A11,Aj3 l x _ r hx.1 fun y f=>h y (by simp[f])]
  unfold lO;rw[if_neg d];simp
theorem Ast {ws:List Aq} (f:ws≠[]) (h:∀ x ∈ ws,wIn x) (r:Lu):Fy (Dq ws++r) [] [] false=ws::Fy r [] [] false:=by
 cases ws with
 | nil=>exact absurd rfl f
 | cons w l =>
  have d:=h w (by simp)
  rw[Dq,Ho,A1l,A1l,Aas w _ _ _ d.2,A11]
  exact Aj3 l w [] r d.1 fun y k=>h y (by simp[k])
theorem uQ:∀ W:List (List Aq),(∀ ws ∈ W,ws≠[]∧∀ x ∈ ws,wIn x)→H3 (W.flatMap Dq)=W++[[]]
 | [],_=>rfl
 | ws::W,h=>by
  have d:=uQ W fun x hx=>h x (by simp[hx])
  obtain⟨f,k⟩:=h ws (by simp)
  unfold H3 at d ⊢
  rw[A10,Ast f k,d];rfl
def TV (n:Nat):Lu:=[[32],[9],[32,32],[32,13,32]].getD (n%4) []
def eZ (n:Nat):Lu:=[[10],[32,35,32,120,10],[10,10,32,32,10],[35,10]].getD (n%4) []
def uZ (seps:Lu) (i:Nat):Nat:=(seps.getD i 0).toNat
def UR (seps:Lu):Nat→List Aq→Lu
 | _,[]=>[]
 | i,w::l=>w++(TV (uZ seps i)++UR seps (i+1) l)
def jw (seps:Lu) (i:Nat) (l:List Aq):Lu:=UR seps i l++eZ (uZ seps (i+l.length))
def jx (seps:Lu):Nat→List (List Aq)→Lu
 | _,[]=>[]
 | i,l::L=>jw seps i l++jx seps (i+l.length) L
theorem Aat (n:Nat):n%4=0∨n%4=1∨n%4=2∨n%4=3:=by omega
theorem Aic (n:Nat):TV n≠[]∧∀ c ∈ TV n,qY c=true∧c≠10∧c≠35∧c.toNat<128:=by
 unfold TV
 rcases Aat n with h | h | h | h<;>rw[h]<;>exact⟨by decide,by decide⟩
theorem Aj4 (n:Nat):(TV n).length≤3:=by
 unfold TV
 rcases Aat n with h | h | h | h<;>rw[h]<;>decide
theorem Aj5 (n:Nat):(eZ n).length≤5:=by
 unfold eZ
 rcases Aat n with h | h | h | h<;>rw[h]<;>decide
theorem Aj6 {seps:Lu}:∀ (l:List Aq) (i:Nat),(∀ x ∈ l,wIn x)→∀ c ∈ UR seps i l,c≠10∧c≠35∧c.toNat<128
 | [],_,_=>fun c d=>by cases d
 | w::l,i,h=>fun c d=>by
  rw[UR] at d
  rcases A1k.1 d with q | q
  ·exact(Aar ((h w (by simp)).2 c q)).2
  ·rcases A1k.1 q with q | q
   ·exact((Aic _).2 c q).2
   ·exact Aj6 l (i+1) (fun x hx=>h x (by simp[hx])) c q
theorem Aj7 {seps:Lu} {t:Lu} (d:fw t []=[]):∀ (l:List Aq) (i:Nat),(∀ x ∈ l,wIn x)→fw (UR seps i l++t) []=l
 | [],_,_=>by rw[UR,A11,d]
 | w::l,i,h=>by
  rw[UR,A1l,A1l,Asm (h w (by simp)).ok (Aic _).1 fun c f=>((Aic _).2 c f).1,Aj7 d l (i+1) fun x hx=>h x (by simp[hx])]
section
variable {R:Type} {N:Nat}
theorem uR {seps:Lu} {l:List Aq} {i:Nat} {t:Lu} (hN:1000000000<N) (k:∀ x ∈ l,wIn x) (u:fw (Ah5 t) []=[]) (n:∀ c ∈ t,c≠10∧c.toNat<128) (v:(UR seps i l++t).length≤1048576):(10:UInt8) ∉ UR seps i l++t∧Oj N R (UR seps i l++t) l:=by
 have f:=Aj6 (seps:=seps) l i k
 refine⟨fun d=>?_,?_⟩
 ·rcases A1k.1 d with q | q
  ·exact(f 10 q).1 rfl
  ·exact(n 10 q).1 rfl
 ·have:=jv (R:=R) (N:=N) (s:=UR seps i l++t) (fun c d=>by
   rcases A1k.1 d with q | q
   ·exact(f c q).2.2
   ·exact(n c q).2) v hN
  rw[Ajz _ _ fun c d=>(f c d).2.1,Aj7 u l i k] at this
  exact this
def mX (n:Nat):Lu×List Lu:=[([],[]),([32,35,32,120],[]),([],[[],[32,32]]),([35],[])].getD (n%4) ([],[])
theorem Asu (n:Nat) (g r:Lu):g++eZ n++r=txt ((g++(mX n).1)::(mX n).2) []++r:=by
 unfold eZ mX
 rcases Aat n with h | h | h | h<;>rw[h]<;>simp[txt]
theorem Aqs (n:Nat):fw (Ah5 (mX n).1) []=[]∧(∀ c ∈ (mX n).1,c≠10∧c.toNat<128)∧∀ l ∈ (mX n).2,(10:UInt8) ∉ l∧fw (Ah5 l) []=[]∧(∀ c ∈ l,c.toNat<128)∧l.length≤2:=by
 unfold mX
 rcases Aat n with h | h | h | h<;>rw[h]<;>decide
def Aqt (seps:Lu):Nat→List (List Aq)→List Lu
 | _,[]=>[]
 | i,l::L=>(UR seps i l++(mX (uZ seps (i+l.length))).1)::(mX (uZ seps (i+l.length))).2++Aqt seps (i+l.length) L
theorem Aj8 {seps:Lu}:∀ (L:List (List Aq)) (i:Nat),jx seps i L=txt (Aqt seps i L) []
 | [],_=>rfl
 | l::L,i=>by
  rw[jx,Aqt,jw,Asu,Aj2,Aj8 L]
theorem Aqu {W:List (List Aq)} {L:List Lu} (hN:1000000000<N) (s:Says N R L W):∀ E:List Lu,(∀ l ∈ E,(10:UInt8) ∉ l∧fw (Ah5 l) []=[]∧(∀ c ∈ l,c.toNat<128)∧l.length≤2)→Says N R (E++L) W
 | [],_=>s
 | l::E,h=>by
  obtain⟨d,f,k,n⟩:=h l (by simp)
  have:=jv (R:=R) k (by omega) hN
  rw[f] at this
  exact .skip d this (Aqu hN s E fun x hx=>h x (by simp[hx]))
theorem Ae6 {seps:Lu} (hN:1000000000<N):∀ (W:List (List Aq)) (i:Nat),(∀ ws ∈ W,∀ x ∈ ws,wIn x)→(jx seps i (W++[[]])).length≤1048576→Says N R (Aqt seps i (W++[[]])) W
 | [],i,_,q=>by
  obtain⟨d,f,k⟩:=Aqs (uZ seps (i+0))
  have n:(([]:Lu)++(mX (uZ seps (i+0))).1).length≤1048576:=by
   unfold mX;rcases Aat (uZ seps (i+0)) with h | h | h | h<;>rw[h]<;>decide
  obtain⟨s1,s2⟩:=uR (R:=R) (N:=N) (seps:=seps) (l:=[]) (i:=i) hN (fun _ h=>by cases h) d f n
  exact .skip s1 s2 (Aqu hN .nil _ k)
 | ws::W,i,s,q=>by
  obtain⟨d,f,k⟩:=Aqs (uZ seps (i+ws.length))
  rw[A1o,jx,A09,jw,A09] at q
  have t:(mX (uZ seps (i+ws.length))).1.length≤(eZ (uZ seps (i+ws.length))).length:=by
   unfold mX eZ;rcases Aat (uZ seps (i+ws.length)) with h | h | h | h<;>rw[h]<;>decide
  obtain⟨s1,s2⟩:=uR (R:=R) (N:=N) (seps:=seps) (l:=ws) (i:=i) hN (s ws (by simp)) d f (by rw[A09];omega)
  exact .stmt s1 s2 (Aqu hN (Ae6 hN W (i+ws.length) (fun x hx=>s x (by simp[hx])) (by omega)) _ k)
theorem Aau {c:CaseD} {seps:Lu} {K:LA→Int→Int→O R} (l:fit 2000 N) (hN:1000000000<N) (a:Acc c) (d:([35,32,102,105,114,115,116,10]++jx seps 0 (Vg c++[[]])).length≤1048576):NV N ([35,32,102,105,114,115,116,10]++jx seps 0 (Vg c++[[]])) K=K (Avn c).av 0 0:=by
 have k:(jx seps 0 (Vg c++[[]])).length≤1048576:=by rw[A09] at d;omega
 have s:=Ae6 (R:=R) (seps:=seps) hN (Vg c) 0 (fun ws h=>(Aqr a ws h).2) k
 have f:=jv (R:=R) (N:=N) (s:=[35,32,102,105,114,115,116]) (by decide) (by decide) hN
 have e:[35,32,102,105,114,115,116,10]++jx seps 0 (Vg c++[[]])=txt ([35,32,102,105,114,115,116]::Aqt seps 0 (Vg c++[[]])) []:=by rw[Aj8];rfl
 rw[e] at d ⊢
 exact Aqm (K:=K) l hN (Aqp a) (.skip (by decide) f s) (e:=[]) (by simp) (Aib hN) d
end
end Gx.Ct
namespace Gx.Ct
open Go Go.Proofs Gx.Cf
section
variable {R:Type} {N:Nat}
theorem R3 {l:List Int} {f g h i:Bool} {K:Bool→O R} (s:l.length≤20000000000000) (hN:20000000000000<N):Kn N (l.flatMap F3) l.length f g (l.flatMap F3) l.length h i K=K true:=by
 rw[j_];unfold aJ
 rw[bne_self_eq_false,cf]
 have run:∀ (m j fuel:Nat),j+m=l.length→m<fuel→Qu N K (l.flatMap F3) l.length f g (l.flatMap F3) l.length h i fuel (j:Int)=K true:=by
  intro m
  induction m with
  | zero =>
   intro j fuel d n
   obtain⟨fuel,rfl⟩:∃ k,fuel=k+1:=⟨fuel - 1,by omega⟩
   rw[Qu];unfold EC
   rw[Hy (by omega),cf]
  | succ m q =>
   intro j fuel d n
   obtain⟨fuel,rfl⟩:∃ k,fuel=k+1:=⟨fuel - 1,by omega⟩
   have h':j<l.length:=by omega
   rw[Qu];unfold EC
   rw[Hf h',ct,Ab h',ct,TU (e:=F3) (sz:=1) (fun _=>rfl) h']
   show cond (l[j] != l[j]) _ _=_
   rw[bne_self_eq_false,cf,LW (by omega)]
   exact q (j+1) fuel (by omega) (by omega)
 exact run l.length 0 N (by omega) (by omega)
theorem Wo {n:Nat} {q:Nat→Bool→Int→O R} {K:Bool→O R} (hn:n≤20000000000000)
  (d:∀ fuel,q (fuel+1) true (n:Int)=K true) (f:∀ fuel j,j<n→q (fuel+1) true (j:Int)=q fuel true (wrap .i64 ((j:Int)+1))):∀ (m j fuel:Nat),j+m=n→m<fuel→q fuel true (j:Int)=K true
 | 0,j,fuel+1,k,_=>by
  obtain rfl:j=n:=by omega
  exact d fuel
 | m+1,j,fuel+1,k,l=>by
  rw[f fuel j (by omega),LW (by omega)]
  exact Wo hn d f m (j+1) fuel (by omega) (by omega)
theorem Ax5 {α:Type} {e:α→LA} {re:α→α} {sz:Nat} (d:∀ a,(e a).length=sz) {l:List α} {j:Nat} (h:j<l.length):take sz (drop (Int.toNat (j:Int)*sz) ((l.map re).flatMap e))=e (re l[j]):=by
 rw[D2 d (by rw[A1i];exact h),A4r]
theorem vr {α:Type} {e:α→LA} {re:α→α} {sz:Nat} (d:∀ a,(e a).length=sz) {l:List α} {j:Nat} (h:j<l.length):ble sz (drop (Int.toNat (j:Int)*sz) ((l.map re).flatMap e)).length=true :=
 Hd d (by rw[A1i];exact h)
theorem Axy {α:Type} {e:α→LA} {re:α→α} {sz:Nat} (d:∀ a,(e a).length=sz) {l:List α} {j:Nat} (h:j<l.length):∃ r,drop (Int.toNat (j:Int)*sz) ((l.map re).flatMap e)=e (re l[j])++r :=
 ⟨_,by rw[TU d (by rw[A1i];exact h),A4r]⟩
theorem Asv {α:Type} [BEq α] [ReflBEq α] (a:α):cond true (a==a) false=true:=by rw[beq_self_eq_true];rfl
theorem Am3 {R:Type} {x y:O R}:cond (cond true true false==true) x y=x:=rfl
theorem uS {l:List BusD} {a b c d:Bool} {K:Bool→O R} (k:l.length≤20000000000000) (n:∀ x ∈ l,x.demand.l.length≤20000000000000) (hN:20000000000000<N):S6 N ((l.map jy).flatMap BusD.av) l.length a b (l.flatMap BusD.av) l.length c d K=K true:=by
 rw[KM];unfold We
 rw[beq_self_eq_true]
 refine Wo k (fun fuel=>?_) (fun fuel j h=>?_) l.length 0 N (by omega) (by omega)
 ·rw[Et];unfold Pw
  rw[Hy (by omega)];rfl
 ·rw[Et];unfold Pw
  rw[Hf h]
  simp only[beq_self_eq_true,cond_true]
  unfold Rs
  obtain⟨q,e1⟩:=Axy (e:=BusD.av) (re:=jy) Md h
  rw[Ab h,e1,TU (e:=BusD.av) Md h]
  generalize hx:l[j]=x
  have f:=n x (by rw[←hx];exact A1q h)
  show cond ((x.name==x.name)==true) _ _=_
  rw[beq_self_eq_true,beq_self_eq_true,ct,ct]
  show Gx.Bb 1 ((eX x.demand).av 1 F3::_) _=_
  rw[A9,ct]
  show Gx.Bb 1 (x.demand.av 1 F3::_) _=_
  rw[A9,show(eX x.demand).l=x.demand.l from rfl,R3 f hN,Am3,ct]
  show Et N K ((l.map jy).flatMap BusD.av) l.length a b (l.flatMap BusD.av) l.length c d fuel (cond true (x.shed==x.shed) false) _=_
  rw[Asv]
theorem uT {l:List LineD} {a b c d:Bool} {K:Bool→O R} (q:l.length≤20000000000000) (t:∀ x ∈ l,x.away.l.length≤20000000000000) (hN:20000000000000<N):S7 N ((l.map Wq).flatMap LineD.av) l.length a b (l.flatMap LineD.av) l.length c d K=K true:=by
 rw[KN];unfold Wf
 rw[beq_self_eq_true]
 refine Wo q (fun fuel=>?_) (fun fuel j h=>?_) l.length 0 N (by omega) (by omega)
 ·rw[Gl];unfold Px
  rw[Hy (by omega)];rfl
 ·rw[Gl];unfold Px
  rw[Hf h]
  simp only[beq_self_eq_true,cond_true]
  unfold Rt
  rw[Ab h,vr (e:=LineD.av) (re:=Wq) Dh h,Ax5 (e:=LineD.av) (re:=Wq) Dh h,Hd (e:=LineD.av) Dh h,D2 (e:=LineD.av) Dh h]
  generalize hx:l[j]=x
  have k:=t x (by rw[←hx];exact A1q h)
  have f:∀ (s:Bool) (m n:Int),((!s)||A2 [.int .i64 m,.int .i64 n])=true:=fun s m n=>by cases s<;>rfl
  show cond ((x.name==x.name)==true) _ _=_
  rw[beq_self_eq_true,beq_self_eq_true,ct]
  show cond (cond true (x.fr==x.fr) false==true) _ _=_
  rw[Asv,beq_self_eq_true,ct]
  show cond (cond true (x.tl==x.tl) false==true) _ _=_
  rw[Asv,beq_self_eq_true,ct]
  show cond ((!b)||A2 [.int .i64 x.re.num,.int .i64 x.re.den]) (cond ((!d)||A2 [.int .i64 x.re.num,.int .i64 x.re.den]) (cond (cond true ((x.re.num==x.re.num)&&((x.re.den==x.re.den)&&true)) false==true) _ _) _) _=_
  rw[f,f,ct,ct,beq_self_eq_true,beq_self_eq_true]
  show cond ((!b)||A2 [.int .i64 x.smin.num,.int .i64 x.smin.den]) (cond ((!d)||A2 [.int .i64 x.smin.num,.int .i64 x.smin.den]) (cond (cond true ((x.smin.num==x.smin.num)&&((x.smin.den==x.smin.den)&&true)) false==true) _ _) _) _=_
  rw[f,f,ct,ct,beq_self_eq_true,beq_self_eq_true]
  show cond ((!b)||A2 [.int .i64 x.smax.num,.int .i64 x.smax.den]) (cond ((!d)||A2 [.int .i64 x.smax.num,.int .i64 x.smax.den]) (cond (cond true ((x.smax.num==x.smax.num)&&((x.smax.den==x.smax.den)&&true)) false==true) _ _) _) _=_
  rw[f,f,ct,ct,beq_self_eq_true,beq_self_eq_true]
  show cond (cond true (x.limit==x.limit) false==true) _ _=_
  rw[Asv,beq_self_eq_true,ct]
  show cond (cond true (x.emer==x.emer) false==true) _ _=_
  rw[Asv,beq_self_eq_true,ct]
  show Gx.Bb 1 ((eX x.away).av 1 F3::_) _=_
  rw[A9]
  show Gx.Bb 1 (x.away.av 1 F3::_) _=_
  rw[A9,show(eX x.away).l=x.away.l from rfl,R3 k hN]
  rfl
theorem qZ {l:List StoreD} {a b c d:Bool} {K:Bool→O R} (f:l.length≤20000000000000) (hN:20000000000000<N):Qw N (l.flatMap StoreD.av) l.length a b (l.flatMap StoreD.av) l.length c d K=K true:=by
 rw[HN];unfold Tu
 rw[beq_self_eq_true]
 refine Wo f (fun fuel=>?_) (fun fuel j h=>?_) l.length 0 N (by omega) (by omega)
 ·rw[D1];unfold Ny
  rw[Hy (by omega)];rfl
 ·rw[D1];unfold Ny
  rw[Hf h]
  simp only[beq_self_eq_true,cond_true]
  unfold P0
  rw[Ab h,Hd (e:=StoreD.av) Hp h,D2 (e:=StoreD.av) Hp h]
  generalize l[j]=x
  show D1 N K (l.flatMap StoreD.av) l.length a b (l.flatMap StoreD.av) l.length c d fuel ((x.name==x.name)&&((x.bus==x.bus)&&((x.capacity==x.capacity)&&((x.initial==x.initial)&&((x.final==x.final)&&((x.charge==x.charge)&&((x.discharge==x.discharge)&&(((x.eff.num==x.eff.num)&&((x.eff.den==x.eff.den)&&true))&&true)))))))) _=_
  simp only[beq_self_eq_true,Bool.and_self]
theorem wE {l:List TieD} {a b c d:Bool} {K:Bool→O R} (k:l.length≤20000000000000) (n:∀ x ∈ l,x.imp.l.length≤20000000000000∧x.exp.l.length≤20000000000000∧x.price.l.length≤20000000000000) (hN:20000000000000<N):Wj N ((l.map uY).flatMap TieD.av) l.length a b (l.flatMap TieD.av) l.length c d K=K true:=by
 rw[OA];unfold Zy
 rw[beq_self_eq_true]
 refine Wo k (fun fuel=>?_) (fun fuel j h=>?_) l.length 0 N (by omega) (by omega)
 ·rw[Hr];unfold Rx
  rw[Hy (by omega)];rfl
 ·rw[Hr];unfold Rx
  rw[Hf h]
  simp only[beq_self_eq_true,cond_true]
  unfold Tv
  rw[Ab h,vr (e:=TieD.av) (re:=uY) Hu h,Ax5 (e:=TieD.av) (re:=uY) Hu h,Hd (e:=TieD.av) Hu h,D2 (e:=TieD.av) Hu h]
  generalize hx:l[j]=x
  have f:=n x (by rw[←hx];exact A1q h)
  show cond ((x.name==x.name)==true) _ _=_
  rw[beq_self_eq_true,beq_self_eq_true,ct]
  show cond (cond true (x.bus==x.bus) false==true) _ _=_
  rw[Asv,beq_self_eq_true,ct]
  show Gx.Bb 1 ((eX x.imp).av 1 F3::_) _=_
  rw[A9]
  show Gx.Bb 1 (x.imp.av 1 F3::_) _=_
  rw[A9,show(eX x.imp).l=x.imp.l from rfl,R3 f.1 hN,Am3]
  show Gx.Bb 1 ((eX x.exp).av 1 F3::_) _=_
  rw[A9]
  show Gx.Bb 1 (x.exp.av 1 F3::_) _=_
  rw[A9,show(eX x.exp).l=x.exp.l from rfl,R3 f.2.1 hN,Am3]
  show Gx.Bb 1 ((eX x.price).av 1 F3::_) _=_
  rw[A9]
  show Gx.Bb 1 (x.price.av 1 F3::_) _=_
  rw[A9,show(eX x.price).l=x.price.l from rfl,R3 f.2.2 hN]
  rfl
def xe (x:UnitD):List Int:=[x.bus,x.min,x.max,x.noLoad,x.rampUp,x.rampDown,x.startRamp,x.stopRamp,x.upTime,x.downTime,x.startTime,x.hotCost,x.coldCost,x.hotHours,x.reserve,x.reservePrice,x.state,x.hours,x.output]
theorem uU {x:UnitD} {b:Bool} {K:LA→O R}:Qv N (x.av.take 22) b K=K ((xe x).flatMap F3):=by
 rw[TQ];rfl
theorem Atn (s:Bool) (m:SegD):((!s)||A2 m.av)=true:=by cases s<;>rfl
theorem Ato (s:Bool) (m:MoveD):((!s)||A2 m.av)=true:=by cases s<;>rfl
theorem uV {l:List UnitD} {a b c d:Bool} {K:Bool→O R} (s:l.length≤20000000000000) (u:∀ x ∈ l,x.away.l.length≤20000000000000∧x.segs.l.length≤20000000000000) (hN:20000000000000<N):S8 N ((l.map OQ).flatMap UnitD.av) l.length a b (l.flatMap UnitD.av) l.length c d K=K true:=by
 rw[KO];unfold Wi
 rw[beq_self_eq_true]
 refine Wo s (fun fuel=>?_) (fun fuel j h=>?_) l.length 0 N (by omega) (by omega)
 ·rw[Cn];unfold Pz
  rw[Hy (by omega)];rfl
 ·rw[Cn];unfold Pz
  rw[Hf h]
  simp only[beq_self_eq_true,cond_true]
  unfold Rw Wh
  rw[Ab h,vr (e:=UnitD.av) (re:=OQ) Fl h,Ax5 (e:=UnitD.av) (re:=OQ) Fl h,Hd (e:=UnitD.av) Fl h,D2 (e:=UnitD.av) Fl h]
  generalize hx:l[j]=x
  have f:=u x (by rw[←hx];exact A1q h)
  show cond ((x.name==x.name)==true) _ _=_
  rw[beq_self_eq_true,beq_self_eq_true,ct]
  show Qv N ((OQ x).av.take 22) b _=_
  rw[uU]
  show Qv N (x.av.take 22) d _=_
  rw[uU]
  show Kn N ((xe x).flatMap F3) (xe x).length _ _ ((xe x).flatMap F3) (xe x).length _ _ _=_
  rw[R3 (show(xe x).length≤20000000000000 by show 19≤_;decide) hN,Am3]
  show Gx.Bb 1 ((eX x.away).av 1 F3::_) _=_
  rw[A9]
  show Gx.Bb 1 (x.away.av 1 F3::_) _=_
  rw[A9,show(eX x.away).l=x.away.l from rfl,R3 f.1 hN,Am3]
  show Gx.Bb 2 ((eX x.segs).av 2 SegD.av::_) _=_
  rw[A9]
  show Gx.Bb 2 (x.segs.av 2 SegD.av::_) _=_
  rw[A9,show(eX x.segs).l=x.segs.l from rfl]
  show Rv N (Cn N K ((l.map OQ).flatMap UnitD.av) l.length a b (l.flatMap UnitD.av) l.length c d fuel) K ((l.map OQ).flatMap UnitD.av) l.length a b (l.flatMap UnitD.av) l.length c d (cond true (((x.segs.l.length:Int))==(x.segs.l.length:Int)) false) _ (OQ x).av x.av=_
  rw[Asv]
  unfold Rv Wg
  have sg:∀ F:LA→Nat→O R,Gx.Bb 2 ((OQ x).av.drop 4) F=F (x.segs.l.flatMap SegD.av) x.segs.l.length:=fun F=>by
   show Gx.Bb 2 ((eX x.segs).av 2 SegD.av::_) _=_
   rw[A9];rfl
  have k:∀ F:LA→Nat→O R,Gx.Bb 2 (x.av.drop 4) F=F (x.segs.l.flatMap SegD.av) x.segs.l.length:=fun F=>by
   show Gx.Bb 2 (x.segs.av 2 SegD.av::_) _=_
   rw[A9]
  refine Wo (n:=x.segs.l.length) (K:=fun t=>Cn N K ((l.map OQ).flatMap UnitD.av) l.length a b (l.flatMap UnitD.av) l.length c d fuel t (wrap .i64 ((j:Int)+1))) (q:=fun fu t w=>Eu N (Cn N K ((l.map OQ).flatMap UnitD.av) l.length a b (l.flatMap UnitD.av) l.length c d fuel) K ((l.map OQ).flatMap UnitD.av) l.length a b (l.flatMap UnitD.av) l.length c d (OQ x).av x.av fu t (j:Int) w) f.2 (fun fu=>?_) (fun fu i hi=>?_) x.segs.l.length 0 N (by omega) (by omega)
  ·rw[Eu];unfold Py
   rw[sg,Hy (by omega)];rfl
  ·rw[Eu];unfold Py
   rw[sg,Hf hi]
   simp only[beq_self_eq_true,cond_true]
   unfold Ru
   rw[sg,Ab hi,Hd (e:=SegD.av) (sz:=2) (fun _=>rfl) hi,D2 (e:=SegD.av) (sz:=2) (fun _=>rfl) hi,Atn,ct,ct,ct,k,Ab hi,Hd (e:=SegD.av) (sz:=2) (fun _=>rfl) hi,D2 (e:=SegD.av) (sz:=2) (fun _=>rfl) hi,Atn]
   generalize x.segs.l[i]=y
   show Eu N (Cn N K ((l.map OQ).flatMap UnitD.av) l.length a b (l.flatMap UnitD.av) l.length c d fuel) K ((l.map OQ).flatMap UnitD.av) l.length a b (l.flatMap UnitD.av) l.length c d (OQ x).av x.av fu ((y.width==y.width)&&((y.price==y.price)&&true)) _ _=_
   rw[beq_self_eq_true,beq_self_eq_true];rfl
theorem mY {l:List OutD} {a b c d:Bool} {K:Bool→O R} (s:l.length≤20000000000000) (u:∀ x ∈ l,x.lines.l.length≤20000000000000∧x.moves.l.length≤20000000000000) (hN:20000000000000<N):Oi N ((l.map aW).flatMap OutD.av) l.length a b (l.flatMap OutD.av) l.length c d K=K true:=by
 rw[DF];unfold Ry
 rw[beq_self_eq_true]
 refine Wo s (fun fuel=>?_) (fun fuel j h=>?_) l.length 0 N (by omega) (by omega)
 ·rw[B0];unfold Lx
  rw[Hy (by omega)];rfl
 ·rw[B0];unfold Lx
  rw[Hf h]
  simp only[beq_self_eq_true,cond_true]
  unfold N1 Si
  rw[Ab h,vr (e:=OutD.av) (re:=aW) G9 h,Ax5 (e:=OutD.av) (re:=aW) G9 h,Hd (e:=OutD.av) G9 h,D2 (e:=OutD.av) G9 h]
  generalize hx:l[j]=x
  have f:=u x (by rw[←hx];exact A1q h)
  show cond ((x.name==x.name)==true) _ _=_
  rw[beq_self_eq_true,beq_self_eq_true,ct]
  show Gx.Bb 1 ((eX x.lines).av 1 F3::_) _=_
  rw[A9]
  show Gx.Bb 1 (x.lines.av 1 F3::_) _=_
  rw[A9,show(eX x.lines).l=x.lines.l from rfl,R3 f.1 hN,Am3]
  show cond (cond true (x.corr==x.corr) false==true) _ _=_
  rw[Asv,beq_self_eq_true,ct]
  show Gx.Bb 3 ((eX x.moves).av 3 MoveD.av::_) _=_
  rw[A9]
  show Gx.Bb 3 (x.moves.av 3 MoveD.av::_) _=_
  rw[A9,show(eX x.moves).l=x.moves.l from rfl]
  show N0 N (B0 N K ((l.map aW).flatMap OutD.av) l.length a b (l.flatMap OutD.av) l.length c d fuel) K ((l.map aW).flatMap OutD.av) l.length a b (l.flatMap OutD.av) l.length c d (cond true (((x.moves.l.length:Int))==(x.moves.l.length:Int)) false) _ (aW x).av x.av=_
  rw[Asv]
  unfold N0 Sh
  have sg:∀ F:LA→Nat→O R,Gx.Bb 3 ((aW x).av.drop 3) F=F (x.moves.l.flatMap MoveD.av) x.moves.l.length:=fun F=>by
   show Gx.Bb 3 ((eX x.moves).av 3 MoveD.av::_) _=_
   rw[A9];rfl
  have k:∀ F:LA→Nat→O R,Gx.Bb 3 (x.av.drop 3) F=F (x.moves.l.flatMap MoveD.av) x.moves.l.length:=fun F=>by
   show Gx.Bb 3 (x.moves.av 3 MoveD.av::_) _=_
   rw[A9]
  refine Wo (n:=x.moves.l.length) (K:=fun t=>B0 N K ((l.map aW).flatMap OutD.av) l.length a b (l.flatMap OutD.av) l.length c d fuel t (wrap .i64 ((j:Int)+1))) (q:=fun fu t w=>Do N (B0 N K ((l.map aW).flatMap OutD.av) l.length a b (l.flatMap OutD.av) l.length c d fuel) K ((l.map aW).flatMap OutD.av) l.length a b (l.flatMap OutD.av) l.length c d (aW x).av x.av fu t (j:Int) w) f.2 (fun fu=>?_) (fun fu i hi=>?_) x.moves.l.length 0 N (by omega) (by omega)
  ·rw[Do];unfold Lw
   rw[sg,Hy (by omega)];rfl
  ·rw[Do];unfold Lw
   rw[sg,Hf hi]
   simp only[beq_self_eq_true,cond_true]
   unfold Nz
   rw[sg,Ab hi,Hd (e:=MoveD.av) (sz:=3) (fun _=>rfl) hi,D2 (e:=MoveD.av) (sz:=3) (fun _=>rfl) hi,Ato,ct,ct,ct,k,Ab hi,Hd (e:=MoveD.av) (sz:=3) (fun _=>rfl) hi,D2 (e:=MoveD.av) (sz:=3) (fun _=>rfl) hi,Ato]
   generalize x.moves.l[i]=y
   show Do N (B0 N K ((l.map aW).flatMap OutD.av) l.length a b (l.flatMap OutD.av) l.length c d fuel) K ((l.map aW).flatMap OutD.av) l.length a b (l.flatMap OutD.av) l.length c d (aW x).av x.av fu ((y.unit==y.unit)&&((y.up==y.up)&&((y.down==y.down)&&true))) _ _=_
   rw[beq_self_eq_true,beq_self_eq_true,beq_self_eq_true];rfl
structure ListsR (c:CaseD):Prop where
 b:c.buses.l.length≤20000000000000
 l:c.lines.l.length≤20000000000000
 u:c.units.l.length≤20000000000000
 s:c.stores.l.length≤20000000000000
 t:c.ties.l.length≤20000000000000
 o:c.outs.l.length≤20000000000000
theorem Aid {c:CaseD} {a b:Bool} {K:Bool→O R} (hN:20000000000000<N) (hI:CaseI 20000000000000 c) (hL:ListsR c):OB N (Avn c).av a c.av b K=K true:=by
 rw[eP];unfold fk
 show cond ((c.hours==c.hours)==true) _ _=_
 rw[beq_self_eq_true,beq_self_eq_true,ct]
 have lm:∀ {α β:Type} {f:α→β} {l:List α},(Sl.of (l.map f) false false).l.length=l.length:=A1i _
 show Gx.Bb 1 ((eX c.reserve).av 1 F3::_) _=_
 rw[A9]
 show Gx.Bb 1 (c.reserve.av 1 F3::_) _=_
 rw[A9,show(eX c.reserve).l=c.reserve.l from rfl,R3 hI.r.2 hN,Am3]
 show Gx.Bb 3 ((Sl.of (c.buses.l.map jy) false false).av 3 BusD.av::_) _=_
 rw[A9,lm]
 show Gx.Bb 3 (c.buses.av 3 BusD.av::_) _=_
 rw[A9,show(Sl.of (c.buses.l.map jy) false false).l=c.buses.l.map jy from rfl,uS hL.b (fun x hx=>(hI.b x hx).d.2) hN,Am3]
 show Gx.Bb 12 ((Sl.of (c.lines.l.map Wq) false false).av 12 LineD.av::_) _=_
 rw[A9,lm]
 show Gx.Bb 12 (c.lines.av 12 LineD.av::_) _=_
 rw[A9,show(Sl.of (c.lines.l.map Wq) false false).l=c.lines.l.map Wq from rfl,uT hL.l (fun x hx=>(hI.l x hx).a.2) hN,Am3]
 show Gx.Bb 22 ((Sl.of (c.units.l.map OQ) false false).av 22 UnitD.av::_) _=_
 rw[A9,lm]
 show Gx.Bb 22 (c.units.av 22 UnitD.av::_) _=_
 rw[A9,show(Sl.of (c.units.l.map OQ) false false).l=c.units.l.map OQ from rfl,uV hL.u (fun x hx=>⟨(hI.u x hx).a.2,(hI.u x hx).s.2⟩) hN,Am3]
 show Gx.Bb 9 ((Sl.of c.stores.l false false).av 9 StoreD.av::_) _=_
 rw[A9]
 show Gx.Bb 9 (c.stores.av 9 StoreD.av::_) _=_
 rw[A9,show(Sl.of c.stores.l false false).l=c.stores.l from rfl,qZ hL.s hN,Am3]
 show Gx.Bb 5 ((Sl.of (c.ties.l.map uY) false false).av 5 TieD.av::_) _=_
 rw[A9,lm]
 show Gx.Bb 5 (c.ties.av 5 TieD.av::_) _=_
 rw[A9,show(Sl.of (c.ties.l.map uY) false false).l=c.ties.l.map uY from rfl,wE hL.t (fun x hx=>⟨(hI.t x hx).i.2,(hI.t x hx).e.2,(hI.t x hx).p.2⟩) hN,Am3]
 show Gx.Bb 4 ((Sl.of (c.outs.l.map aW) false false).av 4 OutD.av::_) _=_
 rw[A9,lm]
 show Gx.Bb 4 (c.outs.av 4 OutD.av::_) _=_
 rw[A9,show(Sl.of (c.outs.l.map aW) false false).l=c.outs.l.map aW from rfl,mY hL.o (fun x hx=>⟨(hI.o x hx).l,(hI.o x hx).m.2⟩) hN]
 rfl
end
end Gx.Ct
namespace Gx.Cf
open Go Go.Proofs
section
variable {R:Type}
theorem Aie:∀ i,i<16→Ba [98,Azs.getD i 0]=true∧Ba [108,Azs.getD i 0]=true∧Ba [117,Azs.getD i 0]=true∧Ba [111,Azs.getD i 0]=true:=by decide
end
end Gx.Cf
namespace Gx.Ct
open Go Go.Proofs Gx.Cf
theorem Aj9 {n:Nat}:∀ r:List Aq,(∀ x ∈ r,x.length≤n)→(r.flatMap (32::·)).length≤(n+1)*r.length
 | [],_=>by simp
 | w::r,h=>by
  have:=Aj9 r fun x hx=>h x (by simp[hx])
  have d:=h w (by simp)
  rw[A10,A09,A1a,A1a,A2o];omega
theorem Asw {W:List (List Aq)} (h:∀ ws ∈ W,ws.length≤60∧∀ x ∈ ws,x.length≤61):(W.flatMap Dq).length≤4000*W.length:=by
 induction W with
 | nil=>simp
 | cons ws W f =>
  have:=f fun x hx=>h x (by simp[hx])
  obtain⟨k,d⟩:=h ws (by simp)
  have l:(Dq ws).length≤4000:=by
   unfold Dq
   cases ws with
   | nil=>decide
   | cons w r =>
    have n:=d w (by simp)
    have:=Aj9 r fun x hx=>d x (by simp[hx])
    rw[A1a] at k
    rw[Ho,A09,A09,A2d];omega
  rw[A10,A09,A1a];omega
theorem Y_ {z:Int} (h:-1048576≤z∧z≤1048576):BS z=false:=by
 unfold BS;rw[decide_eq_false (by omega),decide_eq_false (by omega)];rfl
theorem Hl {l:List Int} (h:∀ z ∈ l,-1048576≤z∧z≤1048576):A3 l=false:=by
 unfold A3;rw[A3w];exact fun z d=>by rw[Y_ (h z d)];decide
theorem BK {α:Type} {p:α→Bool} {l:List α} (h:∀ x ∈ l,p x=false):l.any p=false:=by
 rw[A3w];exact fun x hx=>by rw[h x hx];decide
theorem He {lo hi v:Int} (h:Fu lo hi v=true):lo≤v∧v≤hi:=by unfold Fu at h;simpa using h
theorem mZ {f:FracD} (h:M5 f=true):H2 f=false:=by
 unfold M5 at h;simp only[A1f] at h
 have k:=He h.1;have d:=He h.2
 unfold H2;rw[Y_ d,decide_eq_false (by omega),decide_eq_false (by omega)];rfl
theorem Y' {i:Int} {n:Nat} (h:0≤i∧i<(n:Int)):Lk i n=true:=by unfold Lk;simpa using h
theorem Asx:∀ i,i<16→∀ j,j<16→Azs.getD i 0=Azs.getD j 0→i=j:=by decide
theorem SE {α:Type} {f:α→Aq} {k:UInt8} {l:List α} (t:l.length≤16) (n:k=98∨k=108∨k=117∨k=111) (h:∀ i (hi:i<l.length),f l[i]=[k,Azs.getD i 0]):(∀ s ∈ l.map f,Ba s=true)∧(l.map f).Nodup:=by
 refine⟨fun s hs=>?_,?_⟩
 ·obtain⟨x,hx,rfl⟩:=A1y.1 hs
  obtain⟨i,hi,rfl⟩:=A1t hx
  have:=Aie i (by omega)
  rw[h i hi]
  rcases n with rfl | rfl | rfl | rfl
  ·exact this.1
  ·exact this.2.1
  ·exact this.2.2.1
  ·exact this.2.2.2
 ·unfold List.Nodup
  rw[List.pairwise_iff_getElem]
  intro i j hi d q e
  rw[A1i] at hi d
  rw[A4r,A4r,h i hi,h j d] at e
  simp only[List.cons.injEq,and_true,true_and] at e
  have:=Asx i (by omega) j (by omega) e
  omega
theorem Ae7 {α:Type} {f:α→Aq} {w:Aq} {l:List α} (d:l.length≤1) (k:Ba w=true) (h:∀ x ∈ l,f x=w):(∀ s ∈ l.map f,Ba s=true)∧(l.map f).Nodup:=by
 refine⟨fun s hs=>?_,?_⟩
 ·obtain⟨x,hx,rfl⟩:=A1y.1 hs;rw[h x hx];exact k
 ·match l,d with
  | [],_=>exact .nil
  | [a],_=>simp
theorem xg {c:CaseD} (g:BF c):∀ l ∈ By c,(∀ s ∈ l,Ba s=true)∧l.Nodup:=by
 obtain⟨H,res,bs,ls,us,ss,ts,os,b,og,k,rfl⟩:=g
 have h:=b.h;have rl:=b.rl;have bl:=b.bl;have ll:=b.ll;have ul:=b.ul;have sl:=b.sl;have tl:=b.tl;have ol:=og.l
 intro l d
 simp only[By,A1j,A1v,or_false] at d
 rcases d with rfl | rfl | rfl | rfl | rfl | rfl
 ·exact SE (f:=BusD.name) (l:=bs) (by omega) (.inl rfl) fun i hi=>(b.bg i hi).name
 ·exact SE (f:=LineD.name) (l:=ls) (by omega) (.inr (.inl rfl)) fun i hi=>(b.lg i hi).g.name
 ·exact SE (f:=UnitD.name) (l:=us) (by omega) (.inr (.inr (.inl rfl))) fun i hi=>(b.ug i hi).name
 ·exact Ae7 (f:=StoreD.name) (l:=ss) (by omega) (w:=[115,48]) (by decide) fun x hx=>(b.sg x hx).name
 ·exact Ae7 (f:=TieD.name) (l:=ts) (by omega) (w:=[116,48]) (by decide) fun x hx=>(b.tg x hx).name
 ·exact SE (f:=OutD.name) (l:=os) (by omega) (.inr (.inr (.inr rfl))) fun i hi=>(og.g i hi).name
theorem xh {c:CaseD} (g:BF c):Qj c=true:=by
 obtain⟨H,res,bs,ls,us,ss,ts,os,b,og,f,rfl⟩:=g
 have h:=b.h;have rl:=b.rl;have bl:=b.bl;have ll:=b.ll;have ul:=b.ul;have sl:=b.sl;have tl:=b.tl;have ol:=og.l
 unfold Qj
 simp only[A1f,A1u,US,Sl.l]
 refine⟨fun l d=>?_,fun u k=>?_,fun s hs=>Y' (b.sg s hs).bus,fun t n=>Y' (b.tg t n).bus,fun o f=>?_⟩
 ·obtain⟨i,hi,rfl⟩:=A1t d
  exact⟨Y' (b.lg i hi).fr,Y' (b.lg i hi).tx⟩
 ·obtain⟨i,hi,rfl⟩:=A1t k
  have:=He (b.ug i hi).state
  exact⟨Y' (b.ug i hi).bus,Y' (by omega)⟩
 ·obtain⟨i,hi,rfl⟩:=A1t f
  exact⟨fun l d=>Y' ((og.g i hi).lr l d),fun m q=>Y' ((og.g i hi).mr m q)⟩
theorem xi {c:CaseD} (g:BF c):(∀ ws ∈ Vg c,ws.length≤60∧∀ x ∈ ws,x.length≤61)∧(Vg c).length≤100:=by
 have hI:=(OI (M:=20000000000000) (by decide) g).1
 have nms:=xg g
 have kn:=xh g
 obtain⟨H,res,bs,ls,us,ss,ts,os,b,og,A,rfl⟩:=g
 have h:=b.h;have rl:=b.rl;have bl:=b.bl;have ll:=b.ll;have ul:=b.ul;have sl:=b.sl;have tl:=b.tl;have ol:=og.l
 have tx61:∀ z,FQ z→(tx z).length≤61:=fun z t=>A3f (YT z t) (by decide)
 refine⟨fun ws d=>⟨?_,(sH hI tx61 (fun f u v=>?_) (fun w d=>?_) (fun l y s hs=>?_) kn ws d).2⟩,?_⟩
 ·unfold Vg at d
  simp only[A1j,A1k,A1y,US,Sl.l] at d
  rcases d with rfl | ⟨x,hx,rfl⟩ | ⟨x,hx,rfl⟩ | ⟨x,hx,rfl⟩ | ⟨x,hx,rfl⟩ | ⟨x,hx,rfl⟩ | ⟨x,hx,rfl⟩
  ·show([Df,tx (H:Int),D6]++res.map tx).length≤60
   rw[A09,A1i];show 3+res.length≤60;omega
  ·obtain⟨i,hi,rfl⟩:=A1t hx
   have:=(b.bg i hi).dl
   simp only[bR,A09,A1i,A1a,A1b];omega
  ·obtain⟨i,hi,rfl⟩:=A1t hx
   have:=(b.lg i hi).g.aw
   simp only[Uk,A09,A1i,A1a,A1b];omega
  ·obtain⟨i,hi,rfl⟩:=A1t hx
   have k:=(b.ug i hi).sl;have n:=(b.ug i hi).aw
   have e:(us[i].segs.l.flatMap fN).length=us[i].segs.l.length*2:=by
    induction us[i].segs.l with
    | nil=>rfl
    | cons a r q=>rw[A10,A09,q,A1a];show 2+_=_;omega
   have st:(Xw us[i].state).length≤1:=by unfold Xw;split<;>(try split)<;>(try split)<;>decide
   simp only[Qh,A09,A1i,A1a,A1b,e];omega
  ·simp only[Ku,A1a,A1b];omega
  ·have g:=b.tg x hx
   have k:=g.il;have n:=g.el;have C:=g.pl
   simp only[HY,A09,A1i,A1a,A1b];omega
  ·obtain⟨i,hi,rfl⟩:=A1t hx
   have k:=(og.g i hi).ll;have n:=(og.g i hi).ml
   have e:∀ U,(os[i].moves.l.flatMap (AD U)).length=os[i].moves.l.length*3:=fun U=>by
    induction os[i].moves.l with
    | nil=>rfl
    | cons a r q=>rw[A10,A09,q,A1a];show 3+_=_;omega
   have st:(cond os[i].corr [B5] []).length≤1:=by cases os[i].corr<;>decide
   simp only[Xx,A09,A1i,A1a,A1b,e];omega
 ·have k:=YT _ u;have n:=YT _ v
  unfold Lj;rw[A09,A1a];omega
 ·unfold Avh at d
  simp only[A1f,decide_eq_true_eq] at d
  omega
 ·have:=(nms l y).1 s hs
  unfold Ba at this
  simp only[A1f,decide_eq_true_eq] at this
  omega
 ·simp only[Vg,A09,A1i,A1a,US,Sl.l];omega
theorem Aka {c:CaseD} (g:BF c):Acc c:=by
 have hI:=(OI (M:=20000000000000) (by decide) g).1
 have nms:=xg g
 have kn:=xh g
 have f:=xi g
 obtain⟨H,res,bs,ls,us,ss,ts,os,b,og,D,rfl⟩:=g
 have h:=b.h;have rl:=b.rl;have bl:=b.bl;have ll:=b.ll;have ul:=b.ul;have sl:=b.sl;have tl:=b.tl;have ol:=og.l
 have hH:∀ {l:Sl Int},l.l.length=H→P' (US false H res bs ls us ss ts os) l=true:=fun e=>by
  unfold P';rw[e];exact decide_eq_true rfl
 refine⟨hI,?_,?_,?_,nms,kn,?_,?_,?_⟩
 ·show(decide (bs.length≤32)&&(decide (ls.length≤64)&&(decide (us.length≤16)&&(decide (ss.length≤8)&&(decide (ts.length≤8)&&decide (os.length≤64))))))=true
  simp only[A1f,decide_eq_true_eq];omega
 ·show(1:Int)≤(H:Int)∧(H:Int)≤24;omega
 ·unfold IR
  simp only[A1f,A1u]
  refine⟨hH rl,fun x hx=>?_,fun x hx=>?_⟩
  ·simp only[US,Sl.l] at hx
   obtain⟨i,hi,rfl⟩:=A1t hx
   exact hH (b.bg i hi).dl
  ·simp only[US,Sl.l] at hx
   exact⟨hH (b.tg x hx).il,hH (b.tg x hx).el,hH (b.tg x hx).pl⟩
 ·unfold I9
  rw[A1u]
  intro x hx
  simp only[US,Sl.l] at hx
  obtain⟨i,hi,rfl⟩:=A1t hx
  have:=(og.g i hi).mc
  rw[A4x] at this ⊢
  rcases this with q | q
  ·right;rw[List.isEmpty_iff,←A3m];simpa using q
  ·left;exact q
 ·unfold Rh
  simp only[A2y]
  refine⟨Y_ (by simp only[US];omega),Hl fun z d=>by have:=b.rr z d;omega,BK fun x hx=>?_,BK fun x hx=>?_,BK fun x hx=>?_,BK fun x hx=>?_,BK fun x hx=>?_,BK fun x hx=>?_⟩
  all_goals simp only[US,Sl.l] at hx
  ·obtain⟨i,hi,rfl⟩:=A1t hx
   have g:=b.bg i hi
   have:=g.shed
   unfold fO
   rw[Hl fun z d=>by have:=g.dr z d;omega,Y_ (by omega)];rfl
  ·obtain⟨i,hi,rfl⟩:=A1t hx
   have g:=(b.lg i hi).g
   have k:=g.re;have n:=g.smin;have t:=g.smax;have u:=He g.lim;have v:=He g.em
   simp only[A1f] at k n t
   unfold IQ
   rw[mZ k.1,mZ n.1,mZ t.1,Hl (l:=[_,_]) fun z d=>by
    simp only[A1j,A1v,or_false] at d
    rcases d with rfl | rfl<;>omega,Hl fun z d=>by have:=g.awr z d;omega];rfl
  ·obtain⟨i,hi,rfl⟩:=A1t hx
   have g:=b.ug i hi
   have so:=A1u.1 g.sok
   have k:=He g.min;have n:=He g.max;have t:=He g.startRamp;have u:=He g.stopRamp
   have F:=He g.noLoad;have G:=He g.rampUp;have I:=He g.rampDown;have S:=He g.upTime;have T:=He g.downTime;have U:=He g.startTime;have V:=He g.hotCost;have X:=He g.coldCost;have Y:=He g.hotHours;have pa:=He g.reserve;have pb:=He g.reservePrice;have pc:=He g.hours
   have v:-1048576≤us[i].output∧us[i].output≤1048576:=by
    have:=g.output
    cases hs:us[i].state==2<;>rw[hs] at this<;>have:=He this<;>omega
   unfold Y9
   rw[Hl (l:=[_,_]) fun z d=>by
    simp only[A1j,A1v,or_false] at d
    rcases d with rfl | rfl<;>omega,BK (l:=us[i].segs.l) (p:=fP) fun s hs=>by
     have:=so s hs
     unfold ic at this
     simp only[A1f] at this
     have y:=He this.1;have A:=He this.2
     unfold fP
     exact Hl fun z d=>by
      simp only[A1j,A1v,or_false] at d
      rcases d with rfl | rfl<;>omega,Hl (l:=[_,_,_,_,_,_,_,_,_,_,_,_,_]) fun z d=>by
    simp only[A1j,A1v,or_false] at d
    rcases d with rfl | rfl | rfl | rfl | rfl | rfl | rfl | rfl | rfl | rfl | rfl | rfl | rfl<;>omega,Hl fun z d=>by have:=g.awr z d;omega,Hl (l:=[_,_]) fun z d=>by
    simp only[A1j,A1v,or_false] at d
    rcases d with rfl | rfl<;>omega];rfl
  ·have g:=b.sg x hx
   have k:=g.cap;have n:=g.ini;have t:=g.fin;have u:=g.ch;have v:=g.dis;have q6:=g.eff
   unfold Sr H2
   rw[Hl fun z d=>by
    simp only[A1j,A1v,or_false] at d
    rcases d with rfl | rfl | rfl | rfl | rfl<;>omega,Y_ (by omega),decide_eq_false (by omega),decide_eq_false (by omega)];rfl
  ·have g:=b.tg x hx
   unfold FP
   rw[Hl fun z d=>by have:=g.ir z d;omega,Hl fun z d=>by have:=g.er z d;omega,Hl fun z d=>by have:=g.pr z d;omega];rfl
  ·obtain⟨i,hi,rfl⟩:=A1t hx
   have mi:=A1u.1 (og.g i hi).mi
   unfold Qi
   refine BK fun m C=>?_
   have:=mi m C
   unfold Ac2 at this
   simp only[A1f] at this
   have y:=He this.1;have A:=He this.2
   unfold iK
   exact Hl fun z d=>by
    simp only[A1j,A1v,or_false] at d
    rcases d with rfl | rfl<;>omega
 ·refine A3f (Asw f.1) (by have:=f.2;omega)
end Gx.Ct
namespace Gx.Ct
open Go Go.Proofs Gx.Cf
theorem Aif {c:CaseD} (g:BF c):ListsR c:=by
 have h:=(OI (M:=1000000000) (by decide) g).2
 have d:=h.b;have f:=h.l;have k:=h.u;have n:=h.s;have q:=h.t;have v:=h.o
 exact⟨by omega,by omega,by omega,by omega,by omega,by omega⟩
section
variable {R:Type} {N:Nat} {H:Int} {res:List Int} {bs:List BusD} {ls:List LineD} {us:List UnitD} {ss:List StoreD} {ts:List TieD} {os:List OutD}
theorem Aqv {l:List Int} {c:CaseD} {K:Lu→O R} (hN:20000000000000<N) (g:BF c) (d:∀ K:LA→O R,JL N (Ax l) l.length false false K=K c.av):RE N (Ax l) l.length false false K=K (Ww c):=by
 have a:=Aka g
 have e:=Au9 a
 rw[XA];unfold W_
 rw[d,Aag (Axt (by omega)) YT (by omega) (OI (M:=1000000000) (by decide) g).1 (OI (M:=1000000000) (by decide) g).2]
 unfold An9;rw[if_pos e]
end
end Gx.Ct
namespace Gx
open Go Go.Proofs
section
variable {R:Type}
theorem Avb {l:Lu} {j:Nat} (h:j<l.length) {f:Int→O R}:Aw .u8 (drop ((j:Int).toNat*1) (Tf l)) f=f ((l[j].toNat:Nat):Int):=by
 rw[A1x,A1d]
 have e:drop j (Tf l)=.int .u8 ((l[j].toNat:Nat):Int)::Tf (drop (j+1) l):=by
  unfold Tf;rw[←A6a,A17 h];rfl
 rw[e];rfl
end
end Gx
namespace Gx.Ct
open Go Go.Proofs Gx.Cf
section
variable {R:Type} {N:Nat}
theorem Atp {seps:Lu} {i:Nat} {a b:Bool} {K:Int→O R}:YG N (Tf seps) seps.length a b (i:Int) K=K ((uZ seps i:Nat):Int):=by
 rw[jd];unfold mE uZ
 by_cases h:i<seps.length
 ·have d:=seps[i].toNat_lt
  rw[Hf h,ct,Ab h,ct,Avb h,Gx.i64 (by omega),A1m,A1g h];rfl
 ·rw[Hy (by omega),cf,A1m,A2u (by omega)];rfl
theorem Atq (n:Nat):Int.tmod (n:Int) 4=((n%4:Nat):Int):=rfl
theorem Avc (n:Nat) {F:Lu→O R}:cond (Ag (Int.tmod (n:Int) 4) 4) (Gx.Li (drop (0+((Int.tmod (n:Int) 4).toNat*1)) [(.str ([32]:Lu)),(.str ([9]:Lu)),(.str ([32,32]:Lu)),(.str ([32,13,32]:Lu))]) F) none=F (TV n):=by
 rw[Atq];unfold TV
 rcases Aat n with h | h | h | h<;>rw[h]<;>rfl
theorem Avd (n:Nat) {F:Lu→O R}:cond (Ag (Int.tmod (n:Int) 4) 4) (Gx.Li (drop (0+((Int.tmod (n:Int) 4).toNat*1)) [(.str ([10]:Lu)),(.str ([32,35,32,120,10]:Lu)),(.str ([10,10,32,32,10]:Lu)),(.str ([35,10]:Lu))]) F) none=F (eZ n):=by
 rw[Atq];unfold eZ
 rcases Aat n with h | h | h | h<;>rw[h]<;>rfl
variable {k0:List UInt8→Int→Int→Int→O R} {r0:Bool→O R} {a:LA} {b:Nat} {h c g e:Bool} {seps:List UInt8} {j:Nat} {m:Int} {L:LA}
theorem Aig (w:Aq) (l:List Aq) (i:Nat):jw seps i (w::l)=w++TV (uZ seps i)++jw seps (i+1) l:=by
 unfold jw
 rw[UR,A1a,show i+(l.length+1)=i+1+l.length by omega];simp
theorem Ae8 {l:List Aq} (k:l.length≤1000000) (f:∀ x ∈ l,x.length≤1000000):∀ (n s fuel i:Nat) (q:Lu) (v:Int),s+n=l.length→n<fuel→i+n≤1000000000→q.length+1000010*n+10≤100000000000000 →
  Co N k0 r0 a b h c (Tf seps) seps.length g e j m (A8 l) l.length L fuel q (i:Int) v (l.length:Int) (s:Int) =
   k0 (q++jw seps i (l.drop s)) (((i+n:Nat)):Int) m (wrap .i64 (v+1))
 | 0,s,fuel+1,i,q,v,hs,_,_,hq=>by
  have t:=Aj5 (uZ seps (i+0))
  rw[Co];unfold G3
  rw[Hy (by omega),cf,Atp,Avd]
  unfold jw
  rw[A3e (by omega),UR,A11,A1b]
  rw[show ble (q.length+(eZ (uZ seps i)).length) 140737488355328=true by rw[A20] at t;simp;omega,ct];rfl
 | n+1,s,fuel+1,i,q,v,hs,y,hi,hq=>by
  have d:s<l.length:=by omega
  have hx:=f _ (A1q d)
  have u:=Aj4 (uZ seps i)
  rw[Co];unfold G3
  rw[Hf d,ct,Ab d,ct,A1d,A1x,Oa d,Atp,Avc]
  rw[show ble (l[s].length+(TV (uZ seps i)).length) 140737488355328=true by simp;omega,ct,show ble (q.length+(l[s]++TV (uZ seps i)).length) 140737488355328=true by simp;omega,ct,LW (by omega),LW (by omega)]
  refine(Ae8 k f n (s+1) fuel (i+1) (q++(l[s]++TV (uZ seps i))) v (by omega) (by omega) (by omega) (by rw[A09,A09];omega)).trans ?_
  rw[A17 d,Aig,show i+1+n=i+(n+1) by omega];simp
theorem q_ {c:CaseD} (gc:BF c):(∀ l ∈ Vg c++[[]],l.length≤100∧∀ x ∈ l,x.length≤100)∧(Vg c++[[]]).length≤1000:=by
 obtain⟨d,k⟩:=xi gc
 refine⟨fun l f=>?_,by rw[A09];simp;omega⟩
 rcases A1k.1 f with q | q
 ·exact⟨by have:=(d l q).1;omega,fun x hx=>by have:=(d l q).2 x hx;omega⟩
 ·rw[A2s.1 q];exact⟨by simp,fun x hx=>by cases hx⟩
theorem Akb {K:Bool→O R} {lines:List (List Aq)} {T:Bool} (hN:1000000000<N) (k:∀ l ∈ lines,l.length≤100∧∀ x ∈ l,x.length≤100) (hn:lines.length≤1000)
  (fin:∀ (fuel:Nat) (u:Lu) (z:Int),u=[35,32,102,105,114,115,116,10]++jx seps 0 lines→Bs N K a b h c (Tf seps) seps.length g e lines.length (lines.map wz) (fuel+1) u z (lines.length:Int) (lines.length:Int)=K T) :
  ∀ (n t fuel i:Nat) (u:Lu),t+n=lines.length→n<fuel→i≤100*t→u.length≤8+30000*t→u++jx seps i (lines.drop t)=[35,32,102,105,114,115,116,10]++jx seps 0 lines →
  Bs N K a b h c (Tf seps) seps.length g e lines.length (lines.map wz) fuel u (i:Int) (lines.length:Int) (t:Int)=K T
 | 0,t,fuel+1,i,u,v,_,_,_,f=>by
  obtain rfl:t=lines.length:=by omega
  rw[List.drop_length,jx,A1p] at f
  exact fin fuel u _ f
 | n+1,t,fuel+1,i,u,v,C,hi,y,f=>by
  have d:t<lines.length:=by omega
  obtain⟨D,q⟩:=k _ (A1q d)
  rw[Bs];unfold G4
  rw[Hf d,ct,Ab d,ct,A1w,A1d,A1x]
  have rd:∀ F:LA→Nat→O R,Gx.Bb 1 (drop t (lines.map wz)) F=F (A8 lines[t]) lines[t].length:=fun F=>by
   rw[←A6a,A17 d];rfl
  rw[rd]
  have G:(UR seps i lines[t]).length≤200*lines[t].length:=by
   have:∀ (l:List Aq) (i:Nat),(∀ x ∈ l,x.length≤100)→(UR seps i l).length≤200*l.length:=by
    intro l
    induction l with
    | nil=>intro i _;simp[UR]
    | cons w r A =>
     intro i s
     have I:=A (i+1) fun x hx=>s x (by simp[hx])
     have M:=s w (by simp)
     have S:=Aj4 (uZ seps i)
     rw[UR,A09,A09,A1a];omega
   exact this _ _ q
  have U:=Aj5 (uZ seps (i+lines[t].length))
  refine(Ae8 (l:=lines[t]) (by omega) (fun x hx=>A3f (q x hx) (by omega)) lines[t].length 0 N i u (t:Int) (by omega) (by omega) (by omega) (by omega)).trans ?_
  rw[A1z,LW (by omega)]
  refine Akb hN k hn fin n (t+1) fuel (i+lines[t].length) _ (by omega) (by omega) (by omega) ?_ ?_
  ·unfold jw;rw[A09,A09];omega
  ·rw[←f,A17 d,jx,A1l]
theorem Ae9 {l:List Int} {K:Bool→O R} (s:fit 2000 N) (hN:20000000000000<N) (v:l.length≤9223372036854775807):Ko N (Ax l) l.length false false (Tf seps) seps.length false false K=K true:=by
 obtain⟨x,gx,hx⟩:=Aae (R:=R) (N:=N) (l:=l) (n:=l.length) (t:=false) (o:=false) rfl (by omega) v
 have d:=Aka gx
 have q:=d.l
 rw[Ta];unfold Jb
 rw[Aqv hN gx hx,Zc];unfold GD
 rw[show ble (Ww x).length 1000000000=true by simp;omega,ct]
 have f:H3 (Ww x)=Vg x++[[]]:=uQ (Vg x) (Aqr d)
 rw[f]
 have small:=q_ gx
 refine(Akb (lines:=Vg x++[[]]) (T:=true) (by omega) small.1 small.2 (fun fuel u z y=>?_) (Vg x++[[]]).length 0 N 0 _ (by omega) (by have:=small.2;omega) (by omega) (by decide) (by rw[A1z]))
 rw[Bs];unfold G4
 rw[Hy (A1h _),cf]
 by_cases k:u.length>1048576
 ·rw[decide_eq_true (show(u.length:Int)>1048576 by omega),ct,Oe];rfl
 ·rw[decide_eq_false (show ¬ (u.length:Int)>1048576 by omega),cf]
  rw[y] at k ⊢
  rw[Aau s (by omega) d (by omega)]
  show AJ N _=_
  rw[Oe];unfold QP
  show JL N (Ax l) l.length false false _=_
  rw[hx]
  show OB N (Avn x).av false x.av false _=_
  rw[Aid hN d.i (Aif gx)];rfl
end
end Gx.Ct
namespace Gx
open Go Go.Proofs Go.RowKit Go.ChangeShapes
open Cf
section
variable {W:World} {H:Type} {enc:TypeId×Value→H} {β:Cu} {h:A1}
theorem uW {q:Int→Prop}:∀ m:List { n:Int // q n },m.flatMap (fun n=>[AV.int .i64 n.1])=Ax (m.map (·.1))
 | []=>rfl
 | a::r=>by rw[A10,uW r];rfl
theorem Am1 {a:Option Addr} {len cap:Nat} {d:DataW H} {p:List MemPlace} (f:DataW.Trod enc Tryz.prog W 0 (fun _=>true) true 22 (.slice a len cap) d p) :
  ∃ l:List Int,l.length≤maxLen∧Rep (fun _ k=>k<W.heap.size) β h W (.imm (Ax l) l.length 1 false false) (.slice a len cap):=by
 obtain⟨l,n,e⟩:=Ai4 (β:=β) (h:=h) Tryz.underlying22 (by kernel_rfl) (Aku Tryz.underlying3 (by kernel_rfl)) f
 rw[uW] at e
 exact⟨l.map (·.1),by rw[A1i];exact n,by rw[A1i];exact e⟩
theorem Aih {a:Option Addr} {len cap:Nat} {d:DataW H} {p:List MemPlace} (f:DataW.Trod enc Tryz.prog W 0 (fun _=>true) true 23 (.slice a len cap) d p) :
  ∃ l:Lu,l.length≤maxLen∧Rep (fun _ k=>k<W.heap.size) β h W (.imm (Tf l) l.length 1 false false) (.slice a len cap):=by
 obtain⟨l,n,e⟩:=Ai4 (β:=β) (h:=h) Tryz.underlying23 (by kernel_rfl) (Anu Tryz.underlying5 (by kernel_rfl)) f
 rw[rc] at e
 exact⟨l,n,e⟩
end
end Gx
