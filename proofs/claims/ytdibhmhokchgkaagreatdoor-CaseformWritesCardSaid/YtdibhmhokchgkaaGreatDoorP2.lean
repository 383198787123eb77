/- A part of the proof; each theorem says what it holds. -/
import Derived.Shelf.Strings.Repeat
import Derived.Shelf.Strings.Split
import Derived.Shelf.Strings.Cut
import Derived.Shelf.Strconv.AtoiAll
import Derived.Shelf.Strconv.Itoa3
import Derived.Shelf.LaysM
import Derived.Shelf.LaysC
import Derived.Lib.RepeatB
import Derived.Test.YtdibhmhokchgkaaGreatDoorP1
set_option linter.unusedVariables false
set_option linter.defProp false
set_option linter.unusedSimpArgs false
open Nat (ble beq)
open List (take drop replicate)
open Go.IntKind (wrap)
namespace Gx.Ct
open Go Go.Proofs Gx.Cf
def JR(v:Int):Prop:=-9223372036854775808<=v/\v<=9223372036854775807
structure LineI(M:Nat)(l:LineD):Prop where
 f1:JR l.re.num/\JR l.re.den
 f2:JR l.smin.num/\JR l.smin.den
 f3:JR l.smax.num/\JR l.smax.den
 n:JR l.limit/\JR l.emer
 a:(∀ z∈l.away.l,JR z)/\l.away.l.length<=M
structure UnitI(M:Nat)(u:UnitD):Prop where
 n:∀ z∈[u.min,u.max,u.noLoad,u.rampUp,u.rampDown,u.startRamp,u.stopRamp,u.upTime,u.downTime,u.startTime,u.hotCost,u.coldCost,u.hotHours,u.reserve,u.reservePrice,u.hours,u.output],JR z
 s:(∀ s∈u.segs.l,JR s.width/\JR s.price)/\u.segs.l.length<=M
 a:(∀ z∈u.away.l,JR z)/\u.away.l.length<=M
structure OutI(M:Nat)(o:OutD):Prop where
 l:o.lines.l.length<=M
 m:(∀ m∈o.moves.l,JR m.up/\JR m.down)/\o.moves.l.length<=M
structure BusI(M:Nat)(b:BusD):Prop where
 d:(∀ z∈b.demand.l,JR z)/\b.demand.l.length<=M
 s:JR b.shed
structure StoreI(M:Nat)(s:StoreD):Prop where
 n:∀ z∈[s.capacity,s.initial,s.final,s.charge,s.discharge,s.eff.num,s.eff.den],JR z
def Anj(M:Nat)(l:Sl Int):Prop:=(∀ z∈l.l,JR z)/\l.l.length<=M
structure TieI(M:Nat)(t:TieD):Prop where
 i:Anj M t.imp
 e:Anj M t.exp
 p:Anj M t.price
structure CaseI(M:Nat)(c:CaseD):Prop where
 h:JR c.hours
 r:Anj M c.reserve
 b:∀ b∈c.buses.l,BusI M b
 l:∀ l∈c.lines.l,LineI M l
 u:∀ u∈c.units.l,UnitI M u
 s:∀ s∈c.stores.l,StoreI M s
 t:∀ t∈c.ties.l,TieI M t
 o:∀ o∈c.outs.l,OutI M o
def Az5{s:Ar}(h:A1 s=true):Asf s:=by
 unfold A1 at h
 simp only[A81,decide_eq_true_eq]at h
 obtain⟨d,_,_,_,f⟩:=h
 refine⟨fun e=>by rw[e]at d;simp at d,fun e=>?_⟩
 have j:=Bdi e
 have:=A9b.1 f _ j
 revert this;decide
def Au6(a:Ar){b:Ar}(h:Asf b):Asf (a++b):=⟨by simp[h.1],by rw[CI h.1];exact h.2⟩
def A5z(w:Ar):Bool:=decide (w≠[])&&(decide (w.length<=16)&&w.all V_)
def ye{M:Nat}{P:Ar->Prop}{c:CaseD}(hI:CaseI M c)(j:∀ z,JR z->P (tx z))(v:∀ f:FracD,JR f.num->JR f.den->P (Oo f))(k:∀ w,A5z w=true->P w)(hn:∀ l∈Cz c,∀ s∈l,P s)(y:Tb c=true):∀ ws∈CH c,ws≠[]/\∀ x∈ws,P x:=by
 have A:∀{l:List Ar},l∈Cz c->∀{i:Int},Kf i l.length=true->P (Bw l i):=fun{l} q {i} hi=>by
  unfold Kf at hi
  simp only[A81,decide_eq_true_eq]at hi
  have D:i.toNat<l.length:=by omega
  unfold Bw
  rw[A9e,A84 D]
  exact hn l q _ (A9c D)
 have own:∀{l:List Ar},l∈Cz c->∀{s:Ar},s∈l->P s:=fun q _ hs=>hn _ q _ hs
 have txs:∀{l:List Int}{x:Ar},(∀ z∈l,JR z)->x∈l.map tx->P x:=fun q hx=>by
  obtain⟨z,T,rfl⟩:=A9p.1 hx;exact j z (q z T)
 unfold Tb at y
 simp only[A81,A9b]at y
 obtain⟨U,V,X,Y,k5⟩:=y
 have hB:Ci c∈Cz c:=by simp[Cz]
 have hL:D5 c∈Cz c:=by simp[Cz]
 have hU:Di c∈Cz c:=by simp[Cz]
 have hS:Y0 c∈Cz c:=by simp[Cz]
 have hT:rM c∈Cz c:=by simp[Cz]
 have hO:rN c∈Cz c:=by simp[Cz]
 have nB:(Ci c).length=c.buses.l.length:=by simp[Ci]
 have nL:(D5 c).length=c.lines.l.length:=by simp[D5]
 have nU:(Di c).length=c.units.l.length:=by simp[Di]
 intro ws B
 unfold CH at B
 simp only[A88,A87,A9p]at B
 rcases B with rfl|⟨b,I,rfl⟩|⟨l,q,rfl⟩|⟨u,C,rfl⟩|⟨s,hs,rfl⟩|⟨t,F,rfl⟩|⟨o,G,rfl⟩
 ·refine⟨by simp[Af8],fun x hx=>?_⟩
  unfold Af8 at hx
  simp only[A88,A87,A9v,or_false,or_assoc]at hx
  rcases hx with rfl|rfl|rfl|hx
  ·exact k _ (by decide)
  ·exact j _ hI.h
  ·exact k _ (by decide)
  ·exact txs hI.r.1 hx
 ·refine⟨by simp[nF],fun x hx=>?_⟩
  unfold nF at hx
  simp only[A88,A87,A9v,or_false,or_assoc]at hx
  rcases hx with rfl|rfl|rfl|hx|rfl|rfl
  ·exact k _ (by decide)
  ·exact own hB (A9p.2 ⟨b,I,rfl⟩)
  ·exact k _ (by decide)
  ·exact txs (hI.b b I).d.1 hx
  ·exact k _ (by decide)
  ·exact j _ (hI.b b I).s
 ·have hq:=U l q
  refine⟨by simp[Vp],fun x hx=>?_⟩
  unfold Vp at hx
  simp only[A88,A87,A9v,or_false,or_assoc]at hx
  rcases hx with rfl|rfl|rfl|rfl|rfl|rfl|rfl|rfl|rfl|rfl|rfl|rfl|rfl|hx
  ·exact k _ (by decide)
  ·exact own hL (A9p.2 ⟨l,q,rfl⟩)
  ·exact A hB (by rw[nB];exact hq.1)
  ·exact A hB (by rw[nB];exact hq.2)
  ·exact k _ (by decide)
  ·exact v _ (hI.l l q).f1.1 (hI.l l q).f1.2
  ·exact k _ (by decide)
  ·exact v _ (hI.l l q).f2.1 (hI.l l q).f2.2
  ·exact v _ (hI.l l q).f3.1 (hI.l l q).f3.2
  ·exact k _ (by decide)
  ·exact j _ (hI.l l q).n.1
  ·exact j _ (hI.l l q).n.2
  ·exact k _ (by decide)
  ·exact txs (hI.l l q).a.1 hx
 ·have hq:=V u C
  have L:∀ x∈DX u.state,P x:=fun x hx=>by
   unfold DX at hx
   split at hx
   ·rw[Bbb]at hx;subst hx;exact k _ (by decide)
   ·split at hx
    ·rw[Bbb]at hx;subst hx;exact k _ (by decide)
    ·split at hx
     ·rw[Bbb]at hx;subst hx;exact k _ (by decide)
     ·cases hx
  refine⟨by simp[Ps],fun x hx=>?_⟩
  unfold Ps at hx
  simp only[A88,A87,A9v,or_false,or_assoc,Bce]at hx
  rcases hx with rfl|rfl|rfl|rfl|rfl|rfl|rfl|rfl|⟨s,hs,hx⟩|rfl|rfl|rfl|rfl|rfl|rfl|rfl|rfl|rfl|rfl|rfl|rfl|rfl|rfl|rfl|rfl|rfl|rfl|rfl|rfl|rfl|hx|rfl|hx|rfl|rfl
  all_goals first
   |exact j _ ((hI.u u C).n _ (by simp))
   |exact k _ (by decide)
   |exact own hU (A9p.2 ⟨u,C,rfl⟩)
   |exact A hB (by rw[nB];exact hq.1)
   |exact txs (hI.u u C).a.1 hx
   |exact L _ hx
   |skip
  simp only[Adt,A88,A9v,or_false,or_assoc]at hx
  rcases hx with rfl|rfl
  ·exact j _ ((hI.u u C).s.1 s hs).1
  ·exact j _ ((hI.u u C).s.1 s hs).2
 ·have hq:=X s hs
  refine⟨by simp[Kk],fun x hx=>?_⟩
  unfold Kk at hx
  simp only[A88,A9v,or_false,or_assoc]at hx
  rcases hx with rfl|rfl|rfl|rfl|rfl|rfl|rfl|rfl|rfl|rfl|rfl|rfl|rfl
  all_goals first
   |exact j _ ((hI.s s hs).n _ (by simp))
   |exact k _ (by decide)
   |exact v _ ((hI.s s hs).n _ (by simp)) ((hI.s s hs).n _ (by simp))
   |exact own hS (A9p.2 ⟨s,hs,rfl⟩)
   |exact A hB (by rw[nB];exact hq)
 ·have hq:=Y t F
  refine⟨by simp[GK],fun x hx=>?_⟩
  unfold GK at hx
  simp only[A88,A87,A9v,or_false,or_assoc]at hx
  rcases hx with rfl|rfl|rfl|rfl|hx|rfl|hx|rfl|hx
  all_goals first
   |exact txs (hI.t t F).i.1 hx
   |exact txs (hI.t t F).e.1 hx
   |exact txs (hI.t t F).p.1 hx
   |exact k _ (by decide)
   |exact own hT (A9p.2 ⟨t,F,rfl⟩)
   |exact A hB (by rw[nB];exact hq)
 ·have hq:=k5 o G
  refine⟨by simp[U3],fun x hx=>?_⟩
  unfold U3 at hx
  simp only[A88,A87,A9v,or_false,or_assoc,A9p,Bce]at hx
  rcases hx with rfl|rfl|rfl|⟨l,q,rfl⟩|hx|⟨m,S,hx⟩
  ·exact k _ (by decide)
  ·exact own hO (A9p.2 ⟨o,G,rfl⟩)
  ·exact k _ (by decide)
  ·exact A hL (by rw[nL];exact hq.1 l q)
  ·cases hc:o.corr<;>rw[hc]at hx
   ·cases hx
   ·rw[cond_true,Bbb]at hx;subst hx;exact k _ (by decide)
  ·simp only[NC,A88,A9v,or_false,or_assoc]at hx
   rcases hx with rfl|rfl|rfl
   ·exact A hU (by rw[nU];exact hq.2 m S)
   ·exact j _ ((hI.o o G).m.1 m S).1
   ·exact j _ ((hI.o o G).m.1 m S).2
structure Passed(M:Nat)(c:CaseD):Prop where
 i:CaseI M c
 txt:∀ z,Asf (tx z)
 names:∀ l∈Cz c,∀ s∈l,A1 s=true
 known:Tb c=true
def Ai7(ws:List Ar):Prop:=∃ w r,ws=w::r/\Asf w/\∀ x∈r,Asf x
def Ash:∀{ws:List Ar},ws≠[]->(∀ x∈ws,Asf x)->Ai7 ws
|[],h,_=>absurd rfl h
|w::r,_,hs=>⟨w,r,rfl,hs w (by simp),fun x hx=>hs x (by simp[hx])⟩
def A6a{w:Ar}(h:A5z w=true):Asf w:=by
 unfold A5z at h
 simp only[A81,decide_eq_true_eq,A9b]at h
 refine⟨h.1,fun e=>?_⟩
 have:=h.2.2 _ (Bdi e)
 revert this;decide
def Passed.lines{M:Nat}{c:CaseD}(h:Passed M c):∀ ws∈CH c,Ai7 ws:=fun ws d=>by
 obtain⟨e,j⟩:=ye h.i (fun z _=>h.txt z) (fun f _ _=>Au6 (tx f.num) (b:=47::tx f.den) (Au6 [47] (h.txt f.den))) (fun w d=>A6a d) (fun l k s hs=>Az5 (h.names l k s hs)) h.known ws d
 exact Ash e j
def Js(t:Lu)(ls:List (List Ar)):Lu:=ls.foldl (fun t ws=>D_ (ws.foldl Dj t)) t
def Aga:∀(ls:List (List Ar)){t T:Lu},Rel t T->xC T->(∀ ws∈ls,Ai7 ws)->Rel (Js t ls) (T++ls.flatMap Wp)
|[],t,T,h,_,_=>by rw[Bbn,A9g];exact h
|ws::r,t,T,h,h0,hs=>by
  obtain⟨w,d,rfl,e,f⟩:=hs ws (by simp)
  have:=Aga r (h.line h0 e f) (Asg (w::d)) fun x hx=>hs x (by simp[hx])
  rw[A9l]at this
  rw[A9o]
  exact this
def Az6{M:Nat}{c:CaseD}(h:Passed M c):Rel (Js [] (CH c)) (FF c):=by
 have:=Aga (CH c) (t:=[]) (T:=[]) (.inl rfl) (.inl rfl) h.lines
 exact this
def Rel.out{t T:Lu}(h:Rel t T):(1048576<t.length↔1048576<T.length)/\(t.length<=1048576->t=T):=by
 rcases h with rfl|⟨d,e⟩
 ·exact⟨Iff.rfl,fun _=>rfl⟩
 ·exact⟨⟨fun _=>e,fun _=>d⟩,fun h=>absurd h (by omega)⟩
end Gx.Ct
namespace Gx
def val:List Nat->Nat
|[]=>0
|x::r=>x+4294967296*val r
def Bi(l:List Nat):Prop:=∀ x∈l,x<4294967296
def Ank:Nat->Nat->List Nat
|0,_=>[]
|f+1,n=>if n=0 then []else n%4294967296::Ank f (n/4294967296)
def Ch(n:Nat):List Nat:=Ank n n
def Au7:∀(f n:Nat),n<=f->∀ g,n<=g->Ank f n=Ank g n
|0,n,h,g,_=>by
  have:n=0:=by omega
  subst this;cases g<;>simp[Ank]
| f+1,n,h,g,d=>by
  by_cases h0:n=0
  ·subst h0;cases g<;>simp[Ank]
  ·cases g with
   |zero=>omega
   |succ g=>simp only[Ank,h0,if_false];rw[Au7 f _ (by omega) g (by omega)]
def K4:Ch 0=[]:=rfl
def NF{n:Nat}(h:n≠0):Ch n=n%4294967296::Ch (n/4294967296):=by
 unfold Ch
 cases n with
|zero=>omega
|succ n=>simp only[Ank,h,if_false];rw[Au7 n _ (by omega) ((n+1)/4294967296) (by omega)]
def Bx:∀ n,val (Ch n)=n:=by
 intro n
 induction n using Nat.strongRecOn with
|_ n d =>
  by_cases h:n=0
  ·subst h;rfl
  ·rw[NF h,val,d _ (by omega)];omega
def Cl:∀ n,Bi (Ch n):=by
 intro n
 induction n using Nat.strongRecOn with
| _ n d =>
  by_cases h:n=0
  ·subst h;intro x hx;simp[K4]at hx
  ·rw[NF h];intro x hx
   simp at hx
   rcases hx with rfl|hx
   ·omega
   ·exact d _ (by omega) x hx
def gN:Bi []:=by intro x hx;simp at hx
def Qn{x:Nat}{r:List Nat}:Bi (x::r)↔x<4294967296/\Bi r:=by simp[Bi]
def WC{a:List Nat}(h:Bi a)(n:Nat):Bi (a.take n):=fun x hx=>h x (Bb5 hx)
def Y2{a:List Nat}(h:Bi a){i:Nat}(hi:i<a.length):a[i]<4294967296:=h _ (A9c hi)
def Y3{a:List Nat}(h:Bi a){v:Nat}(e:v<4294967296)(i:Nat):Bi (a.set i v):=fun x hx=>by
 rcases List.mem_or_eq_of_mem_set hx with d|d
 ·exact h x d
 ·omega
def EA(n:Nat):Bi (replicate n 0):=fun x hx=>by simp at hx;omega
def yf:∀(a b:List Nat),val (a++b)=val a+4294967296 ^ a.length*val b
|[],b=>by simp[val]
|x::r,b=>by
  simp only[A9k,val,A83,yf r b,Ba5]
  rw[Bbi,<-A97,<-Ba2];congr 2;rw[Bbp]
def AQ:∀ n,val (replicate n 0)=0
|0=>rfl
|n+1=>by rw[Bb7,val,AQ n]
def dC:∀{a:List Nat},Bi a->val a<4294967296 ^ a.length
|[],_=>by simp[val]
|x::r,h=>by
  have d:=Qn.1 h
  have e:=dC d.2
  rw[val,A83,Ba5]
  omega
def Asi(a:List Nat)(x:Nat):val (a++[x])=val a+4294967296 ^ a.length*x:=by rw[yf];simp[val]
def Asj{n:Nat}(h:n≠0):Ch n≠[]:=by rw[NF h];simp
def yg{n:Nat}:Ch n=[]↔n=0:=by
 constructor
 ·intro h;by_cases h0:n=0;exact h0;exact absurd h (Asj h0)
 ·intro h;rw[h];rfl
def Oq{n:Nat}:(Ch n).length=0↔n=0:=by rw[Bbr,yg]
def Pv:∀{l:List Nat},Bi l->l=Ch (val l)++replicate (l.length - (Ch (val l)).length) 0/\(Ch (val l)).length<=l.length
|[],_=>by simp[val,K4]
| x::r,h=>by
  have e:=Qn.1 h
  obtain⟨d,f⟩:=Pv e.2
  rw[val]
  by_cases h0:x+4294967296*val r=0
  ·have hx:x=0:=by omega
   have hr:val r=0:=by omega
   rw[h0,K4]
   rw[hr,K4]at d
   simp at d
   subst hx
   refine⟨?_,by simp⟩
   rw[A9t,A9m,Nat.sub_zero,A83,Bb7,<-d]
  ·rw[NF h0,show(x+4294967296*val r)%4294967296=x by omega,show(x+4294967296*val r)/4294967296=val r by omega]
   refine⟨?_,by simp;exact f⟩
   rw[A9k,A83,A83,Nat.add_sub_add_right,<-d]
def A4u:∀{l:List Nat},Bi l->(∀ h:l≠[],l.getLast h≠0)->Ch (val l)=l:=by
 intro l h n
 obtain⟨d,q⟩:=Pv h
 by_cases j:l.length - (Ch (val l)).length=0
 ·rw[j]at d;simpa using d.symm
 ·exfalso
  obtain⟨k,j⟩:=Nat.exists_eq_succ_of_ne_zero j
  rw[j,List.replicate_succ',<-A9l]at d
  have f:l≠[]:=by intro e;rw[e]at d;simp at d
  apply n f
  have m:l.getLast?=some 0:=by rw[d,Bch];rfl
  rw[List.getLast?_eq_some_getLast f]at m
  simpa using m
def dD {n k:Nat} (h:n<4294967296 ^ k):(Ch n).length<=k:=by
  induction k generalizing n with
  | zero => have : n = 0 := by simpa using h
            subst this;simp[K4]
  | succ k d =>
    by_cases h0:n=0
    · subst h0;simp[K4]
    · rw[NF h0,A83]
      have:n/4294967296<4294967296 ^ k:=by
        rw[Ba5]at h
        exact Nat.div_lt_of_lt_mul (by rw[Bbp];exact h)
      have:=d this
      omega
def j3{a b:Nat}(h:a<=b):(Ch a).length<=(Ch b).length:=by
 apply dD
 have:=dC (Cl b)
 rw[Bx]at this
 omega
end Gx
namespace Gx
open Go
section
variable{R:Type}
def Bu(l:List Nat):LA:=l.map fun n:Nat=>.int .u32 (n:Int)
def gP(x:Nat)(l:List Nat):Bu (x::l)=.int .u32 (x:Int)::Bu l:=rfl
def NG(l:List Nat):(Bu l).length=l.length:=by simp[Bu]
def Aw8(l:List Nat)(n:Nat):(Bu l).drop n=Bu (l.drop n):=by simp[Bu,List.map_drop]
def Agb(l:List Nat)(n:Nat):(Bu l).take n=Bu (l.take n):=by simp[Bu,List.map_take]
def Anl(l:List Nat)(j:Nat)(v:Nat):List.set (Bu l) j (.int .u32 (v:Int))=Bu (l.set j v):=by simp[Bu,List.map_set]
def JT(n:Nat):replicate n (AV.int .u32 0)=Bu (replicate n 0):=by simp[Bu]
def Az7{l:List Nat}{i:Nat}(h:i<l.length){f:Int->O R}:As .u32 (drop i (Bu l)) f=f (l[i]:Nat):=by rw[Aw8,Bai h,gP,A7]
def t8:∀ l:List Nat,A0 (Bu l)=true
|[]=>rfl
|x::r=>by rw[gP,A0];exact t8 r
def Aw9(a b:Nat):(a:Int)+(b:Int)=((a+b:Nat):Int):=by omega
def A6b(a b:Nat):(a:Int)*(b:Int)=((a*b:Nat):Int):=by simp
def t_{a:Nat}(h:a<18446744073709551616):wrap .u64 (a:Int)=(a:Int):=wrap_u64 a h
def A65{a:Nat}(h:a<4294967296):wrap .u32 (a:Int)=(a:Int):=wrap_u32 a h
def Az8(a:Nat):wrap .u32 (a:Int)=((a%4294967296:Nat):Int):=Aw1 a
def yh(a:Int):wrap .u64 a=a%18446744073709551616:=IntKind.wrap_u64 a
def Az9{a b:Nat}(d:a<18446744073709551616)(e:b<=a):wrap .u64 ((a:Int) - (b:Int))=((a - b:Nat):Int):=by rw[yh];omega
def A0a{a b:Nat}(h:a<b)(d:b<=18446744073709551616):wrap .u64 ((a:Int) - (b:Int))=((18446744073709551616+a - b:Nat):Int):=by rw[yh];omega
def A2r(a:Nat):Int.fdiv (a:Int) (2 ^ 32)=((a/4294967296:Nat):Int):=Anc a 32
def A6c(a:Nat):Int.fdiv (a:Int) (2 ^ 63)=((a/9223372036854775808:Nat):Int):=Anc a 63
def i64{a:Int}(h:-9223372036854775808<=a/\a<=9223372036854775807):wrap .i64 a=a:=wrap_i64 a h
def A4v{a b:Nat}(d:a<18446744073709551616)(e:b<18446744073709551616):MQ .u64 (a:Int) (b:Int)=((a ||| b:Nat):Int):=Aw2 rfl d e
def A4w{a b k:Nat}(h:b<2 ^ k):a*2 ^ k ||| b=a*2 ^ k+b:=by rw[<-Nat.shiftLeft_eq,Nat.shiftLeft_add_eq_or_of_lt h]
end
end Gx
namespace Gx
open Go Go.Proofs
set_option maxRecDepth 100000
noncomputable section
variable{R:Type}(N:Nat)
def WD(N:Nat)(r0:Nat->O R)(a:Nat)(b:LA)(k0:Int->O R)(c:Int):O R:=(cond ((decide (c>0))==true) (cond (Ad (wrap .i64 (c - 1)) a) (As .u32 (b.drop (0+(((wrap .i64 (c - 1)).toNat)*1))) fun d=>cond (cond true (d==0) false) (k0 (wrap .i64 (c - 1))) (cond ((decide ((0:Int)<=(0:Int)))&&((decide (0<=c))&&((decide (c<=(a:Int)))&&(decide ((a:Int)<=(a:Int)))))) (r0 c.toNat) none)) none) (cond ((decide ((0:Int)<=(0:Int)))&&((decide (0<=c))&&((decide (c<=(a:Int)))&&(decide ((a:Int)<=(a:Int)))))) (r0 c.toNat) none))
def Y4(r0:Nat->O R)(a:Nat)(b:LA):Nat->Int->O R
|0=>fun _=>none
|n+1=>WD N r0 a b (Y4 r0 a b n)
def nH(N:Nat)(r0:Nat->O R)(q0:Int->O R)(a:Nat)(b:LA):O R:=(q0 (a:Int))
def JU:=(Ac fun N a b r0=>nH (R:=R) N r0 (Y4 N r0 a b N) a b).1
def lC(a b r0):(@JU R N a b r0)=(nH N r0 (Y4 N r0 a b N) a b):=by rw[JU,(Ac _).2]
def Axa(F:KF R):=Iq Tryz.f206 Af4 [] [100000] N F
def gQ(b:LA)(F:KF R):Nat->O R:=fun f=>F (.own 100000 0 f) [(100000,bQ 1 b)]
def Axb(a:Nat)(b:LA)(K:St->O R):=fun c=>K ⟨[(0,.own 100000 0 a),(3,iv c)],[(100000,bQ 1 b)]⟩
def Ai8(F:KF R)(a b):∀ n,Axb a b (Ak (Axa N F (pz 336) []) n)=(Y4 N (gQ b F) a b n):=Ds fun n e=>(Bs (WD N (gQ b F) a b) e:_)
def nI:=B4 N 206 [] Af4 (fun
|[.own 100000 0 a],[(100000,⟨false,false,true,false,1,b,false,none⟩)]=>some fun _ k=>JU N a b (gQ b k)
| _,_=>none) fun _ _=>by split;rename_i a b;intro R F;exact(Bs (nH N (gQ b F) · a b) ((lW ..).trans (Ai8 ..)):_).trans (lC ..).symm;trivial
def JV(a:Int)(r0:Nat->LA->O R):O R:=(JU N 2 [.int .u32 (wrap .u32 a),.int .u32 (wrap .u32 (Int.fdiv a (2 ^ 32)))] fun b=>r0 b [.int .u32 (wrap .u32 a),.int .u32 (wrap .u32 (Int.fdiv a (2 ^ 32)))])
def Du:=(Ac (@JV R)).1
def NH:@Du R=@JV R:=(Ac _).2
def Kp:=B4 N 191 [nI N] Azu (fun
|[.int .u64 a],[]=>some fun _ k=>Du N a (Em k)
| _,_=>none) fun _ _=>by split;intro R F;dsimp only;rw[NH];kernel_rfl;trivial
def lD(N:Nat)(c:Bool)(a:Nat)(b:LA)(r0:Bool->O R):O R:=(cond (c==true) (r0 (cond true (decide ((a:Int)>0)) false)) (r0 false))
def Mj:=(Ac (@lD R)).1
def j4:@Mj R=@lD R:=(Ac _).2
def Ai9(a:Nat)(b:LA)(F:KF R):Bool->O R:=fun d=>F (.agg [.bool d,.own 100000 0 a]) [(100000,bQ 1 b)]
def CJ:=B4 N 190 [] Bt (fun
|[.bool c,.own 100000 0 a],[(100000,⟨false,false,true,false,1,b,false,none⟩)]=>some fun _ k=>Mj N c a b (Ai9 a b k)
| _,_=>none) fun _ _=>by split;intro R F;dsimp only;rw[j4];kernel_rfl;trivial
def dE(a:Int)(r0:Bool->Nat->LA->O R):O R:=(cond (decide (a<0)) (Du N (wrap .u64 ((0:Int) - (wrap .u64 a))) fun b c=>Mj N true b c fun f=>r0 f b c) (Du N (wrap .u64 a) fun d e=>Mj N false d e fun g=>r0 g d e))
def Jt:=(Ac (@dE R)).1
def dF:@Jt R=@dE R:=(Ac _).2
def GM:=B4 N 161 [Kp N,CJ N] Bt (fun
|[.int .i64 a],[]=>some fun _ k=>Jt N a (mZ k)
| _,_=>none) fun _ _=>by split;intro R F;dsimp only;rw[dF];kernel_rfl;trivial
def AR(N:Nat)(r0:LA->Nat->O R)(c:LA)(a:Nat)(d b:Bool)(k0:Int->O R)(f:Int):O R:=(cond ((decide (f>0))==true) (cond (Ad (wrap .i64 (f - 1)) a) (As .u32 (c.drop (((wrap .i64 (f - 1)).toNat)*1)) fun g=>cond (cond true (g==0) false) (k0 (wrap .i64 (f - 1))) (cond ((decide ((0:Int)<=(0:Int)))&&((decide (0<=f))&&((decide (f<=(a:Int)))&&(decide ((a:Int)<=(a:Int)))))) (r0 (c.take (f.toNat*1)) f.toNat) none)) none) (cond ((decide ((0:Int)<=(0:Int)))&&((decide (0<=f))&&((decide (f<=(a:Int)))&&(decide ((a:Int)<=(a:Int)))))) (r0 (c.take (f.toNat*1)) f.toNat) none))
def Nm(r0:LA->Nat->O R)(c:LA)(a:Nat)(d b:Bool):Nat->Int->O R
|0=>fun _=>none
|n+1=>AR N r0 c a d b (Nm r0 c a d b n)
def WE(N:Nat)(r0:LA->Nat->O R)(q0:Int->O R)(c:LA)(a:Nat)(d b:Bool):O R:=(q0 (a:Int))
def D6:=(Ac fun N c a d b r0=>WE (R:=R) N r0 (Nm N r0 c a d b N) c a d b).1
def j5(c a d b r0):(@D6 R N c a d b r0)=(WE N r0 (Nm N r0 c a d b N) c a d b):=by rw[D6,(Ac _).2]
def Aja(F:KF R):=Iq Tryz.f206 Af4 [] [] N F
def GN(b:Bool)(F:KF R):LA->Nat->O R:=fun h i=>F (.imm h i 1 false b) []
def Ajb(c:LA)(a:Nat)(d b:Bool)(K:St->O R):=fun f=>K ⟨[(0,.imm c a 1 d b),(3,iv f)],[]⟩
def v7(F:KF R)(c a d b):∀ n,Ajb c a d b (Ak (Aja N F (pz 336) []) n)=(Nm N (GN b F) c a d b n):=Ds fun n e=>(Bs (AR N (GN b F) c a d b) e:_)
def Qo:=B4 N 206 [] Af4 (fun
|[.imm c a 1 d b],[]=>some fun _ k=>D6 N c a d b (GN b k)
| _,_=>none) fun _ _=>by split;rename_i c a d b;intro R F;exact(Bs (WE N (GN b F) · c a d b) ((lW ..).trans (v7 ..)):_).trans (j5 ..).symm;trivial
def WF(N:Nat)(k1:Nat->Int->Int->LA->O R)(r0:Nat->LA->O R)(f:LA)(a:Nat)(c:Bool)(i:Nat)(h l:Int)(g:LA)(b:Nat)(d:Bool)(j:Int)(k2:Int->Int->Int->LA->O R)(w x m:Int)(u:LA):O R:=(cond (decide (m<x)) (cond (Ad m a) (As .u32 (f.drop (m.toNat*1)) fun y=>cond (Ad (wrap .i64 (h+m)) i) (As .u32 (u.drop (0+(((wrap .i64 (h+m)).toNat)*1))) fun z=>cond (Ad (wrap .i64 (h+m)) i) (cond ((beq 1 1)&&((ble ((0+(((wrap .i64 (h+m)).toNat)*1))+1) u.length)&&(!false))) (k2 (Int.fdiv (wrap .u64 (w+(wrap .u64 ((wrap .u64 ((wrap .u64 l)*(wrap .u64 y)))+(wrap .u64 z))))) (2 ^ 32)) x (wrap .i64 (m+1)) (u.set (0+(((wrap .i64 (h+m)).toNat)*1)) (.int .u32 (wrap .u32 (wrap .u64 (w+(wrap .u64 ((wrap .u64 ((wrap .u64 l)*(wrap .u64 y)))+(wrap .u64 z))))))))) none) none) none) none) (cond (Ad (wrap .i64 (h+(a:Int))) i) (cond ((beq 1 1)&&((ble ((0+(((wrap .i64 (h+(a:Int))).toNat)*1))+1) u.length)&&(!false))) (k1 i j (wrap .i64 (h+1)) (u.set (0+(((wrap .i64 (h+(a:Int))).toNat)*1)) (.int .u32 (wrap .u32 w)))) none) none))
def Y5(k1:Nat->Int->Int->LA->O R)(r0:Nat->LA->O R)(f:LA)(a:Nat)(c:Bool)(i:Nat)(h l:Int)(g:LA)(b:Nat)(d:Bool)(j:Int):Nat->Int->Int->Int->LA->O R
|0=>fun _ _ _ _=>none
|n+1=>WF N k1 r0 f a c i h l g b d j (Y5 k1 r0 f a c i h l g b d j n)
def JW(r0:Nat->LA->O R)(f:LA)(a:Nat)(c:Bool)(g:LA)(b:Nat)(d:Bool)(k1:Nat->Int->Int->LA->O R)(q2:Nat->Int->Int->Int->Int->Int->Int->LA->O R)(i:Nat)(j h:Int)(v:LA):O R:=(cond (decide (h<j)) (cond (Ad h b) (As .u32 (g.drop (h.toNat*1)) fun l=>cond (l==0) (k1 i j (wrap .i64 (h+1)) v) (q2 i h l j 0 (a:Int) 0 v)) none) (JU N i v fun aa=>r0 aa v))
def Sb(r0:Nat->LA->O R)(f:LA)(a:Nat)(c:Bool)(g:LA)(b:Nat)(d:Bool):Nat->Nat->Int->Int->LA->O R
|0=>fun _ _ _ _=>none
|n+1=>JW N r0 f a c g b d (Sb r0 f a c g b d n) (fun i h l j=>Y5 N (Sb r0 f a c g b d n) r0 f a c i h l g b d j N)
def lE(N:Nat)(r0:Nat->LA->O R)(g:LA)(b:Nat)(d:Bool)(f:LA)(a:Nat)(c:Bool)(q1:Nat->Int->Int->LA->O R):O R:=(cond ((decide (0<=(wrap .i64 ((b:Int)+(a:Int)))))&&((decide ((wrap .i64 ((b:Int)+(a:Int)))<=(wrap .i64 ((b:Int)+(a:Int)))))&&((decide ((wrap .i64 ((b:Int)+(a:Int)))<=140737488355328))&&(decide (((wrap .i64 ((b:Int)+(a:Int)))*((4:Nat):Int))<=140737488355328))))) (q1 ((wrap .i64 ((b:Int)+(a:Int))).toNat) (b:Int) 0 (replicate ((wrap .i64 ((b:Int)+(a:Int))).toNat) (.int .u32 0))) none)
def gR(r0:Nat->LA->O R)(g:LA)(b:Nat)(d:Bool)(f:LA)(a:Nat)(c:Bool):O R:=lE N r0 g b d f a c (Sb N r0 f a c g b d N)
def gV(r0:Nat->LA->O R)(q0:LA->Nat->LA->Nat->O R)(o:LA)(p:Nat)(q d:Bool)(r:LA)(s:Nat)(t c:Bool):O R:=(D6 N o p q d fun g b=>D6 N r s t c fun f a=>cond (((b:Int)==0)==false) (cond (cond false true ((a:Int)==0)) (r0 0 []) (q0 g b f a)) (r0 0 []))
def dG:=(Ac fun N o p q d r s t c r0=>gV (R:=R) N r0 (fun g b f a=>gR N r0 g b d f a c) o p q d r s t c).1
def WG(o p q d r s t c r0):(@dG R N o p q d r s t c r0)=(gV N r0 (fun g b f a=>gR N r0 g b d f a c) o p q d r s t c):=by rw[dG,(Ac _).2]
def Agc:Hints:={H:=hK 2 (hJ [0,1] hL (hK 1 (hS (hK 1 (hS (hP [1,5,29,30,31] (hK 2 (hS (hS (hK 3 (hS (hK 1 (hS (hP [1,5,6,7,8,29,30,31,38,39,40] hL) hL)) hL)) hL) hL))) hL)) hL))),nils:=[(4,1)],modes:=[(2,1)]}
def Iz:=A5y (Qo N) (nI N) (Eq.refl 206)
def Anm:O6:=[Iz N]
def rQ(F:KF R):=Iq Tryz.f182 Agc (Anm N) [] N F
def Axc(f:LA)(a:Nat)(c:Bool)(i:Nat)(h l:Int)(g:LA)(b:Nat)(d:Bool)(j:Int)(K:St->O R):=fun w x m u=>K ⟨[(1,.imm f a 1 false c),(5,Bff 0 i),(6,iv h),(7,.int .u32 l),(8,.int .u64 w),(29,.imm g b 1 false d),(30,iv j),(31,iv h),(38,.imm f a 1 false c),(39,iv x),(40,iv m)],hq [bQ 1 u]⟩
def rR(f:LA)(a:Nat)(c:Bool)(g:LA)(b:Nat)(d:Bool)(K:St->O R):=fun i j h v=>K ⟨[(1,.imm f a 1 false c),(5,Bff 0 i),(29,.imm g b 1 false d),(30,iv j),(31,iv h)],hq [bQ 1 v]⟩
def Axd(g:LA)(b:Nat)(d:Bool)(f:LA)(a:Nat)(c:Bool)(K:St->O R):=K ⟨[(0,.imm g b 1 false d),(1,.imm f a 1 false c)],[]⟩
def Ajc Q1 (F:KF R) (f a c i h l g b d j):∀ n,Axc f a c i h l g b d j (Ak (rQ N F (pz 91553596740) [Q1]) n)=(Y5 N (rR f a c g b d Q1) (Em F) f a c i h l g b d j n):=Ds fun n e=>(Bs (WF N (rR f a c g b d Q1) (Em F) f a c i h l g b d j) e:_)
def Ajd(F:KF R)(f a c g b d):∀ n,rR f a c g b d (Ak (rQ N F (pz 21828) []) n)=(Sb N (Em F) f a c g b d n):=Ds fun n e=>(Xs (JW N (Em F) f a c g b d) e (Aip fun i h l j=>(lW ..).trans ((Ajc ..).trans (rB (Y5 _ · _ _ _ _ _ _ _ _ _ _ _ _) e))):_)
def Aje(F:KF R)(g b d f a c):Axd g b d f a c (Bo (rQ N F (pz 85) []))=(gR N (Em F) g b d f a c):=(Bs (lE N (Em F) g b d f a c) ((lW ..).trans (Ajd ..)):_)
def yi:=B4 N 182 (Anm N) Agc (fun
|[.imm o p 1 q d,.imm r s 1 t c],[]=>some fun _ k=>dG N o p q d r s t c (Em k)
| _,_=>none) fun _ _=>by split;intro R F;exact(Bs (gV N (Em F) · _ _ _ _ _ _ _ _) (Aip fun g b f a=>(jW ..).trans (Aje ..)):_).trans (WG ..).symm;trivial
def Ajf(a:LA)(c:Bool)(b:LA)(d:Bool)(r0:Bool->Nat->LA->O R):O R:=(RL a fun g=>RL b fun h=>Bh 1 (a.drop 1) fun i j=>Bh 1 (b.drop 1) fun l m=>dG N i j false c l m false d fun e f=>Mj N (!(g==h)) e f fun n=>r0 n e f)
def JX:=(Ac (@Ajf R)).1
def yj:@JX R=@Ajf R:=(Ac _).2
def nK:=B4 N 165 [yi N,CJ N] Bt (fun
|[.pagg a c,.pagg b d],[]=>some fun _ k=>JX N a c b d (mZ k)
| _,_=>none) fun _ _=>by split;intro R F;dsimp only;rw[yj];kernel_rfl;trivial
def yk(c:LA)(d:Nat)(e b:Bool)(r0:Nat->LA->O R):O R:=(D6 N c d e b fun f a=>cond ((decide (0<=(a:Int)))&&((decide ((a:Int)<=(a:Int)))&&((decide ((a:Int)<=140737488355328))&&(decide (((a:Int)*((4:Nat):Int))<=140737488355328))))) (cond ((!b)||(A0 f)) (r0 a (C3 (replicate a (.int .u32 0)) 0 (f.take ((min a a)*1)))) none) none)
def NI:=(Ac (@yk R)).1
def ta:@NI R=@yk R:=(Ac _).2
def SE:=B4 N 196 [Qo N] Azu (fun
|[.imm c d 1 e b],[]=>some fun _ k=>NI N c d e b (Em k)
| _,_=>none) fun _ _=>by split;intro R F;dsimp only;rw[ta];kernel_rfl;trivial
def Ajg(a:LA)(b:Bool)(r0:Bool->Nat->LA->O R):O R:=(RL a fun e=>Bh 1 (a.drop 1) fun f g=>NI N f g false b fun c d=>Mj N (!e) c d fun h=>r0 h c d)
def rS:=(Ac (@Ajg R)).1
def ym:@rS R=@Ajg R:=(Ac _).2
def Ann:=B4 N 166 [SE N,CJ N] Bt (fun
|[.pagg a b],[]=>some fun _ k=>rS N a b (mZ k)
| _,_=>none) fun _ _=>by split;intro R F;dsimp only;rw[ym];kernel_rfl;trivial
def JY(r0:Nat->LA->O R)(b:LA)(a:Nat)(d:Bool)(f:LA)(c:Nat)(g:Bool)(k1:Nat->Int->Int->Int->LA->O R)(m:Nat)(o v h:Int)(l:LA):O R:=(cond (decide (h<v)) (cond (Ad h a) (As .u32 (b.drop (h.toNat*1)) fun w=>cond (decide (h<(c:Int))) (cond (Ad h c) (As .u32 (f.drop (h.toNat*1)) fun z=>cond (Ad h m) (cond ((beq 1 1)&&((ble ((0+(h.toNat*1))+1) l.length)&&(!false))) (k1 m (Int.fdiv (wrap .u64 ((wrap .u64 (o+(wrap .u64 w)))+(wrap .u64 z))) (2 ^ 32)) v (wrap .i64 (h+1)) (l.set (0+(h.toNat*1)) (.int .u32 (wrap .u32 (wrap .u64 ((wrap .u64 (o+(wrap .u64 w)))+(wrap .u64 z))))))) none) none) none) (cond (Ad h m) (cond ((beq 1 1)&&((ble ((0+(h.toNat*1))+1) l.length)&&(!false))) (k1 m (Int.fdiv (wrap .u64 (o+(wrap .u64 w))) (2 ^ 32)) v (wrap .i64 (h+1)) (l.set (0+(h.toNat*1)) (.int .u32 (wrap .u32 (wrap .u64 (o+(wrap .u64 w))))))) none) none)) none) (cond (Ad (a:Int) m) (cond ((beq 1 1)&&((ble ((0+(a*1))+1) l.length)&&(!false))) (JU N m (l.set (0+(a*1)) (.int .u32 (wrap .u32 o))) fun ac=>r0 ac (l.set (0+(a*1)) (.int .u32 (wrap .u32 o)))) none) none))
def Y6(r0:Nat->LA->O R)(b:LA)(a:Nat)(d:Bool)(f:LA)(c:Nat)(g:Bool):Nat->Nat->Int->Int->Int->LA->O R
|0=>fun _ _ _ _ _=>none
|n+1=>JY N r0 b a d f c g (Y6 r0 b a d f c g n)
def lF(N:Nat)(r0:Nat->LA->O R)(q1:LA->Nat->Bool->LA->Nat->Bool->Nat->Int->Int->Int->LA->O R)(b:LA)(a:Nat)(d:Bool)(f:LA)(c:Nat)(g:Bool):O R:=(cond ((decide (0<=(wrap .i64 ((a:Int)+1))))&&((decide ((wrap .i64 ((a:Int)+1))<=(wrap .i64 ((a:Int)+1))))&&((decide ((wrap .i64 ((a:Int)+1))<=140737488355328))&&(decide (((wrap .i64 ((a:Int)+1))*((4:Nat):Int))<=140737488355328))))) (q1 b a d f c g ((wrap .i64 ((a:Int)+1)).toNat) 0 (a:Int) 0 (replicate ((wrap .i64 ((a:Int)+1)).toNat) (.int .u32 0))) none)
def SF(r0:Nat->LA->O R)(b:LA)(a:Nat)(d:Bool)(f:LA)(c:Nat)(g:Bool):O R:=lF N r0 (fun b a d f c g=>Y6 N r0 b a d f c g N) b a d f c g
def nM(r0:Nat->LA->O R)(q0:LA->Nat->Bool->LA->Nat->Bool->O R)(p:LA)(q:Nat)(r i:Bool)(s:LA)(t:Nat)(u j:Bool):O R:=(D6 N p q r i fun aa x=>D6 N s t u j fun ab y=>cond (decide ((x:Int)<(y:Int))) (q0 ab y j aa x i) (q0 aa x i ab y j))
def yn:=(Ac fun N p q r i s t u j r0=>nM (R:=R) N r0 (SF N r0) p q r i s t u j).1
def lG(p q r i s t u j r0):(@yn R N p q r i s t u j r0)=(nM N r0 (SF N r0) p q r i s t u j):=by rw[yn,(Ac _).2]
def Agd:Hints:={H:=hK 2 (hJ [0,1] hL (hK 2 (hS (hK 1 (hS (hP [0,1,5,6,24,25,26] hL) hL)) hL))),nils:=[(4,1)],modes:=[(2,1)]}
def Ano:O6:=[Iz N]
def Age(F:KF R):=Iq Tryz.f194 Agd (Ano N) [] N F
def Axe(b:LA)(a:Nat)(d:Bool)(f:LA)(c:Nat)(g:Bool)(K:St->O R):=fun m o v h l=>K ⟨[(0,.imm b a 1 false d),(1,.imm f c 1 false g),(5,Bff 0 m),(6,.int .u64 o),(24,.imm b a 1 false d),(25,iv v),(26,iv h)],hq [bQ 1 l]⟩
def Axf(K:St->O R):=fun b a d f c g=>K ⟨[(0,.imm b a 1 false d),(1,.imm f c 1 false g)],[]⟩
def Ajh(F:KF R)(b a d f c g):∀ n,Axe b a d f c g (Ak (Age N F (pz 87364) []) n)=(Y6 N (Em F) b a d f c g n):=Ds fun n e=>(Bs (JY N (Em F) b a d f c g) e:_)
def Aji(F:KF R):Axf (Bo (Age N F (pz 85) []))=(SF N (Em F)):=(Bs (lF N (Em F)) (A7g fun b a d f c g=>(lW ..).trans (Ajh ..)):_)
def A0b:=B4 N 194 (Ano N) Agd (fun
|[.imm p q 1 r i,.imm s t 1 u j],[]=>some fun _ k=>yn N p q r i s t u j (Em k)
| _,_=>none) fun _ _=>by split;intro R F;exact(Bs (nM N (Em F) · _ _ _ _ _ _ _ _) ((jW ..).trans (Aji ..)):_).trans (lG ..).symm;trivial
def Pw(N:Nat)(r0:Int->O R)(f:LA)(a:Nat)(b:Bool)(g:LA)(c:Nat)(d:Bool)(k0:Int->O R)(h:Int):O R:=(cond (decide (h>=0)) (cond (Ad h a) (As .u32 (f.drop (h.toNat*1)) fun q=>cond (Ad h c) (As .u32 (g.drop (h.toNat*1)) fun r=>cond (decide (q<r)) (r0 (-1)) (cond (Ad h a) (As .u32 (f.drop (h.toNat*1)) fun s=>cond (Ad h c) (As .u32 (g.drop (h.toNat*1)) fun t=>cond (decide (s>t)) (r0 1) (k0 (wrap .i64 (h - 1)))) none) none)) none) none) (r0 0))
def G7(r0:Int->O R)(f:LA)(a:Nat)(b:Bool)(g:LA)(c:Nat)(d:Bool):Nat->Int->O R
|0=>fun _=>none
|n+1=>Pw N r0 f a b g c d (G7 r0 f a b g c d n)
def Ws(r0:Int->O R)(q0:LA->Nat->LA->Nat->Int->O R)(i:LA)(j:Nat)(l b:Bool)(m:LA)(o:Nat)(p d:Bool):O R:=(D6 N i j l b fun f a=>D6 N m o p d fun g c=>cond ((a:Int) != (c:Int)) (cond (decide ((a:Int)<(c:Int))) (r0 (-1)) (r0 1)) (q0 f a g c (wrap .i64 ((a:Int) - 1))))
def Ht:=(Ac fun N i j l b m o p d r0=>Ws (R:=R) N r0 (fun f a g c=>G7 N r0 f a b g c d N) i j l b m o p d).1
def NJ(i j l b m o p d r0):(@Ht R N i j l b m o p d r0)=(Ws N r0 (fun f a g c=>G7 N r0 f a b g c d N) i j l b m o p d):=by rw[Ht,(Ac _).2]
def SG:Hints:={H:=hK 3 (hS (hK 1 (hS (hP [0,1,5] hL) hL)) hL)}
def ZH:O6:=[Qo N]
def rT(F:KF R):=Iq Tryz.f201 SG (ZH N) [] N F
def rU(f:LA)(a:Nat)(b:Bool)(g:LA)(c:Nat)(d:Bool)(K:St->O R):=fun h=>K ⟨[(0,.imm f a 1 false b),(1,.imm g c 1 false d),(5,iv h)],[]⟩
def ia(F:KF R)(f a b g c d):∀ n,rU f a b g c d (Ak (rT N F (pz 5444) []) n)=(G7 N (B8 F) f a b g c d n):=Ds fun n e=>(Bs (Pw N (B8 F) f a b g c d) e:_)
def Ua:=B4 N 201 (ZH N) SG (fun
|[.imm i j 1 l b,.imm m o 1 p d],[]=>some fun _ k=>Ht N i j l b m o p d (B8 k)
| _,_=>none) fun _ _=>by split;intro R F;exact(Bs (Ws N (B8 F) · _ _ _ _ _ _ _ _) (Aip fun f a g c=>(lW ..).trans (ia ..)):_).trans (NJ ..).symm;trivial
def JZ(r0:Nat->Bool->LA->O R)(f:LA)(d:Nat)(b:Bool)(a:Nat)(g:LA)(c:Bool)(k0:Int->Int->Int->LA->O R)(r s h:Int)(i:LA):O R:=(cond (decide (h<s)) (cond (Ad h a) (As .u32 (g.drop (h.toNat*1)) fun t=>cond (decide (h<(d:Int))) (cond (Ad h d) (As .u32 (f.drop (h.toNat*1)) fun u=>cond (Ad h a) (cond ((beq 1 1)&&((ble ((0+(h.toNat*1))+1) i.length)&&(!false))) (k0 (Int.fdiv (wrap .u64 ((wrap .u64 ((wrap .u64 t) - r)) - (wrap .u64 u))) (2 ^ 63)) s (wrap .i64 (h+1)) (i.set (0+(h.toNat*1)) (.int .u32 (wrap .u32 (wrap .u64 ((wrap .u64 ((wrap .u64 t) - r)) - (wrap .u64 u))))))) none) none) none) (cond (Ad h a) (cond ((beq 1 1)&&((ble ((0+(h.toNat*1))+1) i.length)&&(!false))) (k0 (Int.fdiv (wrap .u64 ((wrap .u64 t) - r)) (2 ^ 63)) s (wrap .i64 (h+1)) (i.set (0+(h.toNat*1)) (.int .u32 (wrap .u32 (wrap .u64 ((wrap .u64 t) - r)))))) none) none)) none) (JU N a i fun v=>r0 v true i))
def Vq(r0:Nat->Bool->LA->O R)(f:LA)(d:Nat)(b:Bool)(a:Nat)(g:LA)(c:Bool):Nat->Int->Int->Int->LA->O R
|0=>fun _ _ _ _=>none
|n+1=>JZ N r0 f d b a g c (Vq r0 f d b a g c n)
def nN(r0:Nat->Bool->LA->O R)(q0:LA->Nat->Nat->LA->Int->Int->Int->LA->O R)(j:LA)(l:Nat)(m c:Bool)(o:LA)(p:Nat)(q b:Bool):O R:=(D6 N j l m c fun g a=>D6 N o p q b fun f d=>Ht N g a false c f d false b fun w=>cond (decide (w<0)) (r0 0 false []) (cond ((decide (0<=(a:Int)))&&((decide ((a:Int)<=(a:Int)))&&((decide ((a:Int)<=140737488355328))&&(decide (((a:Int)*((4:Nat):Int))<=140737488355328))))) (q0 f d a g 0 (a:Int) 0 (replicate a (.int .u32 0))) none))
def dH:=(Ac fun N j l m c o p q b r0=>nN (R:=R) N r0 (fun f d a g=>Vq N r0 f d b a g c N) j l m c o p q b).1
def lH(j l m c o p q b r0):(@dH R N j l m c o p q b r0)=(nN N r0 (fun f d a g=>Vq N r0 f d b a g c N) j l m c o p q b):=by rw[dH,(Ac _).2]
def Agf:Hints:={H:=hK 5 (hS (hK 1 (hS (hP [1,6,7,22,23,24] hL) hL)) hL),nils:=[(4,1)],modes:=[(2,1),(0,0)]}
def Anp:O6:=[Iz N,Ua N]
def Axg(F:KF R):=Iq Tryz.f195 Agf (Anp N) [] N F
def Axh(f:LA)(d:Nat)(b:Bool)(a:Nat)(g:LA)(c:Bool)(K:St->O R):=fun r s h i=>K ⟨[(1,.imm f d 1 false b),(6,Bff 0 a),(7,.int .u64 r),(22,.imm g a 1 false c),(23,iv s),(24,iv h)],hq [bQ 1 i]⟩
def Ajj(F:KF R)(f d b a g c):∀ n,Axh f d b a g c (Ak (Axg N F (pz 87364) []) n)=(Vq N (tU F) f d b a g c n):=Ds fun n e=>(Bs (JZ N (tU F) f d b a g c) e:_)
def Anq:=B4 N 195 (Anp N) Agf (fun
|[.imm j l 1 m c,.imm o p 1 q b],[]=>some fun _ k=>dH N j l m c o p q b (tU k)
| _,_=>none) fun _ _=>by split;intro R F;exact(Bs (nN N (tU F) · _ _ _ _ _ _ _ _) (Aip fun f d a g=>(lW ..).trans (Ajj ..)):_).trans (lH ..).symm;trivial
def nP(a:LA)(c:Bool)(b:LA)(d:Bool)(r0:Bool->Nat->LA->O R):O R:=(RL a fun l=>RL b fun m=>cond (l==m) (RL a fun n=>Bh 1 (a.drop 1) fun o p=>Bh 1 (b.drop 1) fun q r=>yn N o p false c q r false d fun e f=>Mj N n e f fun s=>r0 s e f) (Bh 1 (a.drop 1) fun t u=>Bh 1 (b.drop 1) fun v w=>dH N t u false c v w false d fun g x h=>cond x (RL a fun y=>Mj N y g h fun z=>r0 z g h) (Bh 1 (b.drop 1) fun aa ab=>Bh 1 (a.drop 1) fun ac ad=>dH N aa ab false d ac ad false c fun i ag j=>RL b fun ae=>Mj N ae i j fun af=>r0 af i j)))
def Ajk:=(Ac (@nP R)).1
def WH:@Ajk R=@nP R:=(Ac _).2
def A0c:=B4 N 164 [A0b N,CJ N,Anq N] Bt (fun
|[.pagg a c,.pagg b d],[]=>some fun _ k=>Ajk N a c b d (mZ k)
| _,_=>none) fun _ _=>by split;intro R F;dsimp only;rw[WH];kernel_rfl;trivial
def dI(a:Int)(r0:LA->O R):O R:=(Jt N a fun c b d=>r0 [.bool c,.imm (d.take (b*1)) b 1 false false,.imm [.int .u32 1] 1 1 false false])
def Y7:=(Ac (@dI R)).1
def dJ:@Y7 R=@dI R:=(Ac _).2
def WI:=B4 N 147 [GM N] Am8 (fun
|[.int .i64 a],[]=>some fun _ k=>Y7 N a (Ku k)
| _,_=>none) fun _ _=>by split;intro R F;dsimp only;rw[dJ];kernel_rfl;trivial
def j6(N:Nat)(r0:LA->O R)(k0:O R):O R:=(r0 [])
def Wt(r0:LA->O R):Nat->O R
|0=>none
|n+1=>j6 N r0 (Wt r0 n)
def WJ(N:Nat)(r0:LA->O R)(q0:O R):O R:=q0
def SH:=(Ac fun N r0=>WJ (R:=R) N r0 (Wt N r0 N)).1
def j7 r0:(@SH R N r0)=(WJ N r0 (Wt N r0 N)):=by rw[SH,(Ac _).2]
def Ajl(F:KF R):=Iq Tryz.f206 Af4 [] [] N F
def GO(F:KF R):LA->O R:=fun a=>F (Bff 0 0) (hq [bQ 1 a])
def Ajm(K:St->O R):=K ⟨[(0,.nsl),(3,iv 0)],[]⟩
def v8(F:KF R):∀ n,Ajm (Ak (Ajl N F (pz 336) []) n)=(Wt N (GO F) n):=Ds fun n e=>(Bs (j6 N (GO F)) e:_)
def Anr:=B4 N 206 [] Af4 (fun
|[.nsl],[]=>some fun _ k=>SH N (GO k)
| _,_=>none) fun _ _=>by split;intro R F;exact(Bs (WJ N (GO F)) ((lW ..).trans (v8 ..)):_).trans (j7 ..).symm;trivial
def J_(N:Nat)(r0:Int->O R)(c:LA)(a:Nat)(b:Bool)(d:LA)(k0:Int->O R)(f:Int):O R:=(cond (decide (f>=0)) (cond (Ad f a) (As .u32 (c.drop (f.toNat*1)) fun j=>cond (Ad f 0) (As .u32 (d.drop (0+(f.toNat*1))) fun l=>cond (decide (j<l)) (r0 (-1)) (cond (Ad f a) (As .u32 (c.drop (f.toNat*1)) fun m=>cond (Ad f 0) (As .u32 (d.drop (0+(f.toNat*1))) fun o=>cond (decide (m>o)) (r0 1) (k0 (wrap .i64 (f - 1)))) none) none)) none) none) (r0 0))
def Ts(r0:Int->O R)(c:LA)(a:Nat)(b:Bool)(d:LA):Nat->Int->O R
|0=>fun _=>none
|n+1=>J_ N r0 c a b d (Ts r0 c a b d n)
def NK(r0:Int->O R)(q0:LA->Nat->LA->Int->O R)(g:LA)(h:Nat)(i b:Bool):O R:=(D6 N g h i b fun c a=>SH N fun d=>cond ((a:Int) != 0) (cond (decide ((a:Int)<0)) (r0 (-1)) (r0 1)) (q0 c a d (wrap .i64 ((a:Int) - 1))))
def Y8:=(Ac fun N g h i b r0=>NK (R:=R) N r0 (fun c a d=>Ts N r0 c a b d N) g h i b).1
def dK(g h i b r0):(@Y8 R N g h i b r0)=(NK N r0 (fun c a d=>Ts N r0 c a b d N) g h i b):=by rw[Y8,(Ac _).2]
def j8:Hints:={H:=hK 3 (hS (hK 1 (hS (hP [0,1,5] hL) hL)) hL)}
def MJ:=A5y (Qo N) (Anr N) (Eq.refl 206)
def nQ:O6:=[MJ N]
def Adu(F:KF R):=Iq Tryz.f201 j8 (nQ N) [] N F
def Adv(c:LA)(a:Nat)(b:Bool)(d:LA)(K:St->O R):=fun f=>K ⟨[(0,.imm c a 1 false b),(1,Bff 0 0),(5,iv f)],hq [bQ 1 d]⟩
def rV(F:KF R)(c a b d):∀ n,Adv c a b d (Ak (Adu N F (pz 5444) []) n)=(Ts N (B8 F) c a b d n):=Ds fun n e=>(Bs (J_ N (B8 F) c a b d) e:_)
def nV:=B4 N 201 (nQ N) j8 (fun
|[.imm g h 1 i b,.nsl],[]=>some fun _ k=>Y8 N g h i b (B8 k)
| _,_=>none) fun _ _=>by split;intro R F;exact(Bs (NK N (B8 F) · _ _ _ _) (A2b fun c a d=>(lW ..).trans (rV ..)):_).trans (dK ..).symm;trivial
def gW(a:LA)(b:Bool)(r0:LA->Bool->LA->Nat->Bool->O R):O R:=(Bh 1 (a.drop 2) fun c d=>Y8 N c d false b fun e=>cond (e==0) (r0 [.bool false,.nsl] false [.int .u32 1] 1 false) (cond (ble 2 a.length) (Bh 1 (a.drop 2) fun f g=>cond ((beq 0 0)&&((beq ((a.take 2).length) 2)&&(beq 2 2))) (cond (ble 2 ((a.take 2).length)) (r0 ((a.take 2).take 2) b f g b) none) none) none))
def Wu:=(Ac (@gW R)).1
def WK:@Wu R=@gW R:=(Ac _).2
def Ans(F:KF R):LA->Bool->LA->Nat->Bool->O R:=fun h i j l m=>F (.tup [.pagg h i,.imm j l 1 false m]) []
def WL:=B4 N 171 [nV N] { H:=hL,nils:=[(3,1)],modes:=[(3,0),(1,1)] } (fun
|[.pagg a b],[]=>some fun _ k=>Wu N a b (Ans k)
| _,_=>none) fun _ _=>by split;intro R F;dsimp only;rw[WK];kernel_rfl;trivial
def yo(a:LA)(b:Bool)(r0:Int->O R):O R:=(Bh 1 (a.drop 1) fun c d=>Y8 N c d false b fun e=>cond (e==0) (r0 0) (RL a fun f=>cond f (r0 (-1)) (r0 1)))
def NL:=(Ac (@yo R)).1
def tb:@NL R=@yo R:=(Ac _).2
def rW:=B4 N 197 [nV N] Bt (fun
|[.pagg a b],[]=>some fun _ k=>NL N a b (B8 k)
| _,_=>none) fun _ _=>by split;intro R F;dsimp only;rw[tb];kernel_rfl;trivial
def yp(a:LA)(b:Bool)(r0:Int->O R):O R:=(cond (ble 3 a.length) (Wu N (a.take 3) b fun c d f g h=>cond ((beq 0 0)&&((beq c.length 2)&&(beq 2 2))) (cond (ble 2 c.length) (NL N (c.take 2) d fun e=>r0 e) none) none) none)
def nW:=(Ac (@yp R)).1
def tc:@nW R=@yp R:=(Ac _).2
def Axi:=B4 N 167 [WL N,rW N] Bt (fun
|[.pagg a b],[]=>some fun _ k=>nW N a b (B8 k)
| _,_=>none) fun _ _=>by split;intro R F;dsimp only;rw[tc];kernel_rfl;trivial
def KA(N:Nat)(a:Int)(r0:Bool->O R):O R:=(r0 (a != a))
def AS:=(Ac (@KA R)).1
def NM:@AS R=@KA R:=(Ac _).2
def v_:=B4 N 198 [] Bt (fun
|[.int .i64 a],[]=>some fun _ k=>AS N a (Da k)
| _,_=>none) fun _ _=>by split;intro R F;dsimp only;rw[NM];kernel_rfl;trivial
def Y9(a b:Int)(r0:Int->O R):O R:=(AS N a fun d=>AS N b fun c=>cond d (cond c (r0 0) (r0 (-1))) (cond c (r0 1) (cond (decide (a<b)) (r0 (-1)) (cond (decide (a>b)) (r0 1) (r0 0)))))
def Ub:=(Ac (@Y9 R)).1
def FG:@Ub R=@Y9 R:=(Ac _).2
def nX:=B4 N 168 [v_ N] Bt (fun
|[.int .i64 a,.int .i64 b],[]=>some fun _ k=>Ub N a b (B8 k)
| _,_=>none) fun _ _=>by split;intro R F;dsimp only;rw[FG];kernel_rfl;trivial
def Mu(N:Nat)(r0:Int->O R)(b:LA)(a:Nat)(c d:Bool)(k0:Int->Int->Int->O R)(g h f:Int):O R:=(cond (decide (f<h)) (cond (Ad f a) (As .u32 (b.drop (f.toNat*1)) fun i=>cond (decide ((wrap .i64 (32*f))<0)) none (k0 (MQ .u64 g (wrap .u64 ((wrap .u64 i)*2 ^ (min ((wrap .i64 (32*f)).toNat) 64)))) h (wrap .i64 (f+1)))) none) (r0 g))
def Ls(r0:Int->O R)(b:LA)(a:Nat)(c d:Bool):Nat->Int->Int->Int->O R
|0=>fun _ _ _=>none
|n+1=>Mu N r0 b a c d (Ls r0 b a c d n)
def nY(N:Nat)(r0:Int->O R)(q0:Int->Int->Int->O R)(b:LA)(a:Nat)(c d:Bool):O R:=(q0 0 (a:Int) 0)
def GP:=(Ac fun N b a c d r0=>nY (R:=R) N r0 (Ls N r0 b a c d N) b a c d).1
def td(b a c d r0):(@GP R N b a c d r0)=(nY N r0 (Ls N r0 b a c d N) b a c d):=by rw[GP,(Ac _).2]
def yq:Hints:={H:=hK 2 (hS (hK 1 (hS (hP [3,6,7,8] hL) hL)) hL)}
def Ask(F:KF R):=Iq Tryz.f215 yq [] [] N F
def Asl(b:LA)(a:Nat)(c d:Bool)(K:St->O R):=fun g h f=>K ⟨[(3,.int .u64 g),(6,.imm b a 1 c d),(7,iv h),(8,iv f)],[]⟩
def Adw(F:KF R)(b a c d):∀ n,Asl b a c d (Ak (Ask N F (pz 1348) []) n)=(Ls N (Anb F) b a c d n):=Ds fun n e=>(Bs (Mu N (Anb F) b a c d) e:_)
def rX:=B4 N 215 [] yq (fun
|[.imm b a 1 c d],[]=>some fun _ k=>GP N b a c d (Anb k)
| _,_=>none) fun _ _=>by split;intro R F;exact(Bs (nY N (Anb F) · _ _ _ _) ((lW ..).trans (Adw ..)):_).trans (td ..).symm;trivial
def lI(b:LA)(c:Nat)(d a:Bool)(r0:Int->Bool->O R):O R:=(D6 N b c d a fun f e=>cond (decide ((e:Int)>2)) (r0 0 false) (GP N f e false a fun g=>r0 g true))
def SI:=(Ac (@lI R)).1
def j9:@SI R=@lI R:=(Ac _).2
def Ajn(F:KF R):Int->Bool->O R:=fun h i=>F (.tup [.int .u64 h,.bool i]) []
def Ant:=B4 N 199 [Qo N,rX N] Bt (fun
|[.imm b c 1 d a],[]=>some fun _ k=>SI N b c d a (Ajn k)
| _,_=>none) fun _ _=>by split;intro R F;dsimp only;rw[j9];kernel_rfl;trivial
def CK(N:Nat)(r0:Int->Int->Bool->O R)(b a:Int)(d:Bool)(c:LA)(e:Bool):O R:=(cond e (r0 0 0 false) (cond (a==0) (r0 0 1 true) (RL c fun f=>cond f (r0 (wrap .i64 ((0:Int) - (wrap .i64 b))) (wrap .i64 a) true) (r0 (wrap .i64 b) (wrap .i64 a) true))))
def gX(r0:Int->Int->Bool->O R)(q0:Int->Int->Bool->O R)(c:LA)(d:Bool):O R:=(Bh 1 (c.drop 1) fun g h=>SI N g h false d fun b i=>Bh 1 (c.drop 2) fun j l=>SI N j l false d fun a m=>cond ((!i)==false) (cond ((cond false true (!m))==false) (cond ((cond false true (decide (b>=2147483648)))==false) (q0 b a (cond false true (decide (a>=2147483648)))) (q0 b a true)) (q0 b a true)) (q0 b a true))
def Wv:=(Ac fun N c d r0=>gX (R:=R) N r0 (fun b a=>CK N r0 b a d c) c d).1
def nZ(c d r0):(@Wv R N c d r0)=(gX N r0 (fun b a=>CK N r0 b a d c) c d):=by rw[Wv,(Ac _).2]
def te:Hints:={H:=hK 3 (hS (hS (hJ [1,5,6,21] hL hL) hL) hL)}
def yr:O6:=[Ant N]
def Anu(F:KF R):=Iq Tryz.f169 te (yr N) [] N F
def dL(F:KF R):Int->Int->Bool->O R:=fun n o p=>F (.tup [iv n,iv o,.bool p]) []
def Anv(b a:Int)(d:Bool)(c:LA)(K:St->O R):=fun e=>K ⟨[(1,op 0),(5,.int .u64 b),(6,.int .u64 a),(21,.bool e)],hq [bP d 0 c]⟩
def yt(F:KF R)(b a d c):Anv b a d c (Bo (Anu N F (pz 5441) []))=(CK N (dL F) b a d c):=by kernel_rfl
def lJ:=B4 N 169 (yr N) te (fun
|[.pagg c d],[]=>some fun _ k=>Wv N c d (dL k)
| _,_=>none) fun _ _=>by split;intro R F;exact(Bs (gX N (dL F) · _ _) (MR fun b a=>(jW ..).trans (yt ..)):_).trans (nZ ..).symm;trivial
def Za(N:Nat)(a:Int)(r0:Bool->O R):O R:=(r0 (a != a))
def Uc:=(Ac (@Za R)).1
def FH:@Uc R=@Za R:=(Ac _).2
def n0:=B4 N 200 [] Bt (fun
|[.int .i64 a],[]=>some fun _ k=>Uc N a (Da k)
| _,_=>none) fun _ _=>by split;intro R F;dsimp only;rw[FH];kernel_rfl;trivial
def U4(a b:Int)(r0:Int->O R):O R:=(Uc N a fun d=>Uc N b fun c=>cond d (cond c (r0 0) (r0 (-1))) (cond c (r0 1) (cond (decide (a<b)) (r0 (-1)) (cond (decide (a>b)) (r0 1) (r0 0)))))
def Px:=(Ac (@U4 R)).1
def Xz:@Px R=@U4 R:=(Ac _).2
def ib:=B4 N 170 [n0 N] Bt (fun
|[.int .i64 a,.int .i64 b],[]=>some fun _ k=>Px N a b (B8 k)
| _,_=>none) fun _ _=>by split;intro R F;dsimp only;rw[Xz];kernel_rfl;trivial
def tf(a:LA)(c:Bool)(b:LA)(d:Bool)(r0:Int->O R):O R:=(cond (ble 2 a.length) (NL N (a.take 2) c fun e=>cond (ble 2 b.length) (NL N (b.take 2) d fun f=>cond (decide (e<f)) (r0 (-1)) (cond (decide (e>f)) (r0 1) (cond (decide (e<0)) (Bh 1 (b.drop 1) fun g h=>Bh 1 (a.drop 1) fun i j=>Ht N g h false d i j false c fun l=>r0 l) (Bh 1 (a.drop 1) fun m n=>Bh 1 (b.drop 1) fun o p=>Ht N m n false c o p false d fun q=>r0 q)))) none) none)
def lK:=(Ac (@tf R)).1
def yu:@lK R=@tf R:=(Ac _).2
def Ajo:=B4 N 172 [rW N,Ua N] Bt (fun
|[.pagg a c,.pagg b d],[]=>some fun _ k=>lK N a c b d (B8 k)
| _,_=>none) fun _ _=>by split;intro R F;dsimp only;rw[yu];kernel_rfl;trivial
def PZ(r0:Int->O R)(c:Bool)(a:LA)(d:Bool)(b:LA):O R:=(cond (ble 3 a.length) (Wu N (a.take 3) c fun e n o p g=>cond ((beq 0 0)&&((beq e.length 2)&&(beq 2 2))) (cond (ble 3 b.length) (Wu N (b.take 3) d fun f q r s h=>cond ((beq 0 0)&&((beq f.length 2)&&(beq 2 2))) (cond (ble 2 e.length) (JX N (e.take 2) n [.bool false,.imm r s 1 false h] (h||false) fun t i u=>cond (ble 2 f.length) (JX N (f.take 2) q [.bool false,.imm o p 1 false g] (g||false) fun v j w=>lK N [.bool t,.imm (u.take (i*1)) i 1 false true] true [.bool v,.imm (w.take (j*1)) j 1 false true] true fun x=>r0 x) none) none) none) none) none) none)
def NN(r0:Int->O R)(q0:O R)(a:LA)(c:Bool)(b:LA)(d:Bool):O R:=(cond (ble 3 a.length) (nW N (a.take 3) c fun l=>cond (ble 3 b.length) (nW N (b.take 3) d fun m=>cond (l != m) (Ub N l m fun y=>r0 y) (cond (ble 3 a.length) (Wv N (a.take 3) c fun z aa ab=>cond (ble 3 b.length) (Wv N (b.take 3) d fun ac ad ae=>cond (ab==true) (cond (cond true ae false) (Px N (wrap .i64 (z*ad)) (wrap .i64 (ac*aa)) fun af=>r0 af) q0) q0) none) none)) none) none)
def Zb:=(Ac fun N a c b d r0=>NN (R:=R) N r0 (PZ N r0 c a d b) a c b d).1
def dM(a c b d r0):(@Zb R N a c b d r0)=(NN N r0 (PZ N r0 c a d b) a c b d):=by rw[Zb,(Ac _).2]
def j_:Hints:={H:=hK 4 (hJ [2,3] hL hL)}
def n_:O6:=[Axi N,nX N,lJ N,ib N,WL N,nK N,Ajo N]
def Adx(F:KF R):=Iq Tryz.f148 j_ (n_ N) [] N F
def Ady(c:Bool)(a:LA)(d:Bool)(b:LA)(K:St->O R):=K ⟨[(2,op 0),(3,op 1)],hq [bP c 0 a,bP d 0 b]⟩
def rY(F:KF R)(c a d b):Ady c a d b (Bo (Adx N F (pz 1365) []))=(PZ N (B8 F) c a d b):=by kernel_rfl
def Ajp:=B4 N 148 (n_ N) j_ (fun
|[.pagg a c,.pagg b d],[]=>some fun _ k=>Zb N a c b d (B8 k)
| _,_=>none) fun _ _=>by split;intro R F;exact(Bs (NN N (B8 F) · _ _ _ _) ((jW ..).trans (rY ..)):_).trans (dM ..).symm;trivial
def Ot(r0:LA->O R)(a b c:Int)(k1:Int->Int->O R)(d f:Int):O R:=(cond (f != 0) (cond (f==0) none (k1 f (Int.tmod d f))) (cond (d==0) none (Du N (wrap .u64 (Int.tdiv c d)) fun g i=>cond (d==0) none (Du N (wrap .u64 (Int.tdiv (wrap .u64 b) d)) fun h j=>r0 [.bool (decide (a<0)),.imm (i.take (g*1)) g 1 false false,.imm (j.take (h*1)) h 1 false false]))))
def Ed(r0:LA->O R)(a b c:Int):Nat->Int->Int->O R
|0=>fun _ _=>none
|n+1=>Ot N r0 a b c (Ed r0 a b c n)
def EB(N:Nat)(r0:LA->O R)(a b:Int)(q1:Int->Int->Int->O R)(c:Int):O R:=(q1 c (wrap .u64 b) c)
def Ww(r0:LA->O R)(a b:Int)(c:Int):O R:=EB N r0 a b (fun c=>Ed N r0 a b c N) c
def GQ(N:Nat)(r0:LA->O R)(q0:Int->O R)(a b:Int):O R:=(cond (decide (a<0)) (q0 (wrap .u64 ((0:Int) - (wrap .u64 a)))) (q0 (wrap .u64 a)))
def Qp:=(Ac fun N a b r0=>GQ (R:=R) N r0 (Ww N r0 a b) a b).1
def ZI(a b r0):(@Qp R N a b r0)=(GQ N r0 (Ww N r0 a b) a b):=by rw[Qp,(Ac _).2]
def dN:Hints:={H:=hK 2 (hJ [0,1,4,5] hL (hK 1 (hS (hS (hP [0,1,4,5,6,7] hL) hL) hL))),modes:=[(3,0)]}
def ja:O6:=[Kp N]
def dO(F:KF R):=Iq Tryz.f173 dN (ja N) [] N F
def yv(a b c:Int)(K:St->O R):=fun d f=>K ⟨[(0,iv a),(1,iv b),(4,op 0),(5,.int .u64 c),(6,.int .u64 d),(7,.int .u64 f)],hq [bN 0 [.bool false,.nsl,.nsl]]⟩
def yw(a b:Int)(K:St->O R):=fun c=>K ⟨[(0,iv a),(1,iv b),(4,op 0),(5,.int .u64 c)],hq [bN 0 [.bool false,.nsl,.nsl]]⟩
def na(F:KF R)(a b c):∀ n,yv a b c (Ak (dO N F (pz 5456) []) n)=(Ed N (Ku F) a b c n):=Ds fun n e=>(Bs (Ot N (Ku F) a b c) e:_)
def nc(F:KF R)(a b):yw a b (Bo (dO N F (pz 85) []))=(Ww N (Ku F) a b):=(Bs (EB N (Ku F) a b) (qY fun c=>(lW ..).trans (na ..)):_)
def jb:=B4 N 173 (ja N) dN (fun
|[.int .i64 a,.int .i64 b],[]=>some fun _ k=>Qp N a b (Ku k)
| _,_=>none) fun _ _=>by split;intro R F;exact(Bs (GQ N (Ku F) · _ _) ((jW ..).trans (nc ..)):_).trans (ZI ..).symm;trivial
def Anw(a:LA)(b:Bool)(r0:Bool->Nat->LA->O R):O R:=(RL a fun e=>Bh 1 (a.drop 1) fun f g=>NI N f g false b fun c d=>Mj N e c d fun h=>r0 h c d)
def Ajq:=(Ac (@Anw R)).1
def Anx:@Ajq R=@Anw R:=(Ac _).2
def Axj:=B4 N 202 [SE N,CJ N] Bt (fun
|[.pagg a b],[]=>some fun _ k=>Ajq N a b (mZ k)
| _,_=>none) fun _ _=>by split;intro R F;dsimp only;rw[Anx];kernel_rfl;trivial
def U5(N:Nat)(r0:Int->O R)(b c:Int):O R:=(cond (decide (b>=256)) (cond (Ad (wrap .u8 (Int.fdiv b (2 ^ 8))) 256) (r0 (wrap .i64 ((wrap .i64 (c+8))+(wrap .i64 ((UInt8.toNat (List.getD ([0,1,2,2,3,3,3,3,4,4,4,4,4,4,4,4,5,5,5,5,5,5,5,5,5,5,5,5,5,5,5,5,6,6,6,6,6,6,6,6,6,6,6,6,6,6,6,6,6,6,6,6,6,6,6,6,6,6,6,6,6,6,6,6,7,7,7,7,7,7,7,7,7,7,7,7,7,7,7,7,7,7,7,7,7,7,7,7,7,7,7,7,7,7,7,7,7,7,7,7,7,7,7,7,7,7,7,7,7,7,7,7,7,7,7,7,7,7,7,7,7,7,7,7,7,7,7,7,8,8,8,8,8,8,8,8,8,8,8,8,8,8,8,8,8,8,8,8,8,8,8,8,8,8,8,8,8,8,8,8,8,8,8,8,8,8,8,8,8,8,8,8,8,8,8,8,8,8,8,8,8,8,8,8,8,8,8,8,8,8,8,8,8,8,8,8,8,8,8,8,8,8,8,8,8,8,8,8,8,8,8,8,8,8,8,8,8,8,8,8,8,8,8,8,8,8,8,8,8,8,8,8,8,8,8,8,8,8,8,8,8,8,8,8,8,8,8,8,8,8,8,8,8,8,8,8]:Lu) ((wrap .u8 (Int.fdiv b (2 ^ 8))).toNat) 0):Nat):Int))))) none) (cond (Ad (wrap .u8 b) 256) (r0 (wrap .i64 (c+(wrap .i64 ((UInt8.toNat (List.getD ([0,1,2,2,3,3,3,3,4,4,4,4,4,4,4,4,5,5,5,5,5,5,5,5,5,5,5,5,5,5,5,5,6,6,6,6,6,6,6,6,6,6,6,6,6,6,6,6,6,6,6,6,6,6,6,6,6,6,6,6,6,6,6,6,7,7,7,7,7,7,7,7,7,7,7,7,7,7,7,7,7,7,7,7,7,7,7,7,7,7,7,7,7,7,7,7,7,7,7,7,7,7,7,7,7,7,7,7,7,7,7,7,7,7,7,7,7,7,7,7,7,7,7,7,7,7,7,7,8,8,8,8,8,8,8,8,8,8,8,8,8,8,8,8,8,8,8,8,8,8,8,8,8,8,8,8,8,8,8,8,8,8,8,8,8,8,8,8,8,8,8,8,8,8,8,8,8,8,8,8,8,8,8,8,8,8,8,8,8,8,8,8,8,8,8,8,8,8,8,8,8,8,8,8,8,8,8,8,8,8,8,8,8,8,8,8,8,8,8,8,8,8,8,8,8,8,8,8,8,8,8,8,8,8,8,8,8,8,8,8,8,8,8,8,8,8,8,8,8,8,8,8,8,8,8,8]:Lu) ((wrap .u8 b).toNat) 0):Nat):Int))))) none))
def Zc(N:Nat)(r0:Int->O R)(q0:Int->Int->O R)(a:Int):O R:=(cond (decide (a>=65536)) (q0 (Int.fdiv a (2 ^ 16)) 16) (q0 a 0))
def Ud:=(Ac fun N a r0=>Zc (R:=R) N r0 (U5 N r0) a).1
def ic(a r0):(@Ud R N a r0)=(Zc N r0 (U5 N r0) a):=by rw[Ud,(Ac _).2]
def KB:Hints:={H:=hK 1 (hJ [0,2] hL hL)}
def lL(F:KF R):=Iq Tryz.f240 KB [] [] N F
def lM(K:St->O R):=fun b c=>K ⟨[(0,.int .u32 b),(2,iv c)],[]⟩
def aM(F:KF R):lM (Bo (lL N F (pz 21) []))=(U5 N (B8 F)):=by kernel_rfl
def nf:=B4 N 240 [] KB (fun
|[.int .u32 a],[]=>some fun _ k=>Ud N a (B8 k)
| _,_=>none) fun _ _=>by split;intro R F;exact(Bs (Zc N (B8 F) · _) ((jW ..).trans (aM ..)):_).trans (ic ..).symm;trivial
def Sy(a:Int)(r0:Int->O R):O R:=(Ud N a fun b=>r0 (wrap .i64 (32 - b)))
def Hu:=(Ac (@Sy R)).1
def EC:@Hu R=@Sy R:=(Ac _).2
def Qq:=B4 N 229 [nf N] Bt (fun
|[.int .u32 a],[]=>some fun _ k=>Hu N a (B8 k)
| _,_=>none) fun _ _=>by split;intro R F;dsimp only;rw[EC];kernel_rfl;trivial
def dP(N:Nat)(c:Int)(b:LA)(a:Nat)(d e:Bool)(r0:Int->O R):O R:=(cond (decide (c<(a:Int))) (cond (Ad c a) (As .u32 (b.drop (c.toNat*1)) fun f=>r0 (wrap .u64 f)) none) (r0 0))
def Tt:=(Ac (@dP R)).1
def ng:@Tt R=@dP R:=(Ac _).2
def rZ(b:LA)(a:Nat)(d e:Bool)(F:KF R):Int->O R:=fun g=>F (.int .u64 g) [(100000,bN 0 [.imm b a 1 d e])]
def va:=B4 N 241 [] Bt (fun
|[.int .i64 c,.optr 100000 0],[(100000,⟨false,false,false,false,0,[.imm b a 1 d e],false,none⟩)]=>some fun _ k=>Tt N c b a d e (rZ b a d e k)
| _,_=>none) fun _ _=>by split;intro R F;dsimp only;rw[ng];kernel_rfl;trivial
def yx(b:LA)(c:Nat)(d e:Bool)(f a:Int)(r0:Int->O R):O R:=(Tt N (wrap .i64 (f - 1)) b c d e fun g=>Tt N (wrap .i64 (f - 2)) b c d e fun h=>cond (decide (a<0)) none (Tt N (wrap .i64 (f - 3)) b c d e fun i=>cond (decide ((wrap .i64 (32 - a))<0)) none (r0 (MQ .u64 (wrap .u64 ((MQ .u64 (wrap .u64 (g*2 ^ 32)) h)*2 ^ (min a.toNat 64))) (Int.fdiv i (2 ^ (min ((wrap .i64 (32 - a)).toNat) 64)))))))
def gY:=(Ac (@yx R)).1
def Adz:@gY R=@yx R:=(Ac _).2
def Anz:=B4 N 230 [va N] Bt (fun
|[.imm b c 1 d e,.int .i64 f,.int .i64 a],[]=>some fun _ k=>gY N b c d e f a (Anb k)
| _,_=>none) fun _ _=>by split;intro R F;dsimp only;rw[Adz];kernel_rfl;trivial
def P_(N:Nat)(k0:Int->Int->Int->Int->Int->Int->Int->Int->Bool->O R)(r0:LA->O R)(m c s t u v:Int)(z:Bool):O R:=(cond (c==0) none (cond (c==0) none (k0 c (Int.tmod m c) s t (wrap .u64 (s+(wrap .u64 ((wrap .u64 (Int.tdiv m c))*t)))) u v (wrap .u64 (u+(wrap .u64 ((wrap .u64 (Int.tdiv m c))*v)))) (!z))))
def dQ(N:Nat)(r0:LA->O R)(k0:Int->Int->Int->Int->Int->Int->Int->Int->Bool->O R)(q1:Int->Int->Int->Int->Int->Int->Bool->O R)(w o x p aa y l q:Int)(r:Bool):O R:=(cond ((decide (o>=q))==true) (cond (cond true (decide ((wrap .u64 (w - o))>=(wrap .u64 (l+q)))) false) (q1 w o p aa l q r) (r0 [.int .u64 x,.int .u64 p,.int .u64 y,.int .u64 l,.bool r])) (r0 [.int .u64 x,.int .u64 p,.int .u64 y,.int .u64 l,.bool r]))
def Tu(r0:LA->O R):Nat->Int->Int->Int->Int->Int->Int->Int->Int->Bool->O R
|0=>fun _ _ _ _ _ _ _ _ _=>none
|n+1=>dQ N r0 (Tu r0 n) (P_ N (Tu r0 n) r0)
def dR(r0:LA->O R)(q0:Int->Int->Int->Int->Int->Int->Int->Int->Bool->O R)(b:LA)(a:Nat)(i d:Bool)(f:LA)(g:Nat)(j h:Bool):O R:=(cond (Ad (wrap .i64 ((a:Int) - 1)) a) (As .u32 (b.drop (((wrap .i64 ((a:Int) - 1)).toNat)*1)) fun ac=>Hu N ac fun ab=>gY N b a false d (a:Int) ab fun ad=>gY N f g false h (a:Int) ab fun ae=>q0 ad ae 0 1 0 0 0 1 false) none)
def WM:=(Ac fun N b a i d f g j h r0=>dR (R:=R) N r0 (Tu N r0 N) b a i d f g j h).1
def yy(b a i d f g j h r0):(@WM R N b a i d f g j h r0)=(dR N r0 (Tu N r0 N) b a i d f g j h):=by rw[WM,(Ac _).2]
def jc:Hints:={H:=hK 7 (hS (hS (hP [4,7,8,9,10,11,12,13,14,15] (hJ [4,7,8,10,11,13,14,15] hL hL)) hL) hL),modes:=[(3,0)]}
def nh:O6:=[Qq N,Anz N]
def jd(F:KF R):=Iq Tryz.f216 jc (nh N) [] N F
def Ad0(K:St->O R):=fun m c s t u v z=>K ⟨[(4,op 0),(7,.int .u64 m),(8,.int .u64 c),(10,.int .u64 s),(11,.int .u64 t),(13,.int .u64 u),(14,.int .u64 v),(15,.bool z)],hq [bQ 0 [.int .u64 0,.int .u64 0,.int .u64 0,.int .u64 0,.bool false]]⟩
def je(K:St->O R):=fun w o x p aa y l q r=>K ⟨[(4,op 0),(7,.int .u64 w),(8,.int .u64 o),(9,.int .u64 x),(10,.int .u64 p),(11,.int .u64 aa),(12,.int .u64 y),(13,.int .u64 l),(14,.int .u64 q),(15,.bool r)],hq [bQ 0 [.int .u64 0,.int .u64 0,.int .u64 0,.int .u64 0,.bool false]]⟩
def r4 Q0 (F:KF R):Ad0 (Bo (jd N F (pz 5592321) [Q0]))=(P_ N (je Q0) (Ku F)):=by kernel_rfl
def r5(F:KF R):∀ n,je (Ak (jd N F (pz 349520) []) n)=(Tu N (Ku F) n):=Ds fun n e=>(Xs (dQ N (Ku F)) e ((jW ..).trans ((r4 ..).trans (rB (P_ _ · _) e))):_)
def Ajr:=B4 N 216 (nh N) jc (fun
|[.imm b a 1 i d,.imm f g 1 j h],[]=>some fun _ k=>WM N b a i d f g j h (Ku k)
| _,_=>none) fun _ _=>by split;intro R F;exact(Bs (dR N (Ku F) · _ _ _ _ _ _ _ _) ((lW ..).trans (r5 ..)):_).trans (yy ..).symm;trivial
def FI(r0:Nat->Nat->LA->LA->O R)(c:LA)(a:Nat)(d f:Bool)(b:Int)(k0:Int->Int->LA->O R)(i g:Int)(h:LA):O R:=(cond (decide (g>=0)) (cond (Ad g a) (As .u32 (c.drop (g.toNat*1)) fun j=>cond ((wrap .u64 b)==0) none (cond (Ad g a) (cond ((beq 1 1)&&((ble ((0+(g.toNat*1))+1) h.length)&&(!false))) (cond ((wrap .u64 b)==0) none (k0 (Int.tmod (MQ .u64 (wrap .u64 (i*2 ^ 32)) (wrap .u64 j)) (wrap .u64 b)) (wrap .i64 (g - 1)) (h.set (0+(g.toNat*1)) (.int .u32 (wrap .u32 (wrap .u64 (Int.tdiv (MQ .u64 (wrap .u64 (i*2 ^ 32)) (wrap .u64 j)) (wrap .u64 b)))))))) none) none)) none) (JU N a h fun l=>Du N i fun m o=>r0 l m h o))
def Nn(r0:Nat->Nat->LA->LA->O R)(c:LA)(a:Nat)(d f:Bool)(b:Int):Nat->Int->Int->LA->O R
|0=>fun _ _ _=>none
|n+1=>FI N r0 c a d f b (Nn r0 c a d f b n)
def Zd(N:Nat)(r0:Nat->Nat->LA->LA->O R)(q0:Int->Int->LA->O R)(c:LA)(a:Nat)(d f:Bool)(b:Int):O R:=(cond ((decide (0<=(a:Int)))&&((decide ((a:Int)<=(a:Int)))&&((decide ((a:Int)<=140737488355328))&&(decide (((a:Int)*((4:Nat):Int))<=140737488355328))))) (q0 0 (wrap .i64 ((a:Int) - 1)) (replicate a (.int .u32 0))) none)
def Ue:=(Ac fun N c a d f b r0=>Zd (R:=R) N r0 (Nn N r0 c a d f b N) c a d f b).1
def ig(c a d f b r0):(@Ue R N c a d f b r0)=(Zd N r0 (Nn N r0 c a d f b N) c a d f b):=by rw[Ue,(Ac _).2]
def KC:Hints:={H:=hK 3 (hS (hK 1 (hS (hP [0,1,4,6,7] hL) hL)) hL),nils:=[(4,1),(5,1)],modes:=[(2,1),(2,1)]}
def NO:O6:=[nI N,Kp N]
def lN(F:KF R):=Iq Tryz.f218 KC (NO N) [] N F
def lO(c:LA)(a:Nat)(d f:Bool)(b:Int)(K:St->O R):=fun i g h=>K ⟨[(0,.imm c a 1 d f),(1,.int .u32 b),(4,Bff 0 a),(6,.int .u64 i),(7,iv g)],hq [bQ 1 h]⟩
def aN(F:KF R)(c a d f b):∀ n,lO c a d f b (Ak (lN N F (pz 5444) []) n)=(Nn N (tV F) c a d f b n):=Ds fun n e=>(Bs (FI N (tV F) c a d f b) e:_)
def ni:=B4 N 218 (NO N) KC (fun
|[.imm c a 1 d f,.int .u32 b],[]=>some fun _ k=>Ue N c a d f b (tV k)
| _,_=>none) fun _ _=>by split;intro R F;exact(Bs (Zd N (tV F) · _ _ _ _ _) ((lW ..).trans (aN ..)):_).trans (ig ..).symm;trivial
end
end Gx
namespace Gx
open Go Go.Proofs
section
variable{R:Type}
def fit(k N:Nat):Prop:=100*k+1000<=N/\k<=1000000000
def fit.le{j k N:Nat}(h:fit k N)(d:j<=k):fit j N:=⟨by have:=h.1;omega,by have:=h.2;omega⟩
def ct(x y:O R):cond true x y=x:=rfl
def cf(x y:O R):cond false x y=y:=rfl
def A7p(x y:Bool):cond true x y=x:=rfl
def A8k(x y:Bool):cond false x y=y:=rfl
def A6d(c:Nat):((decide (((c+1:Nat):Int)>(0:Int)))==true)=true:=by simp
def F1{j n:Nat}(h:j<n):decide ((j:Int)<(n:Int))=true:=by simp;omega
def Gu{j n:Nat}(h:n<=j):decide ((j:Int)<(n:Int))=false:=by simp;omega
def wS{j:Nat}(h:j<=1000000000000):wrap .i64 ((j:Int)+1)=((j+1:Nat):Int):=by rw[i64 (by omega)];omega
def wP{j:Nat}(h:j<=1000000000000):wrap .i64 (((j+1:Nat):Int) - 1)=(j:Int):=by rw[i64 (by omega)];omega
def wA{j k:Nat}(h:j+k<=1000000000000):wrap .i64 ((j:Int)+(k:Int))=((j+k:Nat):Int):=by rw[i64 (by omega)];omega
def Asm{l:List Nat}{j:Nat}(h:j<l.length){f:Int->O R}:As .u32 (drop ((Int.toNat (j:Int))*1) (Bu l)) f=f (l[j]:Nat):=by rw[A8z,A9j,Az7 h]
def A6e{l:List Nat}{j:Nat}(h:j<l.length){f:Int->O R}:As .u32 (drop (0+((Int.toNat (j:Int))*1)) (Bu l)) f=f (l[j]:Nat):=by rw[A89,Asm h]
def A66{c a:Nat}(h:c<=a):((decide ((0:Int)<=(0:Int)))&&((decide ((0:Int)<=(c:Int)))&&((decide ((c:Int)<=(a:Int)))&&(decide ((a:Int)<=(a:Int))))))=true:=by simp;omega
def A67{n:Nat}(h:n<=1000000000000):((decide ((0:Int)<=(n:Int)))&&((decide ((n:Int)<=(n:Int)))&&((decide ((n:Int)<=(140737488355328:Int)))&&(decide (((n:Int)*((4:Nat):Int))<=(140737488355328:Int))))))=true:=by simp;omega
def A2j{x:Nat}{m:List Nat}(h:x<m.length):((beq 1 1)&&((ble ((0+((Int.toNat (x:Int))*1))+1) (List.length (Bu m)))&&(!false)))=true:=by rw[NG,A8z];simp;omega
def Axk{x v:Nat}{m:List Nat}:List.set (Bu m) (0+((Int.toNat (x:Int))*1)) (.int .u32 (v:Int))=Bu (m.set x v):=by rw[A8z,A9j,A89,Anl]
def A0d{l:List Nat}(h:Bi l):l.take (Ch (val l)).length=Ch (val l):=by
 obtain⟨d,e⟩:=Pv h
 rw[congrArg (take (Ch (val l)).length) d,Bdl]
def Axl{l:List Nat}(h:Bi l):take ((Ch (val l)).length*1) (Bu l)=Bu (Ch (val l)):=by rw[A9j,Agb,A0d h]
def Hv{l:List Nat}{c:Nat}(h:c<l.length):val (l.take (c+1))=val (l.take c)+4294967296 ^ c*l[c]:=by rw[A9q h,Asi,Bar,Bbh (by omega)]
def Au8{l:List Nat}{c:Nat}(d:Bi l)(h:c<l.length)(h0:l[c]≠0):Ch (val (l.take (c+1)))=l.take (c+1):=by
 apply A4u (WC d _)
 intro e
 rw[List.getLast_eq_getElem]
 simp only[Bar,Bbh (show c+1<=l.length by omega),Nat.add_sub_cancel,List.getElem_take]
 exact h0
def yz{N:Nat}{l:List Nat}{K:Nat->O R}(d:Bi l)(hs:l.length<=1000000000000):∀(c fuel:Nat),c<=l.length->c<fuel ->
  Y4 N K l.length (Bu l) fuel (c:Int)=K (Ch (val (l.take c))).length
|0,fuel+1,e,_=>by
  rw[Y4];unfold WD
  rw[show decide (((0:Nat):Int)>0)=false by simp]
  rw[show((false:Bool)==true)=false by rfl,cf,A66 (by omega),ct,A8z];rfl
| c+1,fuel+1,e,f=>by
  rw[Y4];unfold WD
  rw[A6d,ct,wP (by omega),Ab (by omega),ct,A6e (by omega),A7p,A66 (by omega),ct,yz d hs c fuel (by omega) (by omega),A8z]
  by_cases h0:l[c]=0
  ·rw[Hv (by omega),h0];simp
  ·rw[Au8 d (by omega) h0,Bar,Bbh e]
   rw[show(((l[c]:Nat):Int)==0)=false by simp;exact h0,cf]
def zH{N:Nat}{l:List Nat}{n:Nat}{K:Nat->O R}(hn:n=l.length)(e:Bi l)(d:fit l.length N):JU N n (Bu l) K=K (Ch (val l)).length:=by
 subst hn
 have f:=d.1;have j:=d.2
 rw[lC];unfold nH
 rw[yz e (by omega) l.length N (A86 _) (by omega),Bas]
def Agg{N:Nat}{l:List Nat}{t o:Bool}{K:LA->Nat->O R}(d:Bi l)(hs:l.length<=1000000000000):∀(c fuel:Nat),c<=l.length->c<fuel ->
  Nm N K (Bu l) l.length t o fuel (c:Int)=K (Bu (Ch (val (l.take c)))) (Ch (val (l.take c))).length
|0,fuel+1,e,_=>by
  rw[Nm];unfold AR
  rw[show decide (((0:Nat):Int)>0)=false by simp]
  rw[show((false:Bool)==true)=false by rfl,cf,A66 (by omega),ct,A8z];rfl
| c+1,fuel+1,e,f=>by
  rw[Nm];unfold AR
  rw[A6d,ct,wP (by omega),Ab (by omega),ct,Asm (by omega),A7p,A66 (by omega),ct,Agg d hs c fuel (by omega) (by omega),A8z,A9j,Agb]
  by_cases h0:l[c]=0
  ·rw[Hv (by omega),h0];simp
  ·rw[Au8 d (by omega) h0,Bar,Bbh e]
   rw[show(((l[c]:Nat):Int)==0)=false by simp;exact h0,cf]
def Ei{N:Nat}{l:List Nat}{n:Nat}{t o:Bool}{K:LA->Nat->O R}(hn:n=l.length)(e:Bi l)(d:fit l.length N):D6 N (Bu l) n t o K=K (Bu (Ch (val l))) (Ch (val l)).length:=by
 subst hn
 have f:=d.1;have j:=d.2
 rw[j5];unfold WE
 rw[Agg e (by omega) l.length N (A86 _) (by omega),Bas]
def Axm{N:Nat}{K:LA->O R}(hN:1<=N):SH N K=K []:=by
 rw[j7];unfold WJ
 cases N with
|zero=>omega
|succ N=>rw[Wt];rfl
end
end Gx
namespace Gx.Cf
open Go Go.Proofs
section
variable{R:Type}
def Kg(names:List Lu)(k i:Int)(s:Lu)(p:C7):C7:=nd (nd p (A1 s) (k,i,0) ⟨9,by decide⟩) (names.all fun x=>!(x==s)) (k,i,0) ⟨10,by decide⟩
def Ir(a:BusD):a.av.length=3:=rfl
def Cm(a:LineD):a.av.length=12:=rfl
def Ft(a:UnitD):a.av.length=22:=rfl
def Fk(a:StoreD):a.av.length=9:=rfl
def H2(a:TieD):a.av.length=5:=rfl
def Dd(a:OutD):a.av.length=4:=rfl
structure Small(c:CaseD)(N:Nat):Prop where
 n64:64<=N
 res:Gn c.reserve.l.length N
 bus:Gn c.buses.l.length N
 lin:Gn c.lines.l.length N
 uni:Gn c.units.l.length N
 sto:Gn c.stores.l.length N
 tie:Gn c.ties.l.length N
 out:Gn c.outs.l.length N
 dem:∀ b∈c.buses.l,Gn b.demand.l.length N
 law:∀ b∈c.lines.l,Gn b.away.l.length N
 seg:∀ b∈c.units.l,Gn b.segs.l.length N
 uaw:∀ b∈c.units.l,Gn b.away.l.length N
 tim:∀ b∈c.ties.l,Gn b.imp.l.length N
 tex:∀ b∈c.ties.l,Gn b.exp.l.length N
 tpr:∀ b∈c.ties.l,Gn b.price.l.length N
 oli:∀ b∈c.outs.l,Gn b.lines.l.length N
 omo:∀ b∈c.outs.l,Gn b.moves.l.length N
 omb:∀ b∈c.outs.l,b.moves.l.length<8796093022208
 top:c.buses.l.length<=6000000000000/\c.lines.l.length<=6000000000000/\c.units.l.length<=6000000000000/\c.stores.l.length<=6000000000000/\c.ties.l.length<=6000000000000/\c.outs.l.length<=6000000000000
def Bc{α:Type}(f:Nat->α->C7->C7):List α->Nat->C7->C7
|[],_,p=>p
|a::r,j,p=>Bc f r (j+1) (f j a p)
def Bk{α:Type}{f:Nat->α->C7->C7}{x:(Int×Int×Int)×{e:Int // e≠0}}(d:∀ j a,f j a (some x)=some x):∀(l:List α)(j:Nat),Bc f l j (some x)=some x
|[],_=>rfl
|a::r,j=>by rw[Bc,d];exact Bk d r (j+1)
abbrev e1:{e:Int // e≠0}:=⟨1,by decide⟩
abbrev e3:{e:Int // e≠0}:=⟨3,by decide⟩
abbrev e4:{e:Int // e≠0}:=⟨4,by decide⟩
abbrev e8:{e:Int // e≠0}:=⟨8,by decide⟩
abbrev Axn:{e:Int // e≠0}:=⟨11,by decide⟩
abbrev Aq8:{e:Int // e≠0}:=⟨12,by decide⟩
abbrev A8l:{e:Int // e≠0}:=⟨13,by decide⟩
abbrev A68:{e:Int // e≠0}:=⟨16,by decide⟩
def Ze(c:CaseD)(p:C7):C7 :=
 let p:=nd p (Fv 1 24 c.hours) (0,0,0) e3
 let p:=ZG c.hours c.reserve.l 0 1048576 (0,0,1) p
 let p:=nd p (Fv 1 32 (c.buses.l.length:Int)) (0,0,2) e8
 let p:=nd p (decide ((c.lines.l.length:Int)<=64)) (0,0,3) e8
 let p:=nd p (decide ((c.units.l.length:Int)<=16)) (0,0,4) e8
 let p:=nd p (decide ((c.stores.l.length:Int)<=8)) (0,0,5) e8
 let p:=nd p (decide ((c.ties.l.length:Int)<=8)) (0,0,6) e8
 nd p (decide ((c.outs.l.length:Int)<=64)) (0,0,7) e8
def lP(c:CaseD)(j:Nat)(b:BusD)(p:C7):C7 :=
 let p:=Kg ((c.buses.l.map (·.name)).take j) 1 j b.name p
 let p:=ZG c.hours b.demand.l 0 1048576 (1,j,1) p
 nd p (Fv 0 1048576 b.shed) (1,j,2) e3
def X0(c:CaseD)(j:Nat)(x:LineD)(p:C7):C7 :=
 let p:=Kg ((c.lines.l.map (·.name)).take j) 2 j x.name p
 let p:=nd p (JO c x.fr) (2,j,1) Aq8
 let p:=nd p (JO c x.tl) (2,j,2) Aq8
 let p:=nd p (x.tl != x.fr) (2,j,2) e1
 let p:=nd p (Fz x.re&&decide (x.re.num>0)) (2,j,3) e3
 let p:=nd p (Fz x.smin&&decide (x.smin.num<=0)) (2,j,4) e3
 let p:=nd p (Fz x.smax&&decide (x.smax.num>=0)) (2,j,5) e3
 let p:=nd p (Fv 0 1048576 x.limit) (2,j,6) e3
 let p:=nd p (Fv x.limit 1048576 x.emer) (2,j,7) e3
 SA c.hours x.away.l (2,j,8) p
def Qr(c:CaseD)(j:Nat)(x:StoreD)(p:C7):C7 :=
 let p:=Kg ((c.stores.l.map (·.name)).take j) 4 j x.name p
 let p:=nd p (JO c x.bus) (4,j,1) Aq8
 let p:=nd p (Fv 0 1048576 x.capacity) (4,j,2) e3
 let p:=nd p (Fv 0 x.capacity x.initial) (4,j,3) e3
 let p:=nd p (Fv 0 x.capacity x.final) (4,j,4) e3
 let p:=nd p (Fv 0 1048576 x.charge) (4,j,5) e3
 let p:=nd p (Fv 0 1048576 x.discharge) (4,j,6) e3
 nd p (Fz x.eff&&(decide (x.eff.num>0)&&decide (x.eff.num<=x.eff.den))) (4,j,7) e3
def lR(c:CaseD)(j:Nat)(x:TieD)(p:C7):C7 :=
 let p:=Kg ((c.ties.l.map (·.name)).take j) 5 j x.name p
 let p:=nd p (JO c x.bus) (5,j,1) Aq8
 let p:=ZG c.hours x.imp.l 0 1048576 (5,j,2) p
 let p:=ZG c.hours x.exp.l 0 1048576 (5,j,3) p
 ZG c.hours x.price.l (-1048576) 1048576 (5,j,4) p
def Qs(a:SegD):a.av.length=2:=rfl
def Fu(a:MoveD):a.av.length=3:=rfl
def jf(s:SegD):Bool:=Fv 1 1048576 s.width&&Fv (-1048576) 1048576 s.price
def aO(a:Int):List SegD->Int
|[]=>a
|s::r=>aO (wrap .i64 (a+s.width)) r
def dS:List SegD->Bool
|a::b::r=>decide (b.price>=a.price)&&dS (b::r)
|_=>true
def KD(a b:SegD)(r:List SegD):dS (a::b::r)=(decide (b.price>=a.price)&&dS (b::r)):=by rw[dS]
def nk(a:SegD):dS [a]=true:=by rw[dS];intros;simp_all
def zI:dS []=true:=by rw[dS];intros;simp_all
def Ad1(u:UnitD)(j:Nat)(p:C7):C7 :=
 let p:=nd p (decide ((u.segs.l.length:Int)<=8)) (3,j,4) e8
 let p:=nd p (u.segs.l.all jf) (3,j,4) e3
 let p:=nd p (dS u.segs.l) (3,j,4) Axn
 nd p (aO 0 u.segs.l==wrap .i64 (u.max - u.min)) (3,j,4) e4
def ED{u:UnitD}{f:LA->Nat->O R}:Bh 2 (drop 4 u.av) f=f (u.segs.l.flatMap SegD.av) u.segs.l.length:=by simp[UnitD.av,Cq]
def Au9{u:UnitD}{f:Int->O R}:As .i64 (drop 3 u.av) f=f u.max:=by simp[UnitD.av,A7]
def Ava{u:UnitD}{f:Int->O R}:As .i64 (drop 2 u.av) f=f u.min:=by simp[UnitD.av,A7]
def gZ{l:List SegD}{j:Nat}(h:j<l.length){f:Int->O R}:As .i64 (drop 1 (drop ((Int.toNat (j:Int))*2) (l.flatMap SegD.av))) f=f l[j].price:=by rw[A8z,A3 Qs _ _ h];simp[SegD.av,A7]
def Axo{l:List SegD}{j:Nat}(h:j<l.length){f:Int->O R}:As .i64 (drop ((Int.toNat (j:Int))*2) (l.flatMap SegD.av)) f=f l[j].width:=by rw[A8z,A3 Qs _ _ h];simp[SegD.av,A7]
def CL(c:CaseD)(j:Nat)(u:UnitD)(p:C7):C7 :=
 let p:=Kg ((c.units.l.map (·.name)).take j) 3 j u.name p
 let p:=nd p (JO c u.bus) (3,j,1) Aq8
 let p:=nd p (Fv 0 1048576 u.min) (3,j,2) e3
 let p:=nd p (Fv u.min 1048576 u.max) (3,j,3) e3
 let p:=Ad1 u j p
 let p:=nd p (Fv 0 1048576 u.noLoad) (3,j,5) e3
 let p:=nd p (Fv 0 1048576 u.rampUp) (3,j,6) e3
 let p:=nd p (Fv 0 1048576 u.rampDown) (3,j,7) e3
 let p:=nd p (Fv u.min u.max u.startRamp) (3,j,8) e3
 let p:=nd p (Fv u.min u.max u.stopRamp) (3,j,9) e3
 let p:=nd p (Fv 0 24 u.upTime) (3,j,10) e3
 let p:=nd p (Fv 0 24 u.downTime) (3,j,11) e3
 let p:=nd p (Fv 0 24 u.startTime) (3,j,12) e3
 let p:=nd p (Fv 0 1048576 u.hotCost) (3,j,13) e3
 let p:=nd p (Fv 0 1048576 u.coldCost) (3,j,14) e3
 let p:=nd p (Fv 0 24 u.hotHours) (3,j,15) e3
 let p:=nd p (Fv 0 1048576 u.reserve) (3,j,16) e3
 let p:=nd p (Fv 0 1048576 u.reservePrice) (3,j,17) e3
 let p:=SA c.hours u.away.l (3,j,18) p
 let p:=nd p (Fv 0 2 u.state) (3,j,19) Aq8
 let p:=nd p (u.state != 1||u.startTime != 0) (3,j,19) A68
 let p:=nd p (Fv 1 48 u.hours) (3,j,20) e3
 let p:=nd p (u.state != 1||decide (u.hours<=u.startTime)) (3,j,20) e3
 cond (u.state==2) (nd p (Fv u.min u.max u.output) (3,j,21) e3) (nd p (Fv 0 0 u.output) (3,j,21) e3)
def vb(c:CaseD)(m:MoveD):Bool:=decide (0<=m.unit)&&decide (m.unit<(c.units.l.length:Int))
def vd(m:MoveD):Bool:=Fv 0 1048576 m.up&&Fv 0 1048576 m.down
def WN(c:CaseD)(o:OutD)(j:Nat)(p:C7):C7 :=
 let p:=nd p ((o.moves.l.length:Int)==0||o.corr) (6,j,3) A68
 let p:=nd p (decide ((o.moves.l.length:Int)<=16)) (6,j,3) e8
 let p:=nd p (o.moves.l.all (vb c)) (6,j,3) Aq8
 let p:=nd p (gM (o.moves.l.map (·.unit))) (6,j,3) Axn
 nd p (o.moves.l.all vd) (6,j,3) e3
def xD{u:OutD}{f:LA->Nat->O R}:Bh 3 (drop 3 u.av) f=f (u.moves.l.flatMap MoveD.av) u.moves.l.length:=by simp[OutD.av,Cq]
def A0e{u:OutD}{f:Bool->O R}:RL (drop 2 u.av) f=f u.corr:=by simp[OutD.av,Azz]
def SK(c:CaseD)(j:Nat)(x:OutD)(p:C7):C7 :=
 let p:=Kg ((c.outs.l.map (·.name)).take j) 6 j x.name p
 let p:=nd p ((x.lines.l.length:Int)==1||(x.lines.l.length:Int)==2) (6,j,1) e4
 let p:=nd p (x.lines.l.all fun n=>decide (0<=n)&&decide (n<(c.lines.l.length:Int))) (6,j,1) Aq8
 let p:=nd p (gM x.lines.l) (6,j,1) Axn
 WN c x j p
def Mk{c:CaseD}{j:Nat}{x:OutD}{y:(Int×Int×Int)×{e:Int // e≠0}}:SK c j x (some y)=some y:=rfl
def np{u:OutD}{f:LA->Nat->O R}:Bh 1 (drop 1 u.av) f=f (Av u.lines.l) u.lines.l.length:=by simp[OutD.av,Cq,By]
def Au(l:List Lu):LA:=l.map fun s=>.str s
def Vr(l:List Lu):(Au l).length=l.length:=by simp[Au]
def Ju{l:List Lu}{i:Nat}(h:i<l.length){f:Lu->O R}:Km (drop i (Au l)) f=f l[i]:=by rw[Au,Bai (by simpa using h)];simp[Fq]
def D2{c:CaseD}:take 8 c.av=c.av:=rfl
def Ik{c:CaseD}:ble 8 (List.length c.av)=true:=rfl
def SL{N:Nat}{c:CaseD}{o:Bool}{K:Nat->LA->O R}(e:c.buses.l.length<=6000000000000):∀(m j fuel:Nat),j+m=c.buses.l.length->m<fuel ->
  M9 N K o c.av fuel j (j:Int) (Au ((c.buses.l.take j).map (·.name)))=K c.buses.l.length (Au (c.buses.l.map (·.name)))
|0,j,fuel+1,k,_=>by
  rw[M9];unfold AI
  have d:j=c.buses.l.length:=by omega
  rw[Dn,Gu (by omega),cf,A80 (by omega),d]
| m+1,j,fuel+1,k,t=>by
  rw[M9];unfold AI
  have h:j<c.buses.l.length:=by omega
  have n:(ble (j+1) 140737488355328&&ble ((j+1)*16) 140737488355328)=true:=by rw[C1,C1];simp;omega
  have q:take (j*1) (Au ((c.buses.l.take j).map (·.name)))++[.str c.buses.l[j].name]=Au ((c.buses.l.take (j+1)).map (·.name)):=by
   rw[A80 (by simp[Vr];omega),A9q h,A93];simp[Au]
  have s:∀ f:Lu->O R,Km (drop (j*3) (List.flatMap BusD.av c.buses.l)) f=f c.buses.l[j].name:=fun f=>by rw[A3 Ir _ _ h];simp[BusD.av,Fq]
  rw[Dn,F1 h,ct,Dn,Ab h,ct,A8z,s,n,ct,q,B0 (by omega),SL e m (j+1) fuel (by omega) (by omega)]
def An0{N:Nat}{c:CaseD}{o:Bool}{K:Nat->LA->O R}(hs:Small c N):Ko N c.av o 1 K=K (c.buses.l.map (·.name)).length (Au (c.buses.l.map (·.name))):=by
 rw[Lr];unfold Ng
 have:=SL (R:=R) (N:=N) (c:=c) (o:=o) (K:=K) hs.top.1 c.buses.l.length 0 N (by omega) hs.bus.1
 simpa[Au]using this
def SM{N:Nat}{c:CaseD}{o:Bool}{K:Nat->LA->O R}(e:c.lines.l.length<=6000000000000):∀(m j fuel:Nat),j+m=c.lines.l.length->m<fuel ->
  Na N K o c.av fuel j (j:Int) (Au ((c.lines.l.take j).map (·.name)))=K c.lines.l.length (Au (c.lines.l.map (·.name)))
|0,j,fuel+1,k,_=>by
  rw[Na];unfold AJ
  have d:j=c.lines.l.length:=by omega
  rw[F9,Gu (by omega),cf,A80 (by omega),d]
| m+1,j,fuel+1,k,t=>by
  rw[Na];unfold AJ
  have h:j<c.lines.l.length:=by omega
  have n:(ble (j+1) 140737488355328&&ble ((j+1)*16) 140737488355328)=true:=by rw[C1,C1];simp;omega
  have q:take (j*1) (Au ((c.lines.l.take j).map (·.name)))++[.str c.lines.l[j].name]=Au ((c.lines.l.take (j+1)).map (·.name)):=by
   rw[A80 (by simp[Vr];omega),A9q h,A93];simp[Au]
  have s:∀ f:Lu->O R,Km (drop (j*12) (List.flatMap LineD.av c.lines.l)) f=f c.lines.l[j].name:=fun f=>by rw[A3 Cm _ _ h];simp[LineD.av,Fq]
  rw[F9,F1 h,ct,F9,Ab h,ct,A8z,s,n,ct,q,B0 (by omega),SM e m (j+1) fuel (by omega) (by omega)]
def ti{N:Nat}{c:CaseD}{o:Bool}{K:Nat->LA->O R}(hs:Small c N):Ko N c.av o 2 K=K (c.lines.l.map (·.name)).length (Au (c.lines.l.map (·.name))):=by
 rw[Lr];unfold Ng
 have:=SM (R:=R) (N:=N) (c:=c) (o:=o) (K:=K) hs.top.2.1 c.lines.l.length 0 N (by omega) hs.lin.1
 simpa[Au]using this
def SN{N:Nat}{c:CaseD}{o:Bool}{K:Nat->LA->O R}(e:c.units.l.length<=6000000000000):∀(m j fuel:Nat),j+m=c.units.l.length->m<fuel ->
  Nb N K o c.av fuel j (j:Int) (Au ((c.units.l.take j).map (·.name)))=K c.units.l.length (Au (c.units.l.map (·.name)))
|0,j,fuel+1,k,_=>by
  rw[Nb];unfold AK
  have d:j=c.units.l.length:=by omega
  rw[Mi,Gu (by omega),cf,A80 (by omega),d]
| m+1,j,fuel+1,k,t=>by
  rw[Nb];unfold AK
  have h:j<c.units.l.length:=by omega
  have n:(ble (j+1) 140737488355328&&ble ((j+1)*16) 140737488355328)=true:=by rw[C1,C1];simp;omega
  have q:take (j*1) (Au ((c.units.l.take j).map (·.name)))++[.str c.units.l[j].name]=Au ((c.units.l.take (j+1)).map (·.name)):=by
   rw[A80 (by simp[Vr];omega),A9q h,A93];simp[Au]
  have s:∀ f:Lu->O R,Km (drop (j*22) (List.flatMap UnitD.av c.units.l)) f=f c.units.l[j].name:=fun f=>by rw[A3 Ft _ _ h];simp[UnitD.av,Fq]
  rw[Mi,F1 h,ct,Mi,Ab h,ct,A8z,s,n,ct,q,B0 (by omega),SN e m (j+1) fuel (by omega) (by omega)]
def tj{N:Nat}{c:CaseD}{o:Bool}{K:Nat->LA->O R}(hs:Small c N):Ko N c.av o 3 K=K (c.units.l.map (·.name)).length (Au (c.units.l.map (·.name))):=by
 rw[Lr];unfold Ng
 have:=SN (R:=R) (N:=N) (c:=c) (o:=o) (K:=K) hs.top.2.2.1 c.units.l.length 0 N (by omega) hs.uni.1
 simpa[Au]using this
def NP{N:Nat}{c:CaseD}{o:Bool}{K:Nat->LA->O R}(e:c.stores.l.length<=6000000000000):∀(m j fuel:Nat),j+m=c.stores.l.length->m<fuel ->
  Nc N K o c.av fuel j (j:Int) (Au ((c.stores.l.take j).map (·.name)))=K c.stores.l.length (Au (c.stores.l.map (·.name)))
|0,j,fuel+1,k,_=>by
  rw[Nc];unfold AL
  have d:j=c.stores.l.length:=by omega
  rw[O7,Gu (by omega),cf,A80 (by omega),d]
| m+1,j,fuel+1,k,t=>by
  rw[Nc];unfold AL
  have h:j<c.stores.l.length:=by omega
  have n:(ble (j+1) 140737488355328&&ble ((j+1)*16) 140737488355328)=true:=by rw[C1,C1];simp;omega
  have q:take (j*1) (Au ((c.stores.l.take j).map (·.name)))++[.str c.stores.l[j].name]=Au ((c.stores.l.take (j+1)).map (·.name)):=by
   rw[A80 (by simp[Vr];omega),A9q h,A93];simp[Au]
  have s:∀ f:Lu->O R,Km (drop (j*9) (List.flatMap StoreD.av c.stores.l)) f=f c.stores.l[j].name:=fun f=>by rw[A3 Fk _ _ h];simp[StoreD.av,Fq]
  rw[O7,F1 h,ct,O7,Ab h,ct,A8z,s,n,ct,q,B0 (by omega),NP e m (j+1) fuel (by omega) (by omega)]
def nq{N:Nat}{c:CaseD}{o:Bool}{K:Nat->LA->O R}(hs:Small c N):Ko N c.av o 4 K=K (c.stores.l.map (·.name)).length (Au (c.stores.l.map (·.name))):=by
 rw[Lr];unfold Ng
 have:=NP (R:=R) (N:=N) (c:=c) (o:=o) (K:=K) hs.top.2.2.2.1 c.stores.l.length 0 N (by omega) hs.sto.1
 simpa[Au]using this
def ZJ{N:Nat}{c:CaseD}{o:Bool}{K:Nat->LA->O R}(e:c.ties.l.length<=6000000000000):∀(m j fuel:Nat),j+m=c.ties.l.length->m<fuel ->
  Nd N K o c.av fuel j (j:Int) (Au ((c.ties.l.take j).map (·.name)))=K c.ties.l.length (Au (c.ties.l.map (·.name)))
|0,j,fuel+1,k,_=>by
  rw[Nd];unfold AM
  have d:j=c.ties.l.length:=by omega
  rw[Wo,Gu (by omega),cf,A80 (by omega),d]
| m+1,j,fuel+1,k,t=>by
  rw[Nd];unfold AM
  have h:j<c.ties.l.length:=by omega
  have n:(ble (j+1) 140737488355328&&ble ((j+1)*16) 140737488355328)=true:=by rw[C1,C1];simp;omega
  have q:take (j*1) (Au ((c.ties.l.take j).map (·.name)))++[.str c.ties.l[j].name]=Au ((c.ties.l.take (j+1)).map (·.name)):=by
   rw[A80 (by simp[Vr];omega),A9q h,A93];simp[Au]
  have s:∀ f:Lu->O R,Km (drop (j*5) (List.flatMap TieD.av c.ties.l)) f=f c.ties.l[j].name:=fun f=>by rw[A3 H2 _ _ h];simp[TieD.av,Fq]
  rw[Wo,F1 h,ct,Wo,Ab h,ct,A8z,s,n,ct,q,B0 (by omega),ZJ e m (j+1) fuel (by omega) (by omega)]
def zJ{N:Nat}{c:CaseD}{o:Bool}{K:Nat->LA->O R}(hs:Small c N):Ko N c.av o 5 K=K (c.ties.l.map (·.name)).length (Au (c.ties.l.map (·.name))):=by
 rw[Lr];unfold Ng
 have:=ZJ (R:=R) (N:=N) (c:=c) (o:=o) (K:=K) hs.top.2.2.2.2.1 c.ties.l.length 0 N (by omega) hs.tie.1
 simpa[Au]using this
def ZK{N:Nat}{c:CaseD}{o:Bool}{K:Nat->LA->O R}(e:c.outs.l.length<=6000000000000):∀(m j fuel:Nat),j+m=c.outs.l.length->m<fuel ->
  Nf N K o c.av fuel j (j:Int) (Au ((c.outs.l.take j).map (·.name)))=K c.outs.l.length (Au (c.outs.l.map (·.name)))
|0,j,fuel+1,k,_=>by
  rw[Nf];unfold AN
  have d:j=c.outs.l.length:=by omega
  rw[Pp,Gu (by omega),cf,A80 (by omega),d]
| m+1,j,fuel+1,k,t=>by
  rw[Nf];unfold AN
  have h:j<c.outs.l.length:=by omega
  have n:(ble (j+1) 140737488355328&&ble ((j+1)*16) 140737488355328)=true:=by rw[C1,C1];simp;omega
  have q:take (j*1) (Au ((c.outs.l.take j).map (·.name)))++[.str c.outs.l[j].name]=Au ((c.outs.l.take (j+1)).map (·.name)):=by
   rw[A80 (by simp[Vr];omega),A9q h,A93];simp[Au]
  have s:∀ f:Lu->O R,Km (drop (j*4) (List.flatMap OutD.av c.outs.l)) f=f c.outs.l[j].name:=fun f=>by rw[A3 Dd _ _ h];simp[OutD.av,Fq]
  rw[Pp,F1 h,ct,Pp,Ab h,ct,A8z,s,n,ct,q,B0 (by omega),ZK e m (j+1) fuel (by omega) (by omega)]
def zK{N:Nat}{c:CaseD}{o:Bool}{K:Nat->LA->O R}(hs:Small c N):Ko N c.av o 6 K=K (c.outs.l.map (·.name)).length (Au (c.outs.l.map (·.name))):=by
 rw[Lr];unfold Ng
 have:=ZK (R:=R) (N:=N) (c:=c) (o:=o) (K:=K) hs.top.2.2.2.2.2 c.outs.l.length 0 N (by omega) hs.out.1
 simpa[Au]using this
def X7{N:Nat}{L:List Lu}{k:Int}{n:Nat}{K:LA->O R}(hn:n<L.length)(hs:n<4611686018427387904):∀(m j fuel:Nat)(p:C7),j+m=n->m<fuel ->
  En N K k (n:Int) L.length (Au L) fuel (j:Int) (D7 p)=K (D7 (nd p (((L.take n).drop j).all fun x=>!(x==L[n])) (k,n,0) ⟨10,by decide⟩))
|0,j,fuel+1,p,d,_=>by
  rw[En];unfold Kx
  rw[Gu (by omega),cf,Dm (l:=L.take n) (by simp;omega),A9z,Hp]
|m+1,j,fuel+1,p,d,q=>by
  rw[En];unfold Kx
  have h:j<L.length:=by omega
  have f:j<(L.take n).length:=by simp;omega
  rw[F1 (by omega),ct,Ab h,ct,A8z,A89,A9j,Ju h,Ab hn,ct,A8z,A89,A9j,Ju hn,Af (by decide),B0 (by omega),X7 hn hs m (j+1) fuel _ (by omega) (by omega),Cj f,A9i,Sx]
  have e:(L.take n)[j]=L[j]:=by simp
  rw[e]
def Ey{N:Nat}{c:CaseD}{L:List Lu}{o:Bool}{p:C7}{k:Int}{n:Nat}{K:LA->O R}(hN:64<=N)(hL:∀ K:Nat->LA->O R,Ko N c.av o k K=K L.length (Au L))(hn:n<L.length)(hs:Gn n N):
  Dt N c.av o k (n:Int) (D7 p) K=K (D7 (Kg (L.take n) k n L[n] p)):=by
 rw[CB];unfold Pi
 rw[D2,Ik,ct,hL,Ab hn,ct,A8z,A89,A9j,Ju hn,Ads hN,Af (by decide)]
 have:=X7 (R:=R) (N:=N) (L:=L) (k:=k) (n:=n) (K:=K) hn hs.2 n 0 N (nd p (A1 L[n]) (k,n,0) ⟨9,by decide⟩) (by omega) hs.1
 simpa[Kg]using this
def WO {N fuel:Nat} {c:CaseD} {o:Bool} {p:C7} {K:LA->O R} (hs:Small c N):Bz N K o c.av (fuel+6) 2 (D7 p)=K (D7
  (nd (nd (nd (nd (nd p (decide ((c.lines.l.length:Int)<=64)) (0,0,3) e8) (decide ((c.units.l.length:Int)<=16)) (0,0,4) e8) (decide ((c.stores.l.length:Int)<=8)) (0,0,5) e8) (decide ((c.ties.l.length:Int)<=8)) (0,0,6) e8) (decide ((c.outs.l.length:Int)<=64)) (0,0,7) e8)):=by
 have most:∀(k:Nat)(n:Int)(K:Int->O R),k<7->([0,32,64,16,8,8,64]:List Int)[k]?=some n->Wi N (k:Int) K=K n:=by
  intro k n K d f
  rw[mb];unfold rF
  rw[Ab d,ct]
  have e:[.int .i64 (0:Int),.int .i64 (32:Int),.int .i64 (64:Int),.int .i64 (16:Int),.int .i64 (8:Int),.int .i64 (8:Int),.int .i64 (64:Int)]=Av [0,32,64,16,8,8,64]:=rfl
  rw[e,A8z,A89,A9j,yS (by simpa using d)]
  rw[A84 (by simpa using d)]at f
  simp only[Bbe]at f
  rw[f]
 have m2:∀ K:Int->O R,Wi N 2 K=K 64:=fun K=>most 2 64 K (by omega) rfl
 have m3:∀ K:Int->O R,Wi N 3 K=K 16:=fun K=>most 3 16 K (by omega) rfl
 have m4:∀ K:Int->O R,Wi N 4 K=K 8:=fun K=>most 4 8 K (by omega) rfl
 have m5:∀ K:Int->O R,Wi N 5 K=K 8:=fun K=>most 5 8 K (by omega) rfl
 have m6:∀ K:Int->O R,Wi N 6 K=K 64:=fun K=>most 6 64 K (by omega) rfl
 have j:wrap .i64 (2+1)=3:=rfl
 have w3:wrap .i64 (3+1)=4:=rfl
 have m:wrap .i64 (4+1)=5:=rfl
 have q:wrap .i64 (5+1)=6:=rfl
 have s:wrap .i64 (6+1)=7:=rfl
 rw[Bz];unfold C0
 rw[show decide ((2:Int)<=6)=true from rfl,ct,Ik,ct,D2,ti hs,m2,Af (by decide),j]
 rw[Bz];unfold C0
 rw[show decide ((3:Int)<=6)=true from rfl,ct,Ik,ct,D2,tj hs,m3,Af (by decide),w3]
 rw[Bz];unfold C0
 rw[show decide ((4:Int)<=6)=true from rfl,ct,Ik,ct,D2,nq hs,m4,Af (by decide),m]
 rw[Bz];unfold C0
 rw[show decide ((5:Int)<=6)=true from rfl,ct,Ik,ct,D2,zJ hs,m5,Af (by decide),q]
 rw[Bz];unfold C0
 rw[show decide ((6:Int)<=6)=true from rfl,ct,Ik,ct,D2,zK hs,m6,Af (by decide),s]
 rw[Bz];unfold C0
 rw[show decide ((7:Int)<=6)=false from rfl,cf]
 simp only[A85]
def WP{N:Nat}{c:CaseD}{o:Bool}{p:C7}{K:LA->O R}(hs:Small c N):Kw N c.av o (D7 p) K=K (D7 (Ze c p)):=by
 have hN:=hs.n64
 rw[Xu];unfold Nh
 have:=fun p=>WO (fuel:=N - 6) (o:=o) (p:=p) (K:=K) hs
 rw[show N - 6+6=N by omega]at this
 simp only[Ky,Fh (show 8<=N by omega),Af (show(3:Int)≠0 by decide),Af (show(8:Int)≠0 by decide),Ik,ct,D2,lA,Dn,Fs rfl hs.res,this]
 rfl
end
end Gx.Cf
namespace Go.Proofs
open Go.Shelf Go.RowKit
open Go.RowKit
def Tryz.laysM171_ren : Go.Shelf.Ren := ⟨fun|171 => 115|243 => 132|246 => 142|283 => 155|284 => 156|285 => 157|286 => 158|129 => 184|317 => 183|318 => 185|319 => 186|320 => 187|337 => 207|338 => 208|n => n, fun|3 => 3|9 => 9|2 => 2|4 => 4|171 => 189|0 => 0|53 => 143|37 => 75|5 => 5|173 => 192|212 => 226|51 => 173|20 => 20|213 => 227|46 => 165|232 => 266|233 => 267|n => n, fun|17 => 1|18 => 2|19 => 3|n => n⟩
def Tryz.laysM171 : Go.Proofs.LaysM.n171 Tryz.prog Tryz.laysM171_ren := {
  mixed := by kernel_rfl
  f129 := Tryz.func184.trans (congrArg some (by kernel_rfl))
  f171 := Tryz.func115.trans (congrArg some (by kernel_rfl))
  f243 := Tryz.func132.trans (congrArg some (by kernel_rfl))
  f246 := Tryz.func142.trans (congrArg some (by kernel_rfl))
  f283 := Tryz.func155.trans (congrArg some (by kernel_rfl))
  f284 := Tryz.func156.trans (congrArg some (by kernel_rfl))
  f285 := Tryz.func157.trans (congrArg some (by kernel_rfl))
  f286 := Tryz.func158.trans (congrArg some (by kernel_rfl))
  f317 := Tryz.func183.trans (congrArg some (by kernel_rfl))
  f318 := Tryz.func185.trans (congrArg some (by kernel_rfl))
  f319 := Tryz.func186.trans (congrArg some (by kernel_rfl))
  f320 := Tryz.func187.trans (congrArg some (by kernel_rfl))
  f337 := Tryz.func207.trans (congrArg some (by kernel_rfl))
  f338 := Tryz.func208.trans (congrArg some (by kernel_rfl))
  t0 := Tryz.underlying0
  a0 := Tryz.isAgg0
  z0 := Tryz.sizeOf0
  v0 := Tryz.zeroValue0
  t2 := Tryz.underlying2
  a2 := Tryz.isAgg2
  z2 := Tryz.sizeOf2
  v2 := Tryz.zeroValue2
  t3 := Tryz.underlying3
  a3 := Tryz.isAgg3
  z3 := Tryz.sizeOf3
  v3 := Tryz.zeroValue3
  t4 := Tryz.underlying4
  a4 := Tryz.isAgg4
  z4 := Tryz.sizeOf4
  v4 := Tryz.zeroValue4
  t5 := Tryz.underlying5
  a5 := Tryz.isAgg5
  z5 := Tryz.sizeOf5
  v5 := Tryz.zeroValue5
  t9 := Tryz.underlying9
  a9 := Tryz.isAgg9
  z9 := Tryz.sizeOf9
  v9 := Tryz.zeroValue9
  t20 := Tryz.underlying20
  a20 := Tryz.isAgg20
  z20 := Tryz.sizeOf20
  v20 := Tryz.zeroValue20
  t37 := Tryz.underlying75
  a37 := Tryz.isAgg75
  z37 := Tryz.sizeOf75
  v37 := Tryz.zeroValue75
  t46 := Tryz.underlying165
  a46 := Tryz.isAgg165
  z46 := Tryz.sizeOf165
  v46 := Tryz.zeroValue165
  t51 := Tryz.underlying173
  a51 := Tryz.isAgg173
  z51 := Tryz.sizeOf173
  v51 := Tryz.zeroValue173
  t53 := Tryz.underlying143
  a53 := Tryz.isAgg143
  z53 := Tryz.sizeOf143
  v53 := Tryz.zeroValue143
  t171 := Tryz.underlying189
  a171 := Tryz.isAgg189
  z171 := Tryz.sizeOf189
  v171 := Tryz.zeroValue189
  t173 := Tryz.underlying192
  a173 := Tryz.isAgg192
  z173 := Tryz.sizeOf192
  v173 := Tryz.zeroValue192
  t212 := Tryz.underlying226
  a212 := Tryz.isAgg226
  z212 := Tryz.sizeOf226
  v212 := Tryz.zeroValue226
  t213 := Tryz.underlying227
  a213 := Tryz.isAgg227
  z213 := Tryz.sizeOf227
  t232 := Tryz.underlying266
  a232 := Tryz.isAgg266
  z232 := Tryz.sizeOf266
  v232 := Tryz.zeroValue266
  t233 := Tryz.underlying267
  a233 := Tryz.isAgg267
  z233 := Tryz.sizeOf267
  v233 := Tryz.zeroValue267
  g17 := by kernel_rfl
  g18 := by kernel_rfl
  g19 := by kernel_rfl
  i0 := by kernel_rfl
  i2 := by kernel_rfl
  i3 := by kernel_rfl
  i4 := by kernel_rfl
  i5 := by kernel_rfl
  i9 := by kernel_rfl
  i20 := by kernel_rfl
  i37 := by kernel_rfl
  i46 := by kernel_rfl
  i51 := by kernel_rfl
  i53 := by kernel_rfl
  i171 := by kernel_rfl
  i173 := by kernel_rfl
  i212 := by kernel_rfl
  i232 := by kernel_rfl
  i233 := by kernel_rfl
  m17 := by kernel_rfl
  m18 := by kernel_rfl
  m19 := by kernel_rfl }
def Tryz.laysC172_ren : Go.Shelf.Ren := ⟨fun|172 => 163|244 => 192|245 => 193|247 => 210|279 => 211|280 => 212|281 => 213|282 => 214|287 => 226|316 => 227|171 => 115|205 => 228|321 => 238|322 => 239|243 => 132|246 => 142|283 => 155|284 => 156|285 => 157|286 => 158|129 => 184|317 => 183|318 => 185|319 => 186|320 => 187|337 => 207|338 => 208|n => n, fun|9 => 9|3 => 3|75 => 198|76 => 199|4 => 4|5 => 5|167 => 245|37 => 75|0 => 0|85 => 246|2 => 2|168 => 248|53 => 143|175 => 268|46 => 165|210 => 272|127 => 281|145 => 285|143 => 283|21 => 21|171 => 189|173 => 192|212 => 226|51 => 173|20 => 20|213 => 227|232 => 266|233 => 267|80 => 265|n => n, fun|15 => 4|16 => 5|17 => 1|18 => 2|19 => 3|n => n⟩
def Tryz.laysC172 : Go.Proofs.LaysC.n172 Tryz.prog Tryz.laysC172_ren := {
  mixed := by kernel_rfl
  f129 := Tryz.func184.trans (congrArg some (by kernel_rfl))
  f171 := Tryz.func115.trans (congrArg some (by kernel_rfl))
  f172 := Tryz.func163.trans (congrArg some (by kernel_rfl))
  f205 := Tryz.func228.trans (congrArg some (by kernel_rfl))
  f243 := Tryz.func132.trans (congrArg some (by kernel_rfl))
  f244 := Tryz.func192.trans (congrArg some (by kernel_rfl))
  f245 := Tryz.func193.trans (congrArg some (by kernel_rfl))
  f246 := Tryz.func142.trans (congrArg some (by kernel_rfl))
  f247 := Tryz.func210.trans (congrArg some (by kernel_rfl))
  f279 := Tryz.func211.trans (congrArg some (by kernel_rfl))
  f280 := Tryz.func212.trans (congrArg some (by kernel_rfl))
  f281 := Tryz.func213.trans (congrArg some (by kernel_rfl))
  f282 := Tryz.func214.trans (congrArg some (by kernel_rfl))
  f283 := Tryz.func155.trans (congrArg some (by kernel_rfl))
  f284 := Tryz.func156.trans (congrArg some (by kernel_rfl))
  f285 := Tryz.func157.trans (congrArg some (by kernel_rfl))
  f286 := Tryz.func158.trans (congrArg some (by kernel_rfl))
  f287 := Tryz.func226.trans (congrArg some (by kernel_rfl))
  f316 := Tryz.func227.trans (congrArg some (by kernel_rfl))
  f317 := Tryz.func183.trans (congrArg some (by kernel_rfl))
  f318 := Tryz.func185.trans (congrArg some (by kernel_rfl))
  f319 := Tryz.func186.trans (congrArg some (by kernel_rfl))
  f320 := Tryz.func187.trans (congrArg some (by kernel_rfl))
  f321 := Tryz.func238.trans (congrArg some (by kernel_rfl))
  f322 := Tryz.func239.trans (congrArg some (by kernel_rfl))
  f337 := Tryz.func207.trans (congrArg some (by kernel_rfl))
  f338 := Tryz.func208.trans (congrArg some (by kernel_rfl))
  t0 := Tryz.underlying0
  a0 := Tryz.isAgg0
  z0 := Tryz.sizeOf0
  v0 := Tryz.zeroValue0
  t2 := Tryz.underlying2
  a2 := Tryz.isAgg2
  z2 := Tryz.sizeOf2
  v2 := Tryz.zeroValue2
  t3 := Tryz.underlying3
  a3 := Tryz.isAgg3
  z3 := Tryz.sizeOf3
  v3 := Tryz.zeroValue3
  t4 := Tryz.underlying4
  a4 := Tryz.isAgg4
  z4 := Tryz.sizeOf4
  v4 := Tryz.zeroValue4
  t5 := Tryz.underlying5
  a5 := Tryz.isAgg5
  z5 := Tryz.sizeOf5
  v5 := Tryz.zeroValue5
  t9 := Tryz.underlying9
  a9 := Tryz.isAgg9
  z9 := Tryz.sizeOf9
  v9 := Tryz.zeroValue9
  t20 := Tryz.underlying20
  a20 := Tryz.isAgg20
  z20 := Tryz.sizeOf20
  v20 := Tryz.zeroValue20
  t21 := Tryz.underlying21
  a21 := Tryz.isAgg21
  z21 := Tryz.sizeOf21
  v21 := Tryz.zeroValue21
  t37 := Tryz.underlying75
  a37 := Tryz.isAgg75
  z37 := Tryz.sizeOf75
  v37 := Tryz.zeroValue75
  t46 := Tryz.underlying165
  a46 := Tryz.isAgg165
  z46 := Tryz.sizeOf165
  v46 := Tryz.zeroValue165
  t51 := Tryz.underlying173
  a51 := Tryz.isAgg173
  z51 := Tryz.sizeOf173
  v51 := Tryz.zeroValue173
  t53 := Tryz.underlying143
  a53 := Tryz.isAgg143
  z53 := Tryz.sizeOf143
  v53 := Tryz.zeroValue143
  t75 := Tryz.underlying198
  a75 := Tryz.isAgg198
  z75 := Tryz.sizeOf198
  v75 := Tryz.zeroValue198
  t76 := Tryz.underlying199
  a76 := Tryz.isAgg199
  z76 := Tryz.sizeOf199
  v76 := Tryz.zeroValue199
  t85 := Tryz.underlying246
  a85 := Tryz.isAgg246
  z85 := Tryz.sizeOf246
  v85 := Tryz.zeroValue246
  t127 := Tryz.underlying281
  a127 := Tryz.isAgg281
  z127 := Tryz.sizeOf281
  v127 := Tryz.zeroValue281
  t143 := Tryz.underlying283
  a143 := Tryz.isAgg283
  z143 := Tryz.sizeOf283
  v143 := Tryz.zeroValue283
  t145 := Tryz.underlying285
  a145 := Tryz.isAgg285
  z145 := Tryz.sizeOf285
  v145 := Tryz.zeroValue285
  t167 := Tryz.underlying245
  a167 := Tryz.isAgg245
  z167 := Tryz.sizeOf245
  v167 := Tryz.zeroValue245
  t168 := Tryz.underlying248
  a168 := Tryz.isAgg248
  z168 := Tryz.sizeOf248
  v168 := Tryz.zeroValue248
  t171 := Tryz.underlying189
  a171 := Tryz.isAgg189
  z171 := Tryz.sizeOf189
  v171 := Tryz.zeroValue189
  t173 := Tryz.underlying192
  a173 := Tryz.isAgg192
  z173 := Tryz.sizeOf192
  v173 := Tryz.zeroValue192
  t175 := Tryz.underlying268
  a175 := Tryz.isAgg268
  z175 := Tryz.sizeOf268
  v175 := Tryz.zeroValue268
  t210 := Tryz.underlying272
  a210 := Tryz.isAgg272
  z210 := Tryz.sizeOf272
  v210 := Tryz.zeroValue272
  t212 := Tryz.underlying226
  a212 := Tryz.isAgg226
  z212 := Tryz.sizeOf226
  v212 := Tryz.zeroValue226
  t213 := Tryz.underlying227
  a213 := Tryz.isAgg227
  z213 := Tryz.sizeOf227
  t232 := Tryz.underlying266
  a232 := Tryz.isAgg266
  z232 := Tryz.sizeOf266
  v232 := Tryz.zeroValue266
  t233 := Tryz.underlying267
  a233 := Tryz.isAgg267
  z233 := Tryz.sizeOf267
  v233 := Tryz.zeroValue267
  g15 := by kernel_rfl
  g16 := by kernel_rfl
  g17 := by kernel_rfl
  g18 := by kernel_rfl
  g19 := by kernel_rfl
  t80 := Tryz.underlying265
  a80 := Tryz.isAgg265
  z80 := Tryz.sizeOf265
  v80 := Tryz.zeroValue265
  i0 := by kernel_rfl
  i2 := by kernel_rfl
  i3 := by kernel_rfl
  i4 := by kernel_rfl
  i5 := by kernel_rfl
  i9 := by kernel_rfl
  i20 := by kernel_rfl
  i21 := by kernel_rfl
  i37 := by kernel_rfl
  i46 := by kernel_rfl
  i51 := by kernel_rfl
  i53 := by kernel_rfl
  i75 := by kernel_rfl
  i76 := by kernel_rfl
  i80 := by kernel_rfl
  i85 := by kernel_rfl
  i127 := by kernel_rfl
  i143 := by kernel_rfl
  i145 := by kernel_rfl
  i167 := by kernel_rfl
  i168 := by kernel_rfl
  i171 := by kernel_rfl
  i173 := by kernel_rfl
  i175 := by kernel_rfl
  i210 := by kernel_rfl
  i212 := by kernel_rfl
  i232 := by kernel_rfl
  i233 := by kernel_rfl
  m15 := by kernel_rfl
  m16 := by kernel_rfl
  m17 := by kernel_rfl
  m18 := by kernel_rfl
  m19 := by kernel_rfl
  c0 := by kernel_rfl
  c2 := by kernel_rfl
  c3 := by kernel_rfl
  c4 := by kernel_rfl
  c5 := by kernel_rfl
  c9 := by kernel_rfl
  c20 := by kernel_rfl
  c21 := by kernel_rfl
  c37 := by kernel_rfl
  c46 := by kernel_rfl
  c51 := by kernel_rfl
  c53 := by kernel_rfl
  c75 := by kernel_rfl
  c76 := by kernel_rfl
  c80 := by kernel_rfl
  c85 := by kernel_rfl
  c127 := by kernel_rfl
  c143 := by kernel_rfl
  c145 := by kernel_rfl
  c167 := by kernel_rfl
  c168 := by kernel_rfl
  c171 := by kernel_rfl
  c173 := by kernel_rfl
  c175 := by kernel_rfl
  c210 := by kernel_rfl
  c212 := by kernel_rfl
  c213 := by kernel_rfl
  c232 := by kernel_rfl
  c233 := by kernel_rfl }
def Tryz.lays145_ren : Go.Shelf.Ren := ⟨fun|145 => 30|220 => 84|219 => 116|217 => 117|225 => 133|224 => 134|267 => 135|266 => 136|314 => 143|n => n, fun|9 => 9|4 => 4|59 => 86|3 => 3|5 => 5|46 => 165|146 => 179|51 => 173|n => n, fun|1 => 0|n => n⟩
def Tryz.lays145 : Go.Proofs.Lays.n145 Tryz.prog Tryz.lays145_ren := {
  mixed := by kernel_rfl
  f145 := Tryz.func30.trans (congrArg some (by kernel_rfl))
  f217 := Tryz.func117.trans (congrArg some (by kernel_rfl))
  f219 := Tryz.func116.trans (congrArg some (by kernel_rfl))
  f220 := Tryz.func84.trans (congrArg some (by kernel_rfl))
  f224 := Tryz.func134.trans (congrArg some (by kernel_rfl))
  f225 := Tryz.func133.trans (congrArg some (by kernel_rfl))
  f266 := Tryz.func136.trans (congrArg some (by kernel_rfl))
  f267 := Tryz.func135.trans (congrArg some (by kernel_rfl))
  f314 := Tryz.func143.trans (congrArg some (by kernel_rfl))
  t3 := Tryz.underlying3
  a3 := Tryz.isAgg3
  z3 := Tryz.sizeOf3
  v3 := Tryz.zeroValue3
  t4 := Tryz.underlying4
  a4 := Tryz.isAgg4
  z4 := Tryz.sizeOf4
  v4 := Tryz.zeroValue4
  t5 := Tryz.underlying5
  a5 := Tryz.isAgg5
  z5 := Tryz.sizeOf5
  v5 := Tryz.zeroValue5
  t9 := Tryz.underlying9
  a9 := Tryz.isAgg9
  z9 := Tryz.sizeOf9
  v9 := Tryz.zeroValue9
  t46 := Tryz.underlying165
  a46 := Tryz.isAgg165
  z46 := Tryz.sizeOf165
  v46 := Tryz.zeroValue165
  t51 := Tryz.underlying173
  a51 := Tryz.isAgg173
  z51 := Tryz.sizeOf173
  v51 := Tryz.zeroValue173
  t59 := Tryz.underlying86
  a59 := Tryz.isAgg86
  z59 := Tryz.sizeOf86
  v59 := Tryz.zeroValue86
  t146 := Tryz.underlying179
  a146 := Tryz.isAgg179
  z146 := Tryz.sizeOf179
  v146 := Tryz.zeroValue179
  g1 := by kernel_rfl }
def Tryz.lays105_ren : Go.Shelf.Ren := ⟨fun|105 => 205|212 => 220|99 => 221|165 => 222|166 => 223|170 => 224|169 => 225|263 => 234|264 => 235|206 => 209|240 => 236|241 => 237|276 => 242|277 => 243|n => n, fun|9 => 9|3 => 3|4 => 4|20 => 20|0 => 0|46 => 165|109 => 259|5 => 5|72 => 263|76 => 199|51 => 173|146 => 179|53 => 143|148 => 279|70 => 261|37 => 75|75 => 198|127 => 281|164 => 287|80 => 265|n => n, fun|n => n⟩
def Tryz.lays105 : Go.Proofs.Lays.n105 Tryz.prog Tryz.lays105_ren := {
  mixed := by kernel_rfl
  f99 := Tryz.func221.trans (congrArg some (by kernel_rfl))
  f105 := Tryz.func205.trans (congrArg some (by kernel_rfl))
  f165 := Tryz.func222.trans (congrArg some (by kernel_rfl))
  f166 := Tryz.func223.trans (congrArg some (by kernel_rfl))
  f169 := Tryz.func225.trans (congrArg some (by kernel_rfl))
  f170 := Tryz.func224.trans (congrArg some (by kernel_rfl))
  f206 := Tryz.func209.trans (congrArg some (by kernel_rfl))
  f212 := Tryz.func220.trans (congrArg some (by kernel_rfl))
  f240 := Tryz.func236.trans (congrArg some (by kernel_rfl))
  f241 := Tryz.func237.trans (congrArg some (by kernel_rfl))
  f263 := Tryz.func234.trans (congrArg some (by kernel_rfl))
  f264 := Tryz.func235.trans (congrArg some (by kernel_rfl))
  f276 := Tryz.func242.trans (congrArg some (by kernel_rfl))
  f277 := Tryz.func243.trans (congrArg some (by kernel_rfl))
  t0 := Tryz.underlying0
  a0 := Tryz.isAgg0
  z0 := Tryz.sizeOf0
  v0 := Tryz.zeroValue0
  t3 := Tryz.underlying3
  a3 := Tryz.isAgg3
  z3 := Tryz.sizeOf3
  v3 := Tryz.zeroValue3
  t4 := Tryz.underlying4
  a4 := Tryz.isAgg4
  z4 := Tryz.sizeOf4
  v4 := Tryz.zeroValue4
  t5 := Tryz.underlying5
  a5 := Tryz.isAgg5
  z5 := Tryz.sizeOf5
  v5 := Tryz.zeroValue5
  t9 := Tryz.underlying9
  a9 := Tryz.isAgg9
  z9 := Tryz.sizeOf9
  v9 := Tryz.zeroValue9
  t20 := Tryz.underlying20
  a20 := Tryz.isAgg20
  z20 := Tryz.sizeOf20
  v20 := Tryz.zeroValue20
  t37 := Tryz.underlying75
  a37 := Tryz.isAgg75
  z37 := Tryz.sizeOf75
  v37 := Tryz.zeroValue75
  t46 := Tryz.underlying165
  a46 := Tryz.isAgg165
  z46 := Tryz.sizeOf165
  v46 := Tryz.zeroValue165
  t51 := Tryz.underlying173
  a51 := Tryz.isAgg173
  z51 := Tryz.sizeOf173
  v51 := Tryz.zeroValue173
  t53 := Tryz.underlying143
  a53 := Tryz.isAgg143
  z53 := Tryz.sizeOf143
  v53 := Tryz.zeroValue143
  t70 := Tryz.underlying261
  a70 := Tryz.isAgg261
  z70 := Tryz.sizeOf261
  v70 := Tryz.zeroValue261
  t72 := Tryz.underlying263
  a72 := Tryz.isAgg263
  z72 := Tryz.sizeOf263
  v72 := Tryz.zeroValue263
  t75 := Tryz.underlying198
  a75 := Tryz.isAgg198
  z75 := Tryz.sizeOf198
  v75 := Tryz.zeroValue198
  t76 := Tryz.underlying199
  a76 := Tryz.isAgg199
  z76 := Tryz.sizeOf199
  v76 := Tryz.zeroValue199
  t109 := Tryz.underlying259
  a109 := Tryz.isAgg259
  z109 := Tryz.sizeOf259
  v109 := Tryz.zeroValue259
  t127 := Tryz.underlying281
  a127 := Tryz.isAgg281
  z127 := Tryz.sizeOf281
  v127 := Tryz.zeroValue281
  t146 := Tryz.underlying179
  a146 := Tryz.isAgg179
  z146 := Tryz.sizeOf179
  v146 := Tryz.zeroValue179
  t148 := Tryz.underlying279
  a148 := Tryz.isAgg279
  z148 := Tryz.sizeOf279
  v148 := Tryz.zeroValue279
  t164 := Tryz.underlying287
  a164 := Tryz.isAgg287
  z164 := Tryz.sizeOf287
  v164 := Tryz.zeroValue287 }
def Tryz.Builder_Extra_105 : Builder.Extra Tryz.prog Tryz.lays105_ren := {
  sizeBuilder := by kernel_rfl
  liesBuilder := by kernel_rfl
  t5 := Tryz.underlying5
  a5 := Tryz.isAgg5
  z5 := Tryz.sizeOf5
  v5 := Tryz.zeroValue5
  infoByte := by kernel_rfl
  cellsByte := by kernel_rfl
  sizeByte := by kernel_rfl
  neB5 := by decide }
end Go.Proofs
namespace Gx
open Go Go.Proofs Go.RowKit
noncomputable section
variable{R:Type}(N:Nat)
def Wx(_N:Nat)(s t:Lu)(r0:Lu->Lu->Bool->O R):O R:=cond (ble s.length 4294967280) (r0 (Lib.cut s t).1 (Lib.cut s t).2.1 (Lib.cut s t).2.2) none
def strings_Cut:=(Ac (@Wx R)).1
def Uf:@strings_Cut R=@Wx R:=(Ac _).2
def Ug(a:LA)(h:A9)(k:KF R):O R :=
 match a,h with
|[.str s,.str t],[]=>strings_Cut N s t fun x y b=>k (.tup [.str x,.str y,.bool b]) []
|_,_=>none
def dT:Tw:=⟨fun {R} a h k=>@Ug R N a h k,fun {R} a h k=>by
 unfold Ug
 split
 ·rw[Uf,Uf];unfold Wx;cases ble _ 4294967280<;>rfl
 ·rfl⟩
def Uh(_N:Nat)(s:Lu)(c:Int)(r0:Lu->O R):O R:=cond (decide (0<=c)&&(decide (c<=9223372036854775807)&&decide ((s.length:Int)*c<=140737488355328))) (r0 (Lib.repeatL s c.toNat)) none
def strings_Repeat:=(Ac (@Uh R)).1
def U6:@strings_Repeat R=@Uh R:=(Ac _).2
def No(a:LA)(h:A9)(k:KF R):O R :=
 match a,h with
|[.str s,.int .i64 c],[]=>strings_Repeat N s c fun x=>k (.str x) []
|_,_=>none
def NQ:Tw:=⟨fun {R} a h k=>@No R N a h k,fun {R} a h k=>by
 unfold No
 split
 ·rename_i s c
  rw[U6,U6];unfold Uh;cases (decide (0<=c)&&(decide (c<=9223372036854775807)&&decide ((s.length:Int)*c<=140737488355328)))<;>rfl
 ·rfl⟩
def Tv(_N:Nat)(n:Int)(r0:Lu->O R):O R:=cond (decide (-9223372036854775808<=n)&&decide (n<=9223372036854775807)) (r0 (Lib.itoa n)) none
def strconv_Itoa:=(Ac (@Tv R)).1
def Sc:@strconv_Itoa R=@Tv R:=(Ac _).2
def Sd(a:LA)(h:A9)(k:KF R):O R :=
 match a,h with
|[.int .i64 n],[]=>strconv_Itoa N n fun x=>k (.str x) []
|_,_=>none
def ZL:Tw:=⟨fun {R} a h k=>@Sd R N a h k,fun {R} a h k=>by
 unfold Sd
 split
 ·rename_i n
  rw[Sc,Sc];unfold Tv;cases (decide (-9223372036854775808<=n)&&decide (n<=9223372036854775807))<;>rfl
 ·rfl⟩
def Tx(_N:Nat)(s:Lu)(r0:Int->O R):O R:=cond (ble s.length 9223372036854775806) (match Lib.atoiAll s with|.ok v=>r0 v|_=>none) none
def GR:=(Ac (@Tx R)).1
def Se:@GR R=@Tx R:=(Ac _).2
def Sf(a:LA)(h:A9)(k:KF R):O R :=
 match a,h with
|[.str s],[]=>GR N s fun x=>k (.tup [.int .i64 x,.undef]) []
|_,_=>none
def ZM:Tw:=⟨fun {R} a h k=>@Sf R N a h k,fun {R} a h k=>by
 unfold Sf
 split
 ·rw[Se,Se];unfold Tx;cases ble _ 9223372036854775806
  ·rfl
  ·cases Lib.atoiAll _<;>rfl
 ·rfl⟩
end
def An1(w:World)(n:Nat):Below w.heap.size w (w.drewN n):=⟨rfl,rfl,rfl,A86 _,fun _ _=>rfl⟩
def zL(N:Nat):qz Tryz.prog 30 (dT N):=by
 intro d h res h' j
 have f:Ug N d h (fun v h'=>some (v,h'))=some (res,h'):=j
 unfold Ug at f
 split at f
 ·rename_i s t
  rw[Uf,Wx]at f
  obtain⟨q,k⟩:=uc f
  simp at q k
  obtain⟨rfl,rfl⟩:=k
  refine RM fun J β w vs G hr=>?_
  obtain⟨u,v,rfl,e1,l⟩:=yM hr
  simp only[Rep]at e1 l;subst e1 l
  obtain⟨m,x⟩:=G.int (g:=0) (by decide)
  refine(Any.strings_Cut Tryz.lays145 ⟨⟨s⟩⟩ ⟨⟨t⟩⟩ m w (show s.length<4294967281 by omega) x).mono ?_
  rintro e w' ⟨rfl,n,rfl⟩
  refine⟨_,rfl,An1 w n,fun J β w=>?_⟩
  rw[Rep]
  exact⟨_,rfl,by simp[Reps,Rep]⟩
 ·cases f
def nr(N:Nat):qz Tryz.prog 205 (NQ N):=by
 intro d h res h' j
 have f:No N d h (fun v h'=>some (v,h'))=some (res,h'):=j
 unfold No at f
 split at f
 ·rename_i s c
  rw[U6,Uh]at f
  obtain⟨k,m⟩:=uc f
  simp only[A81,decide_eq_true_eq]at k
  simp at m
  obtain⟨rfl,rfl⟩:=m
  refine RM fun J β w vs G hr=>?_
  obtain⟨u,v,rfl,e1,q⟩:=yM hr
  simp only[Rep]at e1 q;subst e1 q
  obtain⟨n,rfl⟩:∃ n:Nat,c=n:=⟨c.toNat,by omega⟩
  by_cases t:s.length=0
  ·have hs:s=[]:=Bb0 t
   subst hs
   have hn:n<=9223372036854775807:=by have:=k.2.1;omega
   ·refine(Any.strings_Repeat Tryz.lays105 Tryz.Builder_Extra_105 ⟨⟨[]⟩⟩ n w hn (by show 0*n<=_;omega)).mono ?_
    rintro e w' ⟨rfl,l⟩
    exact⟨_,rfl,l,fun J β w=>by rw[Rep];rfl⟩
  ·have x:s.length*n<=140737488355328:=by have:=k.2.2;rw[<-Int.natCast_mul]at this;omega
   have y:n<=s.length*n:=Nat.le_mul_of_pos_left n (by omega)
   refine(Any.strings_Repeat Tryz.lays105 Tryz.Builder_Extra_105 ⟨⟨s⟩⟩ n w (by omega) x).mono ?_
   rintro e w' ⟨rfl,l⟩
   exact⟨_,rfl,l,fun J β w=>by rw[Rep];rfl⟩
 ·cases f
def ve(N:Nat):qz Tryz.prog 115 (ZL N):=by
 intro d h res h' j
 have f:Sd N d h (fun v h'=>some (v,h'))=some (res,h'):=j
 unfold Sd at f
 split at f
 ·rename_i n
  rw[Sc,Tv]at f
  obtain⟨l,m⟩:=uc f
  simp only[A81,decide_eq_true_eq]at l
  simp at m
  obtain⟨rfl,rfl⟩:=m
  refine RM fun J β w vs G hr=>?_
  obtain⟨u,rfl,e1⟩:=yL hr
  rw[Rep]at e1;subst e1
  refine(Any.strconv_Itoa Tryz.laysM171 n l.1 l.2 w (G.tab (g:=1) (by simp[Aus,Lib.pow10Tab]) (by kernel_rfl))).mono ?_
  rintro e w' ⟨rfl,k,os,rfl⟩
  refine⟨_,rfl,⟨rfl,rfl,rfl,by simp[Go.Sort.grow],fun i hi=>?_⟩,fun J β w=>by rw[Rep]⟩
  show(w.heap++os)[i]?=_
  rw[Bb3 hi]
 ·cases f
def strconv_Atoi_ok(N:Nat):qz Tryz.prog 163 (ZM N):=by
 intro d h res h' k
 have f:Sf N d h (fun v h'=>some (v,h'))=some (res,h'):=k
 unfold Sf at f
 split at f
 ·rename_i s
  rw[Se,Tx]at f
  obtain⟨l,j⟩:=uc f
  simp at l
  split at j
  ·rename_i v m
   simp at j
   obtain⟨rfl,rfl⟩:=j
   refine RM fun J β w vs G hr=>?_
   obtain⟨u,rfl,e1⟩:=yL hr
   rw[Rep]at e1;subst e1
   refine(Any.strconv_Atoi_ok Tryz.laysC172 ⟨⟨s⟩⟩ l v m w).mono ?_
   rintro e w' ⟨rfl,n⟩
   refine⟨_,rfl,?_,fun J β w=>by rw[Rep];exact⟨_,rfl,by rw[Reps];exact⟨_,_,rfl,by rw[Rep],by rw[Reps];exact⟨_,_,rfl,by rw[Rep];trivial,by rw[Reps]⟩⟩⟩⟩
   rcases n with rfl|⟨t,rfl⟩
   ·exact Below.refl _ _
   ·exact Lib.bytesWorld_below _ _ _
  ·cases j
 ·cases f
noncomputable def P'(N:Nat):=Azq (dT N) (zL N)
noncomputable def r6(N:Nat):=Azq (NQ N) (nr N)
noncomputable def dU(N:Nat):=Azq (ZL N) (ve N)
noncomputable def zM(N:Nat):=Azq (ZM N) (strconv_Atoi_ok N)
end Gx
namespace Gx
open Go Go.Proofs
set_option maxRecDepth 100000
noncomputable section
variable{R:Type}(N:Nat)
def Wy(k0:Int->LA->O R)(r0:LA->Int->O R)(b:Bool)(a:LA)(i:Int)(aj:LA):O R:=(cond (ble 8 a.length) (Dt N (a.take 8) b 1 i aj fun ak=>cond (ble 8 a.length) (Bh 3 (a.drop 2) fun al am=>cond (Ad i am) (Bh 1 ((al.drop (i.toNat*3)).drop 1) fun an ao=>Eb N (a.take 8) b an ao false b 0 1048576 1 i 1 ak fun ap=>Bh 3 (a.drop 2) fun aq ar=>cond (Ad i ar) (As .i64 ((aq.drop (i.toNat*3)).drop 2) fun au=>Aw N 0 1048576 [.int .i64 au] 1 false true fun av=>Aa N av 1 i 2 3 ap fun aw=>k0 (wrap .i64 (i+1)) aw) none) none) none) none)
def Wz(k7:Int->LA->O R)(k9:Int->Int->LA->O R)(r0:LA->Int->O R)(c d:Nat)(b:Bool)(a f g:LA)(k10:Int->Int->Nat->Int->LA->LA->O R)(o l:Int)(j:Nat)(m:Int)(w x:LA):O R:=(cond (decide (m<(d:Int))) (Bh 4 (a.drop 7) fun ax ay=>cond (Ad l ay) (Bh 1 ((ax.drop (l.toNat*4)).drop 1) fun az ba=>cond (Ad m d) (As .i64 (g.drop (0+(m.toNat*1))) fun bb=>VV N az ba false b bb fun bc=>cond bc (cond ((ble (j+1) 140737488355328)&&(ble ((j+1)*8) 140737488355328)) (k10 o l (j+1) (wrap .i64 (m+1)) w ((x.take (j*1))++[.int .i64 m])) none) (k10 o l j (wrap .i64 (m+1)) w x)) none) none) (Bh 3 (a.drop 2) fun ce bd=>Tr N (bd:Int) (f.take (c*2)) c false true (x.take (j*1)) j false true fun be=>Aa N (!be) 6 l o 13 w fun bf=>k9 o (wrap .i64 (l+1)) bf))
def Lt(k7:Int->LA->O R)(k9:Int->Int->LA->O R)(r0:LA->Int->O R)(c d:Nat)(b:Bool)(a f g:LA):Nat->Int->Int->Nat->Int->LA->LA->O R
|0=>fun _ _ _ _ _ _=>none
|n+1=>Wz N k7 k9 r0 c d b a f g (Lt k7 k9 r0 c d b a f g n)
def AT(N:Nat)(k7:Int->LA->O R)(r0:LA->Int->O R)(c d:Nat)(b:Bool)(a f g:LA)(k9:Int->Int->LA->O R)(q10:Int->Int->Nat->Int->LA->LA->O R)(ae af:Int)(ag:LA):O R:=(Bh 4 (a.drop 7) fun cf bg=>cond (decide (af<(bg:Int))) (q10 ae af 0 0 ag []) (k7 (wrap .i64 (ae+1)) ag))
def K5(k7:Int->LA->O R)(r0:LA->Int->O R)(c d:Nat)(b:Bool)(a f g:LA):Nat->Int->Int->LA->O R
|0=>fun _ _ _=>none
|n+1=>AT N k7 r0 c d b a f g (K5 k7 r0 c d b a f g n) (Lt N k7 (K5 k7 r0 c d b a f g n) r0 c d b a f g N)
def QA(k7:Int->LA->O R)(r0:LA->Int->O R)(b:Bool)(a:LA)(q9:Nat->Nat->LA->LA->Int->Int->LA->O R)(p:Int)(y:LA):O R:=(cond (ble 8 a.length) (RY N (a.take 8) b p fun c d f g=>q9 c d f g p 0 y) none)
def GS(k7:Int->LA->O R)(r0:LA->Int->O R)(b:Bool)(a:LA)(p:Int)(y:LA):O R:=QA N k7 r0 b a (fun c d f g=>K5 N k7 r0 c d b a f g N) p y
def Ty(N:Nat)(r0:LA->Int->O R)(b:Bool)(a:LA)(k7:Int->LA->O R)(q8:Int->LA->O R)(ah:Int)(h:LA):O R:=(As .i64 a fun bh=>cond ((decide (ah<bh))==true) (As .i64 (h.drop 3) fun bi=>cond (cond true (bi==0) false) (q8 ah h) (cond (ble 3 h.length) (As .i64 (h.drop 3) fun bj=>cond ((beq ((h.take 3).length) 3)&&((ble 3 3)&&(!false))) (cond (ble 3 ((setCells [Bfg,Bfg,Bfg] 0 (h.take 3)).length)) (r0 ((setCells [Bfg,Bfg,Bfg] 0 (h.take 3)).take 3) bj) none) none) none)) (cond (ble 3 h.length) (As .i64 (h.drop 3) fun bk=>cond ((beq ((h.take 3).length) 3)&&((ble 3 3)&&(!false))) (cond (ble 3 ((setCells [Bfg,Bfg,Bfg] 0 (h.take 3)).length)) (r0 ((setCells [Bfg,Bfg,Bfg] 0 (h.take 3)).take 3) bk) none) none) none))
def Fi(r0:LA->Int->O R)(b:Bool)(a:LA):Nat->Int->LA->O R
|0=>fun _ _=>none
|n+1=>Ty N r0 b a (Fi r0 b a n) (GS N (Fi r0 b a n) r0 b a)
def AU(r0:LA->Int->O R)(b:Bool)(a:LA)(k6:Int->LA->O R)(q7:Int->LA->O R)(z:Int)(q:LA):O R:=(Bh 4 (a.drop 7) fun cg bl=>cond ((decide (z<(bl:Int)))==true) (As .i64 (q.drop 3) fun bm=>cond (cond true (bm==0) false) (cond (ble 8 a.length) (Jo N (a.take 8) b z q fun bn=>k6 (wrap .i64 (z+1)) bn) none) (q7 0 q)) (q7 0 q))
def Np(r0:LA->Int->O R)(b:Bool)(a:LA):Nat->Int->LA->O R
|0=>fun _ _=>none
|n+1=>AU N r0 b a (Np r0 b a n) (Fi N r0 b a N)
def AW(r0:LA->Int->O R)(b:Bool)(a:LA)(k5:Int->LA->O R)(q6:Int->LA->O R)(aa:Int)(r:LA):O R:=(Bh 5 (a.drop 6) fun ch bo=>cond ((decide (aa<(bo:Int)))==true) (As .i64 (r.drop 3) fun bp=>cond (cond true (bp==0) false) (cond (ble 8 a.length) (T6 N (a.take 8) b aa r fun bq=>k5 (wrap .i64 (aa+1)) bq) none) (q6 0 r)) (q6 0 r))
def Nq(r0:LA->Int->O R)(b:Bool)(a:LA):Nat->Int->LA->O R
|0=>fun _ _=>none
|n+1=>AW N r0 b a (Nq r0 b a n) (Np N r0 b a N)
def AX(r0:LA->Int->O R)(b:Bool)(a:LA)(k4:Int->LA->O R)(q5:Int->LA->O R)(ab:Int)(s:LA):O R:=(Bh 9 (a.drop 5) fun ci br=>cond ((decide (ab<(br:Int)))==true) (As .i64 (s.drop 3) fun bs=>cond (cond true (bs==0) false) (cond (ble 8 a.length) (Pm N (a.take 8) b ab s fun bt=>k4 (wrap .i64 (ab+1)) bt) none) (q5 0 s)) (q5 0 s))
def Nr(r0:LA->Int->O R)(b:Bool)(a:LA):Nat->Int->LA->O R
|0=>fun _ _=>none
|n+1=>AX N r0 b a (Nr r0 b a n) (Nq N r0 b a N)
def AY(r0:LA->Int->O R)(b:Bool)(a:LA)(k3:Int->LA->O R)(q4:Int->LA->O R)(ac:Int)(t:LA):O R:=(Bh 22 (a.drop 4) fun cj bu=>cond ((decide (ac<(bu:Int)))==true) (As .i64 (t.drop 3) fun bv=>cond (cond true (bv==0) false) (cond (ble 8 a.length) (Mh N (a.take 8) b ac t fun bw=>k3 (wrap .i64 (ac+1)) bw) none) (q4 0 t)) (q4 0 t))
def Ns(r0:LA->Int->O R)(b:Bool)(a:LA):Nat->Int->LA->O R
|0=>fun _ _=>none
|n+1=>AY N r0 b a (Ns r0 b a n) (Nr N r0 b a N)
def AZ(r0:LA->Int->O R)(b:Bool)(a:LA)(k2:Int->LA->O R)(q3:Int->LA->O R)(ad:Int)(u:LA):O R:=(Bh 12 (a.drop 3) fun ck bx=>cond ((decide (ad<(bx:Int)))==true) (As .i64 (u.drop 3) fun bz=>cond (cond true (bz==0) false) (cond (ble 8 a.length) (Mf N (a.take 8) b ad u fun ca=>k2 (wrap .i64 (ad+1)) ca) none) (q3 0 u)) (q3 0 u))
def Nt(r0:LA->Int->O R)(b:Bool)(a:LA):Nat->Int->LA->O R
|0=>fun _ _=>none
|n+1=>AZ N r0 b a (Nt r0 b a n) (Ns N r0 b a N)
def A_(N:Nat)(r0:LA->Int->O R)(b:Bool)(a:LA)(k0:Int->LA->O R)(q1:Int->LA->O R)(q2:Int->LA->O R)(ai:Int)(v:LA):O R:=(Bh 3 (a.drop 2) fun cl cb=>cond ((decide (ai<(cb:Int)))==true) (As .i64 (v.drop 3) fun cc=>cond (cond true (cc==0) false) (q1 ai v) (q2 0 v)) (q2 0 v))
def K6(r0:LA->Int->O R)(b:Bool)(a:LA):Nat->Int->LA->O R
|0=>fun _ _=>none
|n+1=>A_ N r0 b a (K6 r0 b a n) (Wy N (K6 r0 b a n) r0 b a) (Nt N r0 b a N)
def WQ(r0:LA->Int->O R)(q0:Int->LA->O R)(a:LA)(b:Bool):O R:=(cond (ble 8 a.length) (Kw N (a.take 8) b [Bfg,Bfg,Bfg,Bfg] fun cd=>q0 0 cd) none)
def SO:=(Ac fun N a b r0=>WQ (R:=R) N r0 (K6 N r0 b a N) a b).1
def jg(a b r0):(@SO R N a b r0)=(WQ N r0 (K6 N r0 b a N) a b):=by rw[SO,(Ac _).2]
def nv:Hints:={H:=hK 3 (hS (hK 1 (hS (hP [1,2,4,5] (hJ [1,2,4,5] hL hL)) hL)) (hS (hK 1 (hS (hP [1,2,4,6] hL) hL)) (hS (hK 1 (hS (hP [1,2,4,7] hL) hL)) (hS (hK 1 (hS (hP [1,2,4,8] hL) hL)) (hS (hK 1 (hS (hP [1,2,4,9] hL) hL)) (hS (hK 1 (hS (hP [1,2,4,10] hL) hL)) (hS (hK 1 (hS (hP [1,2,4,11] (hJ [1,2,4,11] hL (hS (hS (hK 2 (hS (hP [1,2,4,11,12,13,14] (hK 1 (hS (hS (hK 1 (hS (hK 1 (hS (hP [1,2,4,11,12,13,14,15,16] hL) hL)) hL)) hL) hL))) hL)) hL) hL))) hL)) hL))))))),nils:=[(15,1)],modes:=[(3,0),(0,0)]}
def tk:O6:=[iQ N,G4 N,Qh N,Fb N,Cb N,ky N,kz N,iY N,mh N,cZ N,Ang N,rH N,vY N]
def Gb(F:KF R):=Iq Tryz.f16 nv (tk N) [] N F
def Ajs(b:Bool)(a:LA)(K:St->O R):=fun i aj=>K ⟨[(1,op 0),(2,op 1),(4,op 2),(5,iv i)],hq [bP b 0 a,bQ 0 [iv 0,iv 0,iv 0],bQ 0 aj]⟩
def Ad2(c d:Nat)(b:Bool)(a f g:LA)(K:St->O R):=fun o l j m w x=>K ⟨[(1,op 0),(2,op 1),(4,op 2),(11,iv o),(12,Bff 3 c),(13,Bff 4 d),(14,iv l),(15,Bff 5 j),(16,iv m)],hq [bP b 0 a,bQ 0 [iv 0,iv 0,iv 0],bQ 0 w,bQ 2 f,bQ 1 g,bQ 1 x]⟩
def WR(c d:Nat)(b:Bool)(a f g:LA)(K:St->O R):=fun ae af ag=>K ⟨[(1,op 0),(2,op 1),(4,op 2),(11,iv ae),(12,Bff 3 c),(13,Bff 4 d),(14,iv af)],hq [bP b 0 a,bQ 0 [iv 0,iv 0,iv 0],bQ 0 ag,bQ 2 f,bQ 1 g]⟩
def Ajt(b:Bool)(a:LA)(K:St->O R):=fun p y=>K ⟨[(1,op 0),(2,op 1),(4,op 2),(11,iv p)],hq [bP b 0 a,bQ 0 [iv 0,iv 0,iv 0],bQ 0 y]⟩
def Nu(b:Bool)(a:LA)(K:St->O R):=fun ah h=>K ⟨[(1,op 0),(2,op 1),(4,op 2),(11,iv ah)],hq [bP b 0 a,bQ 0 [iv 0,iv 0,iv 0],bQ 0 h]⟩
def Aju(b:Bool)(a:LA)(K:St->O R):=fun z q=>K ⟨[(1,op 0),(2,op 1),(4,op 2),(10,iv z)],hq [bP b 0 a,bQ 0 [iv 0,iv 0,iv 0],bQ 0 q]⟩
def Ajv(b:Bool)(a:LA)(K:St->O R):=fun aa r=>K ⟨[(1,op 0),(2,op 1),(4,op 2),(9,iv aa)],hq [bP b 0 a,bQ 0 [iv 0,iv 0,iv 0],bQ 0 r]⟩
def Ajw(b:Bool)(a:LA)(K:St->O R):=fun ab s=>K ⟨[(1,op 0),(2,op 1),(4,op 2),(8,iv ab)],hq [bP b 0 a,bQ 0 [iv 0,iv 0,iv 0],bQ 0 s]⟩
def Ajx(b:Bool)(a:LA)(K:St->O R):=fun ac t=>K ⟨[(1,op 0),(2,op 1),(4,op 2),(7,iv ac)],hq [bP b 0 a,bQ 0 [iv 0,iv 0,iv 0],bQ 0 t]⟩
def Ajy(b:Bool)(a:LA)(K:St->O R):=fun ad u=>K ⟨[(1,op 0),(2,op 1),(4,op 2),(6,iv ad)],hq [bP b 0 a,bQ 0 [iv 0,iv 0,iv 0],bQ 0 u]⟩
def ny(b:Bool)(a:LA)(K:St->O R):=fun ai v=>K ⟨[(1,op 0),(2,op 1),(4,op 2),(5,iv ai)],hq [bP b 0 a,bQ 0 [iv 0,iv 0,iv 0],bQ 0 v]⟩
def vf Q0 (F:KF R) (b a):Ajs b a (Bo (Gb N F (pz 87105) [Q0]))=(Wy N (ny b a Q0) (Kv F) b a):=by kernel_rfl
def r7(Q7 Q9)(F:KF R)(c d b a f g):∀ n,Ad2 c d b a f g (Ak (Gb N F (pz 24019179469541444) [Q7,Q9]) n)=(Lt N (Nu b a Q7) (WR c d b a f g Q9) (Kv F) c d b a f g n):=Ds fun n e=>(Bs (Wz N (Nu b a Q7) (WR c d b a f g Q9) (Kv F) c d b a f g) e:_)
def vg Q7 (F:KF R) (c d b a f g):∀ n,WR c d b a f g (Ak (Gb N F (pz 366503592980) [Q7]) n)=(K5 N (Nu b a Q7) (Kv F) c d b a f g n):=Ds fun n e=>(Xs (AT N (Nu b a Q7) (Kv F) c d b a f g) e ((lW ..).trans ((r7 ..).trans (rB (Lt _ _ · _ _ _ _ _ _ _ _) e))):_)
def vh Q7 (F:KF R) (b a):Ajt b a (Bo (Gb N F (pz 357913665) [Q7]))=(GS N (Nu b a Q7) (Kv F) b a):=(Bs (QA N (Nu b a Q7) (Kv F) b a) (Aip fun c d f g=>(lW ..).trans (vg ..)):_)
def vj(F:KF R)(b a):∀ n,Nu b a (Ak (Gb N F (pz 22369604) []) n)=(Fi N (Kv F) b a n):=Ds fun n e=>(Xs (Ty N (Kv F) b a) e ((jW ..).trans ((vh ..).trans (rB (GS _ · _ _ _) e))):_)
def vq(F:KF R)(b a):∀ n,Aju b a (Ak (Gb N F (pz 5592388) []) n)=(Np N (Kv F) b a n):=Ds fun n e=>(Xs (AU N (Kv F) b a) e ((lW ..).trans (vj ..)):_)
def vr(F:KF R)(b a):∀ n,Ajv b a (Ak (Gb N F (pz 1398084) []) n)=(Nq N (Kv F) b a n):=Ds fun n e=>(Xs (AW N (Kv F) b a) e ((lW ..).trans (vq ..)):_)
def vt(F:KF R)(b a):∀ n,Ajw b a (Ak (Gb N F (pz 349508) []) n)=(Nr N (Kv F) b a n):=Ds fun n e=>(Xs (AX N (Kv F) b a) e ((lW ..).trans (vr ..)):_)
def vu(F:KF R)(b a):∀ n,Ajx b a (Ak (Gb N F (pz 87364) []) n)=(Ns N (Kv F) b a n):=Ds fun n e=>(Xs (AY N (Kv F) b a) e ((lW ..).trans (vt ..)):_)
def vw(F:KF R)(b a):∀ n,Ajy b a (Ak (Gb N F (pz 21828) []) n)=(Nt N (Kv F) b a n):=Ds fun n e=>(Xs (AZ N (Kv F) b a) e ((lW ..).trans (vu ..)):_)
def vz(F:KF R)(b a):∀ n,ny b a (Ak (Gb N F (pz 5444) []) n)=(K6 N (Kv F) b a n):=Ds fun n e=>(A7h (A_ N (Kv F) b a) e ((jW ..).trans ((vf ..).trans (rB (Wy _ · _ _ _) e))) ((lW ..).trans (vw ..)):_)
def An2:=B4 N 16 (tk N) nv (fun
|[.pagg a b],[]=>some fun _ k=>SO N a b (Kv k)
| _,_=>none) fun _ _=>by split;intro R F;exact(Bs (WQ N (Kv F) · _ _) ((lW ..).trans (vz ..)):_).trans (jg ..).symm;trivial
def WS(k2:Int->Int->Nat->LA->O R)(r0:LA->O R)(l:Int)(a:LA)(b:Nat)(c:Bool)(h:Int)(d f:Nat)(g i:LA)(au av:Int)(w:Nat)(aw:LA):O R:=(Ag N l a b false c av fun ba bo=>Ag N (wrap .i64 (l - 1)) a b false c bo fun bp bq=>cond (l==0) none (Wf N (w:Int) ba (Int.tmod (wrap .i64 ((wrap .i64 (ba+1))+bp)) l) h a b false c bq fun bb br=>cond ((beq bb.length 12)&&(ble 12 12)) (cond ((ble (w+1) 140737488355328)&&(ble ((w+1)*120) 140737488355328)) (k2 (wrap .i64 (au - 1)) br (w+1) ((aw.take (w*12))++((setCells [.str ([]:Lu),Bfg,Bfg,Bfg,Bfg,Bfg,Bfg,Bfg,Bfg,Bfg,Bfg,.nsl] 0 bb).take 12))) none) none))
def WT(k7:Int->Int->Nat->LA->O R)(r0:LA->O R)(a:LA)(b:Nat)(c:Bool)(h:Int)(d f m j q s:Nat)(g i o p r t:LA)(aj ax:Int)(u:Nat)(aa:LA):O R:=(Qg N (u:Int) (m:Int) (j:Int) a b false c ax fun ab bc=>cond ((beq 0 0)&&((beq ab.length 4)&&(beq 4 4))) (cond ((ble (0+u) 140737488355328)&&(ble ((0+u)*72) 140737488355328)) (cond (ble 4 ab.length) (cond ((beq ((ab.take 4).length) 4)&&(ble 4 4)) (cond ((ble ((0+u)+1) 140737488355328)&&(ble (((0+u)+1)*72) 140737488355328)) (SO N [.int .i64 h,.imm (g.take (d*1)) d 1 false true,.imm (i.take (f*3)) f 3 false true,.imm (o.take (m*12)) m 12 false true,.imm (p.take (j*22)) j 22 false true,.imm (r.take (q*9)) q 9 false true,.imm (t.take (s*5)) s 5 false true,.imm (take (((0+u)+1)*4) (((aa.take (u*4)).take ((0+u)*4))++((setCells [.str ([]:Lu),.nsl,.bool false,.nsl] 0 (ab.take 4)).take 4))) ((0+u)+1) 4 false true] true fun bs bt=>cond ((beq bs.length 3)&&((ble 3 3)&&(!false))) (cond (bt==0) (k7 (wrap .i64 (aj - 1)) bc ((0+u)+1) (((aa.take (u*4)).take ((0+u)*4))++((setCells [.str ([]:Lu),.nsl,.bool false,.nsl] 0 (ab.take 4)).take 4))) (k7 (wrap .i64 (aj - 1)) bc u aa)) none) none) none) none) none) none)
def CM(N:Nat)(r0:LA->O R)(a:LA)(b:Nat)(c:Bool)(h:Int)(d f m j q s:Nat)(g i o p r t:LA)(k7:Int->Int->Nat->LA->O R)(q8:Int->Int->Nat->LA->O R)(ak ay:Int)(x:Nat)(ac:LA):O R:=(cond ((decide (ak>0))==true) (cond (cond true (decide ((m:Int)>0)) false) (q8 ak ay x ac) (r0 [.int .i64 h,.imm (g.take (d*1)) d 1 false false,.imm (i.take (f*3)) f 3 false false,.imm (o.take (m*12)) m 12 false false,.imm (p.take (j*22)) j 22 false false,.imm (r.take (q*9)) q 9 false false,.imm (t.take (s*5)) s 5 false false,.imm (ac.take (x*4)) x 4 false false])) (r0 [.int .i64 h,.imm (g.take (d*1)) d 1 false false,.imm (i.take (f*3)) f 3 false false,.imm (o.take (m*12)) m 12 false false,.imm (p.take (j*22)) j 22 false false,.imm (r.take (q*9)) q 9 false false,.imm (t.take (s*5)) s 5 false false,.imm (ac.take (x*4)) x 4 false false]))
def Jv(r0:LA->O R)(a:LA)(b:Nat)(c:Bool)(h:Int)(d f m j q s:Nat)(g i o p r t:LA):Nat->Int->Int->Nat->LA->O R
|0=>fun _ _ _ _=>none
|n+1=>CM N r0 a b c h d f m j q s g i o p r t (Jv r0 a b c h d f m j q s g i o p r t n) (WT N (Jv r0 a b c h d f m j q s g i o p r t n) r0 a b c h d f m j q s g i o p r t)
def dV(r0:LA->O R)(a:LA)(b:Nat)(c:Bool)(h:Int)(d f m j q:Nat)(g i o p r:LA)(q7:Nat->LA->Int->Int->Nat->LA->O R)(ad:Int)(s:Nat)(t:LA):O R:=(Ag N 4 a b false c ad fun bu bv=>q7 s t bu bv 0 [])
def WU(r0:LA->O R)(a:LA)(b:Nat)(c:Bool)(h:Int)(d f m j q:Nat)(g i o p r:LA)(ad:Int)(s:Nat)(t:LA):O R:=dV N r0 a b c h d f m j q g i o p r (fun s t=>Jv N r0 a b c h d f m j q s g i o p r t N) ad s t
def NR(r0:LA->O R)(l:Int)(a:LA)(b:Nat)(c:Bool)(h:Int)(d f m j:Nat)(g i o p:LA)(q6:Nat->LA->Int->Nat->LA->O R)(ae:Int)(q:Nat)(r:LA):O R:=(Ag N 3 a b false c ae fun bw bd=>cond (bw==2) (Ag N l a b false c bd fun bx bz=>Hq N h 12 a b false c bz fun be ca cb=>Hq N h 12 a b false c ca fun bf cc cd=>Hq N h 40 a b false c cc fun bg ce cf=>q6 q r ce 1 [.str ([116,48]:Lu),.int .i64 bx,.imm (cb.take (be*1)) be 1 false false,.imm (cd.take (bf*1)) bf 1 false false,.imm (cf.take (bg*1)) bg 1 false false]) (q6 q r bd 0 []))
def KE(r0:LA->O R)(l:Int)(a:LA)(b:Nat)(c:Bool)(h:Int)(d f m j:Nat)(g i o p:LA)(ae:Int)(q:Nat)(r:LA):O R:=NR N r0 l a b c h d f m j g i o p (fun q r=>WU N r0 a b c h d f m j q g i o p r) ae q r
def CN(r0:LA->O R)(l:Int)(a:LA)(b:Nat)(c:Bool)(h:Int)(d f:Nat)(g i:LA)(k4:Int->Int->Nat->Nat->LA->LA->O R)(q5:Nat->Nat->LA->LA->Int->Nat->LA->O R)(al am:Int)(m j:Nat)(o p:LA):O R:=(cond (decide (al>0)) (Wg N (j:Int) l h a b false c am fun bh cg=>cond ((beq bh.length 22)&&(ble 22 22)) (cond ((ble (j+1) 140737488355328)&&(ble ((j+1)*216) 140737488355328)) (k4 (wrap .i64 (al - 1)) cg m (j+1) o ((p.take (j*22))++((setCells [.str ([]:Lu),Bfg,Bfg,Bfg,.nsl,Bfg,Bfg,Bfg,Bfg,Bfg,Bfg,Bfg,Bfg,Bfg,Bfg,Bfg,Bfg,Bfg,.nsl,Bfg,Bfg,Bfg] 0 bh).take 22))) none) none) (Ag N 3 a b false c am fun ch bi=>cond (ch==2) (Ag N l a b false c bi fun ci cj=>Ag N 20 a b false c cj fun az ck=>Ag N 8 a b false c ck fun cl cm=>Ag N 8 a b false c cm fun cn co=>Ag N 4 a b false c co fun cp cq=>Ag N (wrap .i64 (az+1)) a b false c cq fun cr cs=>Ag N (wrap .i64 (az+1)) a b false c cs fun ct cu=>q5 m j o p cu 1 [.str ([115,48]:Lu),.int .i64 ci,.int .i64 az,.int .i64 cr,.int .i64 ct,.int .i64 cl,.int .i64 cn,.int .i64 (wrap .i64 (1+cp)),.int .i64 4]) (q5 m j o p bi 0 [])))
def Qt(r0:LA->O R)(l:Int)(a:LA)(b:Nat)(c:Bool)(h:Int)(d f:Nat)(g i:LA):Nat->Int->Int->Nat->Nat->LA->LA->O R
|0=>fun _ _ _ _ _ _=>none
|n+1=>CN N r0 l a b c h d f g i (Qt r0 l a b c h d f g i n) (fun m j o p=>KE N r0 l a b c h d f m j g i o p)
def CO(r0:LA->O R)(l:Int)(a:LA)(b:Nat)(c:Bool)(h:Int)(d f:Nat)(g i:LA)(k2:Int->Int->Nat->LA->O R)(q3:Int->Int->Nat->LA->O R)(q4:Int->Int->Nat->Nat->LA->LA->O R)(an af:Int)(ag:Nat)(ah:LA):O R:=(cond ((decide (an>0))==true) (cond (cond true (decide (l>1)) false) (q3 an af ag ah) (Ag N 3 a b false c af fun cv cw=>q4 (wrap .i64 (1+cv)) cw ag 0 ah [])) (Ag N 3 a b false c af fun cx cy=>q4 (wrap .i64 (1+cx)) cy ag 0 ah []))
def Qu(r0:LA->O R)(l:Int)(a:LA)(b:Nat)(c:Bool)(h:Int)(d f:Nat)(g i:LA):Nat->Int->Int->Nat->LA->O R
|0=>fun _ _ _ _=>none
|n+1=>CO N r0 l a b c h d f g i (Qu r0 l a b c h d f g i n) (WS N (Qu r0 l a b c h d f g i n) r0 l a b c h d f g i) (Qt N r0 l a b c h d f g i N)
def NS(r0:LA->O R)(a:LA)(b:Nat)(c:Bool)(h:Int)(d f:Nat)(g i:LA)(k1:Int->Int->Int->Nat->LA->O R)(q2:Int->Int->Int->Nat->LA->O R)(l z ao:Int)(v:Nat)(ap:LA):O R:=(cond (decide (z<l)) (Ag N z a b false c ao fun cz da=>Wf N (v:Int) cz z h a b false c da fun bj db=>cond ((beq bj.length 12)&&(ble 12 12)) (cond ((ble (v+1) 140737488355328)&&(ble ((v+1)*120) 140737488355328)) (k1 l (wrap .i64 (z+1)) db (v+1) ((ap.take (v*12))++((setCells [.str ([]:Lu),Bfg,Bfg,Bfg,Bfg,Bfg,Bfg,Bfg,Bfg,Bfg,Bfg,.nsl] 0 bj).take 12))) none) none) (Ag N 5 a b false c ao fun dc dd=>q2 l dc dd v ap))
def Zf(r0:LA->O R)(a:LA)(b:Nat)(c:Bool)(h:Int)(d f:Nat)(g i:LA):Nat->Int->Int->Int->Nat->LA->O R
|0=>fun _ _ _ _ _=>none
|n+1=>NS N r0 a b c h d f g i (Zf r0 a b c h d f g i n) (fun l=>Qu N r0 l a b c h d f g i N)
def CP(r0:LA->O R)(a:LA)(b:Nat)(c:Bool)(d:Nat)(g:LA)(k0:Int->Int->Int->Nat->LA->O R)(q1:Int->Nat->LA->Int->Int->Int->Nat->LA->O R)(ai aq h:Int)(f:Nat)(i:LA):O R:=(cond (decide (ai>0)) (VL N ([98]:Lu) (f:Int) fun bk=>Hq N h 14 a b false c aq fun ar de bl=>Ag N 2 a b false c de fun df bm=>cond (df==1) (Ag N 200 a b false c bm fun dg dh=>cond ((ble (f+1) 140737488355328)&&(ble ((f+1)*48) 140737488355328)) (k0 (wrap .i64 (ai - 1)) dh h (f+1) ((i.take (f*3))++[.str bk,.imm (bl.take (ar*1)) ar 1 false false,.int .i64 (wrap .i64 (100+dg))])) none) (cond ((ble (f+1) 140737488355328)&&(ble ((f+1)*48) 140737488355328)) (k0 (wrap .i64 (ai - 1)) bm h (f+1) ((i.take (f*3))++[.str bk,.imm (bl.take (ar*1)) ar 1 false false,Bfg])) none)) (q1 h f i (f:Int) 1 aq 0 []))
def Nv(r0:LA->O R)(a:LA)(b:Nat)(c:Bool)(d:Nat)(g:LA):Nat->Int->Int->Int->Nat->LA->O R
|0=>fun _ _ _ _ _=>none
|n+1=>CP N r0 a b c d g (Nv r0 a b c d g n) (fun h f i=>Zf N r0 a b c h d f g i N)
def nz(r0:LA->O R)(q0:Nat->LA->Int->Int->Int->Nat->LA->O R)(a:LA)(b:Nat)(y c:Bool):O R:=(Ar7 N a b false c (Ag N 3 a b false c 0 fun bn di=>Hq N (wrap .i64 (1+bn)) 5 a b false c di fun d dj g=>Ag N 4 a b false c dj fun dk dl=>q0 d g (wrap .i64 (1+dk)) dl (wrap .i64 (1+bn)) 0 []))
def WV:=(Ac fun N a b y c r0=>nz (R:=R) N r0 (fun d g=>Nv N r0 a b c d g N) a b y c).1
def tp(a b y c r0):(@WV R N a b y c r0)=(nz N r0 (fun d g=>Nv N r0 a b c d g N) a b y c):=by rw[WV,(Ac _).2]
def zN:Hints:={H:=hK 4 (hS (hK 1 (hS (hP [2,3,4,5] hL) hL)) (hK 1 (hS (hK 1 (hS (hP [2,3,4,7,8] hL) hL)) (hS (hK 1 (hS (hP [2,3,4,7,9] (hJ [2,3,4,7,9] hL hL)) hL)) (hS (hK 1 (hS (hP [2,3,4,7,11] hL) hL)) (hJ [2,3,4,7] hL (hJ [2,3,4] hL (hS (hK 1 (hS (hP [2,3,4,13] (hJ [2,3,4,13] hL hL)) hL)) hL)))))))),modes:=[(3,0)],cob:=[23,44,192]}
def Agh:O6:=[Az0 N,Md N,vL N,gJ N,yW N,yX N,rE N,An2 N]
def Nw(F:KF R):=Iq Tryz.f4 zN (Agh N) [] N F
def Asn(l:Int)(a:LA)(b:Nat)(c:Bool)(h:Int)(d f:Nat)(g i:LA)(K:St->O R):=fun au av w aw=>K ⟨[(2,op 0),(3,op 1),(4,op 2),(7,iv l),(9,iv au)],hq [bN 0 [iv 0,.nsl,.nsl,.nsl,.nsl,.nsl,.nsl,.nsl],bN 0 [.imm a b 1 false c,iv av],bN 0 [iv h,Bff 3 d,Bff 4 f,Bff 5 w,Bff 6 0,Bff 7 0,Bff 8 0,Bff 9 0],bQ 1 g,bQ 3 i,bQ 12 aw,bQ 22 [],bQ 9 [],bQ 5 [],bQ 4 []]⟩
def Aso(a:LA)(b:Nat)(c:Bool)(h:Int)(d f m j q s:Nat)(g i o p r t:LA)(K:St->O R):=fun aj ax u aa=>K ⟨[(2,op 0),(3,op 1),(4,op 2),(13,iv aj)],hq [bN 0 [iv 0,.nsl,.nsl,.nsl,.nsl,.nsl,.nsl,.nsl],bN 0 [.imm a b 1 false c,iv ax],bN 0 [iv h,Bff 3 d,Bff 4 f,Bff 5 m,Bff 6 j,Bff 7 q,Bff 8 s,Bff 9 u],bQ 1 g,bQ 3 i,bQ 12 o,bQ 22 p,bQ 9 r,bQ 5 t,bQ 4 aa]⟩
def zO(a:LA)(b:Nat)(c:Bool)(h:Int)(d f m j q s:Nat)(g i o p r t:LA)(K:St->O R):=fun ak ay x ac=>K ⟨[(2,op 0),(3,op 1),(4,op 2),(13,iv ak)],hq [bN 0 [iv 0,.nsl,.nsl,.nsl,.nsl,.nsl,.nsl,.nsl],bN 0 [.imm a b 1 false c,iv ay],bN 0 [iv h,Bff 3 d,Bff 4 f,Bff 5 m,Bff 6 j,Bff 7 q,Bff 8 s,Bff 9 x],bQ 1 g,bQ 3 i,bQ 12 o,bQ 22 p,bQ 9 r,bQ 5 t,bQ 4 ac]⟩
def Asp(a:LA)(b:Nat)(c:Bool)(h:Int)(d f m j q:Nat)(g i o p r:LA)(K:St->O R):=fun ad s t=>K ⟨[(2,op 0),(3,op 1),(4,op 2)],hq [bN 0 [iv 0,.nsl,.nsl,.nsl,.nsl,.nsl,.nsl,.nsl],bN 0 [.imm a b 1 false c,iv ad],bN 0 [iv h,Bff 3 d,Bff 4 f,Bff 5 m,Bff 6 j,Bff 7 q,Bff 8 s,Bff 9 0],bQ 1 g,bQ 3 i,bQ 12 o,bQ 22 p,bQ 9 r,bQ 5 t,bQ 4 []]⟩
def Asq(l:Int)(a:LA)(b:Nat)(c:Bool)(h:Int)(d f m j:Nat)(g i o p:LA)(K:St->O R):=fun ae q r=>K ⟨[(2,op 0),(3,op 1),(4,op 2),(7,iv l)],hq [bN 0 [iv 0,.nsl,.nsl,.nsl,.nsl,.nsl,.nsl,.nsl],bN 0 [.imm a b 1 false c,iv ae],bN 0 [iv h,Bff 3 d,Bff 4 f,Bff 5 m,Bff 6 j,Bff 7 q,Bff 8 0,Bff 9 0],bQ 1 g,bQ 3 i,bQ 12 o,bQ 22 p,bQ 9 r,bQ 5 [],bQ 4 []]⟩
def Asr(l:Int)(a:LA)(b:Nat)(c:Bool)(h:Int)(d f:Nat)(g i:LA)(K:St->O R):=fun al am m j o p=>K ⟨[(2,op 0),(3,op 1),(4,op 2),(7,iv l),(11,iv al)],hq [bN 0 [iv 0,.nsl,.nsl,.nsl,.nsl,.nsl,.nsl,.nsl],bN 0 [.imm a b 1 false c,iv am],bN 0 [iv h,Bff 3 d,Bff 4 f,Bff 5 m,Bff 6 j,Bff 7 0,Bff 8 0,Bff 9 0],bQ 1 g,bQ 3 i,bQ 12 o,bQ 22 p,bQ 9 [],bQ 5 [],bQ 4 []]⟩
def zP(l:Int)(a:LA)(b:Nat)(c:Bool)(h:Int)(d f:Nat)(g i:LA)(K:St->O R):=fun an af ag ah=>K ⟨[(2,op 0),(3,op 1),(4,op 2),(7,iv l),(9,iv an)],hq [bN 0 [iv 0,.nsl,.nsl,.nsl,.nsl,.nsl,.nsl,.nsl],bN 0 [.imm a b 1 false c,iv af],bN 0 [iv h,Bff 3 d,Bff 4 f,Bff 5 ag,Bff 6 0,Bff 7 0,Bff 8 0,Bff 9 0],bQ 1 g,bQ 3 i,bQ 12 ah,bQ 22 [],bQ 9 [],bQ 5 [],bQ 4 []]⟩
def Ass(a:LA)(b:Nat)(c:Bool)(h:Int)(d f:Nat)(g i:LA)(K:St->O R):=fun l z ao v ap=>K ⟨[(2,op 0),(3,op 1),(4,op 2),(7,iv l),(8,iv z)],hq [bN 0 [iv 0,.nsl,.nsl,.nsl,.nsl,.nsl,.nsl,.nsl],bN 0 [.imm a b 1 false c,iv ao],bN 0 [iv h,Bff 3 d,Bff 4 f,Bff 5 v,Bff 6 0,Bff 7 0,Bff 8 0,Bff 9 0],bQ 1 g,bQ 3 i,bQ 12 ap,bQ 22 [],bQ 9 [],bQ 5 [],bQ 4 []]⟩
def Ast(a:LA)(b:Nat)(c:Bool)(d:Nat)(g:LA)(K:St->O R):=fun ai aq h f i=>K ⟨[(2,op 0),(3,op 1),(4,op 2),(5,iv ai)],hq [bN 0 [iv 0,.nsl,.nsl,.nsl,.nsl,.nsl,.nsl,.nsl],bN 0 [.imm a b 1 false c,iv aq],bN 0 [iv h,Bff 3 d,Bff 4 f,Bff 5 0,Bff 6 0,Bff 7 0,Bff 8 0,Bff 9 0],bQ 1 g,bQ 3 i,bQ 12 [],bQ 22 [],bQ 9 [],bQ 5 [],bQ 4 []]⟩
def Ad3 Q2 (F:KF R) (l a b c h d f g i):Asn l a b c h d f g i (Bo (Nw N F (pz 22369345) [Q2]))=(WS N (zP l a b c h d f g i Q2) (Ku F) l a b c h d f g i):=by kernel_rfl
def Ad4 Q7 (F:KF R) (a b c h d f m j q s g i o p r t):Aso a b c h d f m j q s g i o p r t (Bo (Nw N F (pz 5726622785) [Q7]))=(WT N (zO a b c h d f m j q s g i o p r t Q7) (Ku F) a b c h d f m j q s g i o p r t):=by kernel_rfl
def Ad5(F:KF R)(a b c h d f m j q s g i o p r t):∀ n,zO a b c h d f m j q s g i o p r t (Ak (Nw N F (pz 357913924) []) n)=(Jv N (Ku F) a b c h d f m j q s g i o p r t n):=Ds fun n e=>(Xs (CM N (Ku F) a b c h d f m j q s g i o p r t) e ((jW ..).trans ((Ad4 ..).trans (rB (WT _ · _ _ _ _ _ _ _ _ _ _ _ _ _ _ _ _ _) e))):_)
def Ad6(F:KF R)(a b c h d f m j q g i o p r):Asp a b c h d f m j q g i o p r (Bo (Nw N F (pz 5592405) []))=(WU N (Ku F) a b c h d f m j q g i o p r):=(Bs (dV N (Ku F) a b c h d f m j q g i o p r) (MR fun s t=>(lW ..).trans (Ad5 ..)):_)
def Ad7(F:KF R)(l a b c h d f m j g i o p):Asq l a b c h d f m j g i o p (Bo (Nw N F (pz 1398101) []))=(KE N (Ku F) l a b c h d f m j g i o p):=(Bs (NR N (Ku F) l a b c h d f m j g i o p) (MR fun q r=>(jW ..).trans (Ad6 ..)):_)
def Ad8(F:KF R)(l a b c h d f g i):∀ n,Asr l a b c h d f g i (Ak (Nw N F (pz 5592388) []) n)=(Qt N (Ku F) l a b c h d f g i n):=Ds fun n e=>(Xs (CN N (Ku F) l a b c h d f g i) e (Aip fun m j o p=>(jW ..).trans (Ad7 ..)):_)
def Ad9(F:KF R)(l a b c h d f g i):∀ n,zP l a b c h d f g i (Ak (Nw N F (pz 1398084) []) n)=(Qu N (Ku F) l a b c h d f g i n):=Ds fun n e=>(A7h (CO N (Ku F) l a b c h d f g i) e ((jW ..).trans ((Ad3 ..).trans (rB (WS _ · _ _ _ _ _ _ _ _ _ _) e))) ((lW ..).trans (Ad8 ..)):_)
def Aea(F:KF R)(a b c h d f g i):∀ n,Ass a b c h d f g i (Ak (Nw N F (pz 349508) []) n)=(Zf N (Ku F) a b c h d f g i n):=Ds fun n e=>(Xs (NS N (Ku F) a b c h d f g i) e (qY fun l=>(lW ..).trans (Ad9 ..)):_)
def Aeb(F:KF R)(a b c d g):∀ n,Ast a b c d g (Ak (Nw N F (pz 21828) []) n)=(Nv N (Ku F) a b c d g n):=Ds fun n e=>(Xs (CP N (Ku F) a b c d g) e (A2b fun h f i=>(lW ..).trans (Aea ..)):_)
def Axp:=B4 N 4 (Agh N) zN (fun
|[.imm a b 1 y c],[]=>some fun _ k=>WV N a b y c (Ku k)
| _,_=>none) fun _ _=>by split;intro R F;exact(Bs (nz N (Ku F) · _ _ _ _) (MR fun d g=>(lW ..).trans (Aeb ..)):_).trans (tp ..).symm;trivial
def Asu(N:Nat)(c d:Int)(b:Bool)(a:LA)(r0:Bool->LA->O R):O R:=(As .i64 (a.drop 11) fun e=>cond (e==0) (cond ((beq 3 3)&&((ble 11 a.length)&&(!false))) (r0 (b||false) (C3 a 8 [.int .i64 c,.int .i64 d,Bfg])) none) (r0 b a))
def dW:=(Ac (@Asu R)).1
def Agi:@dW R=@Asu R:=(Ac _).2
def NT:=B4 N 52 [] Bt (fun
|[.optr 100000 0,.int .i64 c,.int .i64 d],[(100000,⟨false,false,true,b,0,a,false,none⟩)]=>some fun _ k=>dW N c d b a (D1 k)
| _,_=>none) fun _ _=>by split;intro R F;dsimp only;rw[Agi];kernel_rfl;trivial
def zQ(N:Nat)(d:Bool)(c e:Int)(b:Bool)(a:LA)(r0:Bool->LA->O R):O R:=(As .i64 (a.drop 11) fun f=>cond ((f==0)==true) (cond (cond true (!d) false) (cond ((beq 1 1)&&((ble 11 a.length)&&(!false))) (cond ((beq 1 1)&&((ble 12 ((a.set 10 (.int .i64 c)).length))&&(!false))) (r0 ((b||false)||false) ((a.set 10 (.int .i64 c)).set 11 (.int .i64 e))) none) none) (r0 b a)) (r0 b a))
def A8:=(Ac (@zQ R)).1
def tq:@A8 R=@zQ R:=(Ac _).2
def Ez:=B4 N 55 [] Bt (fun
|[.optr 100000 0,.bool d,.int .i64 c,.int .i64 e],[(100000,⟨false,false,true,b,0,a,false,none⟩)]=>some fun _ k=>A8 N d c e b a (D1 k)
| _,_=>none) fun _ _=>by split;intro R F;dsimp only;rw[tq];kernel_rfl;trivial
def lS(a b e f:Int)(c:Bool)(d:LA)(r0:Bool->LA->O R):O R:=(cond ((decide (b>=e))==true) (A8 N (cond true (decide (b<=f)) false) a 3 c d fun g h=>r0 g h) (A8 N false a 3 c d fun i j=>r0 i j))
def Bg:=(Ac (@lS R)).1
def jh:@Bg R=@lS R:=(Ac _).2
def K8:=B4 N 53 [Ez N] Bt (fun
|[.optr 100000 0,.int .i64 a,.int .i64 b,.int .i64 e,.int .i64 f],[(100000,⟨false,false,true,c,0,d,false,none⟩)]=>some fun _ k=>Bg N a b e f c d (D1 k)
| _,_=>none) fun _ _=>by split;intro R F;dsimp only;rw[jh];kernel_rfl;trivial
def BA(r0:Bool->LA->O R)(b c d:Int)(f:LA)(a:Nat)(g h:Bool)(k0:Int->Int->Bool->LA->O R)(p l:Int)(o:Bool)(m:LA):O R:=(cond (decide (l<p)) (cond (Ad l a) (As .i64 (f.drop (l.toNat*1)) fun q=>As .i64 (m.drop 11) fun r=>cond (r != 0) (r0 o m) (Bg N b q c d o m fun s t=>k0 p (wrap .i64 (l+1)) s t)) none) (r0 o m))
def Nx(r0:Bool->LA->O R)(b c d:Int)(f:LA)(a:Nat)(g h:Bool):Nat->Int->Int->Bool->LA->O R
|0=>fun _ _ _ _=>none
|n+1=>BA N r0 b c d f a g h (Nx r0 b c d f a g h n)
def WW(r0:Bool->LA->O R)(q0:Int->Int->Bool->LA->O R)(b:Int)(f:LA)(a:Nat)(g h:Bool)(c d:Int)(j:Bool)(i:LA):O R:=(As .i64 i fun u=>A8 N ((a:Int)==u) b 4 j i fun v w=>q0 (a:Int) 0 v w)
def Sg:=(Ac fun N b f a g h c d j i r0=>WW (R:=R) N r0 (Nx N r0 b c d f a g h N) b f a g h c d j i).1
def ji(b f a g h c d j i r0):(@Sg R N b f a g h c d j i r0)=(WW N r0 (Nx N r0 b c d f a g h N) b f a g h c d j i):=by rw[Sg,(Ac _).2]
def oA:Hints:={H:=hK 2 (hS (hP [0,1,3,4,23,24,25] hL) hL)}
def tt:O6:=[Ez N,K8 N]
def Ajz(F:KF R):=Iq Tryz.f54 oA (tt N) [100000] N F
def Aj0(b c d:Int)(f:LA)(a:Nat)(g h:Bool)(K:St->O R):=fun p l o m=>K ⟨[(0,.optr 100000 0),(1,iv b),(3,iv c),(4,iv d),(23,.imm f a 1 g h),(24,iv p),(25,iv l)],[(100000,bP o 0 m)]⟩
def wB(F:KF R)(b c d f a g h):∀ n,Aj0 b c d f a g h (Ak (Ajz N F (pz 84) []) n)=(Nx N (D1 F) b c d f a g h n):=Ds fun n e=>(Bs (BA N (D1 F) b c d f a g h) e:_)
def dX:=B4 N 54 (tt N) oA (fun
|[.optr 100000 0,.int .i64 b,.imm f a 1 g h,.int .i64 c,.int .i64 d],[(100000,⟨false,false,true,j,0,i,false,none⟩)]=>some fun _ k=>Sg N b f a g h c d j i (D1 k)
| _,_=>none) fun _ _=>by split;intro R F;exact(Bs (WW N (D1 F) · _ _ _ _ _ _ _ _ _) ((lW ..).trans (wB ..)):_).trans (ji ..).symm;trivial
def NU(r0:Bool->LA->O R)(e:Bool)(c:LA):O R:=(Bh 12 (c.drop 3) fun aj o=>A8 N (decide ((o:Int)<=64)) 3 8 e c fun p f=>Bh 22 (f.drop 4) fun ak q=>A8 N (decide ((q:Int)<=16)) 4 8 p f fun r g=>Bh 9 (g.drop 5) fun al s=>A8 N (decide ((s:Int)<=8)) 5 8 r g fun t h=>Bh 5 (h.drop 6) fun am u=>A8 N (decide ((u:Int)<=8)) 6 8 t h fun v i=>Bh 4 (i.drop 7) fun an w=>A8 N (decide ((w:Int)<=64)) 7 8 v i fun x y=>r0 x y)
def g8(r0:Bool->LA->O R)(q0:Bool->LA->O R)(a:Bool)(b:LA):O R:=(dW N 0 0 a b fun z j=>As .i64 j fun aa=>Bg N 0 aa 1 24 z j fun l m=>Bh 1 (m.drop 1) fun ab ac=>Sg N 1 ab ac false l 0 1048576 l m fun n d=>Bh 3 (d.drop 2) fun ao ad=>cond ((decide ((ad:Int)>=1))==true) (Bh 3 (d.drop 2) fun ap ae=>A8 N (cond true (decide ((ae:Int)<=32)) false) 2 8 n d fun af ag=>q0 af ag) (A8 N false 2 8 n d fun ah ai=>q0 ah ai))
def SP:=(Ac fun N a b r0=>g8 (R:=R) N r0 (NU N r0) a b).1
def oB(a b r0):(@SP R N a b r0)=(g8 N r0 (NU N r0) a b):=by rw[SP,(Ac _).2]
def tu:Hints:={H:=hK 3 (hJ [0] hL hL)}
def zR:O6:=[NT N,K8 N,dX N,Ez N]
def An3(F:KF R):=Iq Tryz.f17 tu (zR N) [100000] N F
def An4(K:St->O R):=fun e c=>K ⟨[(0,.optr 100000 0)],[(100000,bP e 0 c)]⟩
def zS(F:KF R):An4 (Bo (An3 N F (pz 341) []))=(NU N (D1 F)):=by kernel_rfl
def Asv:=B4 N 17 (zR N) tu (fun
|[.optr 100000 0],[(100000,⟨false,false,true,a,0,b,false,none⟩)]=>some fun _ k=>SP N a b (D1 k)
| _,_=>none) fun _ _=>by split;intro R F;exact(Bs (g8 N (D1 F) · _ _) ((jW ..).trans (zS ..)):_).trans (oB ..).symm;trivial
def NV(N:Nat)(r0:Bool->O R)(a:Lu)(k1:Int->Int->O R)(c b:Int):O R:=(cond (decide (b<c)) (cond (Ad b a.length) (cond ((decide (((UInt8.toNat (List.getD a b.toNat 0):Nat):Int)<97))==false) (cond ((cond false true (decide (((UInt8.toNat (List.getD a b.toNat 0):Nat):Int)>122)))==true) (cond ((decide (((UInt8.toNat (List.getD a b.toNat 0):Nat):Int)<48))==false) (cond ((cond true (cond false true (decide (((UInt8.toNat (List.getD a b.toNat 0):Nat):Int)>57))) false)==true) (cond (cond true (((UInt8.toNat (List.getD a b.toNat 0):Nat):Int) != 95) false) (r0 false) (k1 c (wrap .i64 (b+1)))) (k1 c (wrap .i64 (b+1)))) (cond (cond true (((UInt8.toNat (List.getD a b.toNat 0):Nat):Int) != 95) false) (r0 false) (k1 c (wrap .i64 (b+1))))) (k1 c (wrap .i64 (b+1)))) (cond ((decide (((UInt8.toNat (List.getD a b.toNat 0):Nat):Int)<48))==false) (cond ((cond true (cond false true (decide (((UInt8.toNat (List.getD a b.toNat 0):Nat):Int)>57))) false)==true) (cond (cond true (((UInt8.toNat (List.getD a b.toNat 0):Nat):Int) != 95) false) (r0 false) (k1 c (wrap .i64 (b+1)))) (k1 c (wrap .i64 (b+1)))) (cond (cond true (((UInt8.toNat (List.getD a b.toNat 0):Nat):Int) != 95) false) (r0 false) (k1 c (wrap .i64 (b+1)))))) none) (r0 true))
def Zg(r0:Bool->O R)(a:Lu):Nat->Int->Int->O R
|0=>fun _ _=>none
|n+1=>NV N r0 a (Zg r0 a n)
def dY(N:Nat)(r0:Bool->O R)(a:Lu)(q1:Int->Int->O R):O R:=(q1 ((a.length:Nat):Int) 0)
def WX(r0:Bool->O R)(a:Lu):O R:=dY N r0 a (Zg N r0 a N)
def oC(N:Nat)(r0:Bool->O R)(q0:O R)(a:Lu):O R:=(cond ((decide (((a.length:Nat):Int)<1))==false) (cond ((cond false true (decide (((a.length:Nat):Int)>16)))==false) (cond ((cond false true (a==([99,111,114,114,101,99,116,105,118,101]:Lu)))==false) (cond (Ad 0 a.length) (cond ((cond false true (decide (((UInt8.toNat (List.getD a 0 0):Nat):Int)<97)))==false) (cond (Ad 0 a.length) (cond (cond false true (decide (((UInt8.toNat (List.getD a 0 0):Nat):Int)>122))) (r0 false) q0) none) (r0 false)) none) (r0 false)) (r0 false)) (r0 false))
def Gc:=(Ac fun N a r0=>oC (R:=R) N r0 (WX N r0 a) a).1
def tv(a r0):(@Gc R N a r0)=(oC N r0 (WX N r0 a) a):=by rw[Gc,(Ac _).2]
def zT:Hints:={H:=hK 1 (hJ [0] hL (hS (hK 1 (hS (hP [0,28,29] hL) hL)) hL))}
def zU(F:KF R):=Iq Tryz.f73 zT [] [] N F
def Asw(a:Lu)(K:St->O R):=fun c b=>K ⟨[(0,.str a),(28,iv c),(29,iv b)],[]⟩
def Asx(a:Lu)(K:St->O R):=K ⟨[(0,.str a)],[]⟩
def Aec(F:KF R)a:∀ n,Asw a (Ak (zU N F (pz 1348) []) n)=(Zg N (Da F) a n):=Ds fun n e=>(Bs (NV N (Da F) a) e:_)
def Aed(F:KF R)a:Asx a (Bo (zU N F (pz 21) []))=(WX N (Da F) a):=(Bs (dY N (Da F) a) ((lW ..).trans (Aec ..)):_)
def Jg:=B4 N 73 [] zT (fun
|[.str a],[]=>some fun _ k=>Gc N a (Da k)
| _,_=>none) fun _ _=>by split;intro R F;exact(Bs (oC N (Da F) · _) ((jW ..).trans (Aed ..)):_).trans (tv ..).symm;trivial
def QB(N:Nat)(a:Int)(c:Bool)(b:LA)(r0:Lu->O R):O R:=(Bh 3 (b.drop 2) fun d e=>cond (Ad a e) (Km (d.drop (a.toNat*3)) fun f=>r0 f) none)
def GU:=(Ac (@QB R)).1
def SQ:@GU R=@QB R:=(Ac _).2
def zV:=B4 N 57 [] Bt (fun
|[.int .i64 a,.optr 100000 0],[(100000,⟨false,false,false,false,0,[.optr 100001 0],false,none⟩),(100001,⟨false,false,true,c,0,b,false,none⟩)]=>some fun _ k=>GU N a c b (Awy c b k)
| _,_=>none) fun _ _=>by split;intro R F;dsimp only;rw[SQ];kernel_rfl;trivial
def Qv(r0:Bool->LA->O R)(a:Lu)(b:Int)(k0:Int->Bool->LA->O R)(h:Int)(g:Bool)(f:LA):O R:=(cond (decide (h<b)) (As .i64 (f.drop 11) fun j=>cond (j != 0) (r0 g f) (GU N h g f fun l=>A8 N (!(l==a)) 0 10 g f fun m o=>k0 (wrap .i64 (h+1)) m o)) (r0 g f))
def I9(r0:Bool->LA->O R)(a:Lu)(b:Int):Nat->Int->Bool->LA->O R
|0=>fun _ _ _=>none
|n+1=>Qv N r0 a b (I9 r0 a b n)
def NW(r0:Bool->LA->O R)(q0:Int->Int->Bool->LA->O R)(a:Lu)(c:Bool)(d:LA):O R:=(Gc N a fun p=>A8 N p 0 9 c d fun q i=>As .i64 (i.drop 9) fun b=>q0 b 0 q i)
def KG:=(Ac fun N a c d r0=>NW (R:=R) N r0 (fun b=>I9 N r0 a b N) a c d).1
def dZ(a c d r0):(@KG R N a c d r0)=(NW N r0 (fun b=>I9 N r0 a b N) a c d):=by rw[KG,(Ac _).2]
def oD:O6:=[Jg N,Ez N,zV N]
def Aee(F:KF R):=Iq Tryz.f56 YX (oD N) [100000,100001] N F
def Aef(a:Lu)(b:Int)(K:St->O R):=fun h g f=>K ⟨[(0,.optr 100000 0),(1,.str a),(2,.fn 57 [.optr 100001 0]),(15,iv b),(16,iv h)],[(100000,bP g 0 f),(100001,bN 0 [.optr 100000 0])]⟩
def r8(F:KF R)(a b):∀ n,Aef a b (Ak (Aee N F (pz 84) []) n)=(I9 N (GD F) a b n):=Ds fun n e=>(Bs (Qv N (GD F) a b) e:_)
def Aj1:=B4 N 56 (oD N) YX (fun
|[.optr 100000 0,.str a,.fn 57 [.optr 100001 0]],[(100000,⟨false,false,true,c,0,d,false,none⟩),(100001,⟨false,false,false,false,0,[.optr 100000 0],false,none⟩)]=>some fun _ k=>KG N a c d (GD k)
| _,_=>none) fun _ _=>by split;intro R F;exact(Bs (NW N (GD F) · _ _ _) (qY fun b=>(lW ..).trans (r8 ..)):_).trans (dZ ..).symm;trivial
def GV(r0:Bool->LA->O R)(a:LA)(c:Nat)(b:Bool)(k0:Int->Int->Bool->LA->O R)(g d:Int)(h:Bool)(i:LA):O R:=(cond (decide (d<g)) (cond (Ad d c) (cond (ble 3 ((a.drop (d.toNat*3)).length)) (cond ((beq 0 0)&&((beq (((a.drop (d.toNat*3)).take 3).length) 3)&&(beq 3 3))) (dW N 1 d h i fun j l=>Km ((a.drop (d.toNat*3)).take 3) fun m=>KG N m j l fun o p=>Bh 1 (((a.drop (d.toNat*3)).take 3).drop 1) fun q r=>Sg N 1 q r false b 0 1048576 o p fun s t=>As .i64 (((a.drop (d.toNat*3)).take 3).drop 2) fun u=>Bg N 2 u 0 1048576 s t fun v w=>k0 g (wrap .i64 (d+1)) v w) none) none) none) (r0 h i))
def Qw(r0:Bool->LA->O R)(a:LA)(c:Nat)(b:Bool):Nat->Int->Int->Bool->LA->O R
|0=>fun _ _ _ _=>none
|n+1=>GV N r0 a c b (Qw r0 a c b n)
def g9(N:Nat)(r0:Bool->LA->O R)(q0:LA->Nat->Int->Int->Bool->LA->O R)(b:Bool)(f:LA):O R:=(Bh 3 (f.drop 2) fun a c=>q0 a c (c:Int) 0 b f)
def SR:=(Ac fun N b f r0=>g9 (R:=R) N r0 (fun a c=>Qw N r0 a c b N) b f).1
def oE(b f r0):(@SR R N b f r0)=(g9 N r0 (fun a c=>Qw N r0 a c b N) b f):=by rw[SR,(Ac _).2]
def tz:Hints:={H:=hK 2 (hS (hP [1,8,9,10] hL) hL)}
def zW:O6:=[NT N,Aj1 N,dX N,K8 N]
def An5(F:KF R):=Iq Tryz.f18 tz (zW N) [100000] N F
def An6(a:LA)(c:Nat)(b:Bool)(K:St->O R):=fun g d h i=>K ⟨[(1,op 0),(8,.imm a c 3 false b),(9,iv g),(10,iv d)],[(100000,bP h 0 i),(300000,bN 0 [.optr 100000 0])]⟩
def zX(F:KF R)(a c b):∀ n,An6 a c b (Ak (An5 N F (pz 84) []) n)=(Qw N (D1 F) a c b n):=Ds fun n e=>(Bs (GV N (D1 F) a c b) e:_)
def Asy:=B4 N 18 (zW N) tz (fun
|[.optr 100000 0],[(100000,⟨false,false,true,b,0,f,false,none⟩)]=>some fun _ k=>SR N b f (D1 k)
| _,_=>none) fun _ _=>by split;intro R F;exact(Bs (g9 N (D1 F) · _ _) (MR fun a c=>(lW ..).trans (zX ..)):_).trans (oE ..).symm;trivial
def QC(N:Nat)(a:Int)(c:Bool)(b:LA)(r0:Lu->O R):O R:=(Bh 12 (b.drop 3) fun d e=>cond (Ad a e) (Km (d.drop (a.toNat*12)) fun f=>r0 f) none)
def GW:=(Ac (@QC R)).1
def ST:@GW R=@QC R:=(Ac _).2
def zY:=B4 N 58 [] Bt (fun
|[.int .i64 a,.optr 100000 0],[(100000,⟨false,false,false,false,0,[.optr 100001 0],false,none⟩),(100001,⟨false,false,true,c,0,b,false,none⟩)]=>some fun _ k=>GW N a c b (Awy c b k)
| _,_=>none) fun _ _=>by split;intro R F;dsimp only;rw[ST];kernel_rfl;trivial
def Qx(r0:Bool->LA->O R)(a:Lu)(b:Int)(k0:Int->Bool->LA->O R)(h:Int)(g:Bool)(f:LA):O R:=(cond (decide (h<b)) (As .i64 (f.drop 11) fun j=>cond (j != 0) (r0 g f) (GW N h g f fun l=>A8 N (!(l==a)) 0 10 g f fun m o=>k0 (wrap .i64 (h+1)) m o)) (r0 g f))
def Ja(r0:Bool->LA->O R)(a:Lu)(b:Int):Nat->Int->Bool->LA->O R
|0=>fun _ _ _=>none
|n+1=>Qx N r0 a b (Ja r0 a b n)
def NX(r0:Bool->LA->O R)(q0:Int->Int->Bool->LA->O R)(a:Lu)(c:Bool)(d:LA):O R:=(Gc N a fun p=>A8 N p 0 9 c d fun q i=>As .i64 (i.drop 9) fun b=>q0 b 0 q i)
def KH:=(Ac fun N a c d r0=>NX (R:=R) N r0 (fun b=>Ja N r0 a b N) a c d).1
def d_(a c d r0):(@KH R N a c d r0)=(NX N r0 (fun b=>Ja N r0 a b N) a c d):=by rw[KH,(Ac _).2]
def oF:O6:=[Jg N,Ez N,zY N]
def Aeg(F:KF R):=Iq Tryz.f56 YX (oF N) [100000,100001] N F
def Aeh(a:Lu)(b:Int)(K:St->O R):=fun h g f=>K ⟨[(0,.optr 100000 0),(1,.str a),(2,.fn 58 [.optr 100001 0]),(15,iv b),(16,iv h)],[(100000,bP g 0 f),(100001,bN 0 [.optr 100000 0])]⟩
def r9(F:KF R)(a b):∀ n,Aeh a b (Ak (Aeg N F (pz 84) []) n)=(Ja N (GD F) a b n):=Ds fun n e=>(Bs (Qx N (GD F) a b) e:_)
def Aj2:=B4 N 56 (oF N) YX (fun
|[.optr 100000 0,.str a,.fn 58 [.optr 100001 0]],[(100000,⟨false,false,true,c,0,d,false,none⟩),(100001,⟨false,false,false,false,0,[.optr 100000 0],false,none⟩)]=>some fun _ k=>KH N a c d (GD k)
| _,_=>none) fun _ _=>by split;intro R F;exact(Bs (NX N (GD F) · _ _ _) (qY fun b=>(lW ..).trans (r9 ..)):_).trans (d_ ..).symm;trivial
def Aj3(b c:Int)(d:Bool)(a:LA)(r0:Bool->LA->O R):O R:=(cond ((decide (c>=0))==true) (Bh 3 (a.drop 2) fun j e=>A8 N (cond true (decide (c<(e:Int))) false) b 12 d a fun f g=>r0 f g) (A8 N false b 12 d a fun h i=>r0 h i))
def eA:=(Ac (@Aj3 R)).1
def zZ:@eA R=@Aj3 R:=(Ac _).2
def oG:=B4 N 59 [Ez N] Bt (fun
|[.optr 100000 0,.int .i64 b,.int .i64 c],[(100000,⟨false,false,true,d,0,a,false,none⟩)]=>some fun _ k=>eA N b c d a (D1 k)
| _,_=>none) fun _ _=>by split;intro R F;dsimp only;rw[zZ];kernel_rfl;trivial
def r_(N:Nat)(a:LA)(b:Bool)(r0:Bool->O R):O R:=(As .i64 (a.drop 1) fun c=>cond ((decide (c>=1))==true) (As .i64 (a.drop 1) fun d=>cond ((cond true (decide (d<=1048576)) false)==true) (As .i64 a fun e=>cond ((cond true (decide (e>=(-1048576))) false)==true) (As .i64 a fun f=>r0 (cond true (decide (f<=1048576)) false)) (r0 false)) (r0 false)) (r0 false))
def KI:=(Ac (@r_ R)).1
def oH:@KI R=@r_ R:=(Ac _).2
def z1:=B4 N 60 [] Bt (fun
|[.pagg a b],[]=>some fun _ k=>KI N a b (Da k)
| _,_=>none) fun _ _=>by split;intro R F;dsimp only;rw[oH];kernel_rfl;trivial
def Ml(N:Nat)(r0:Bool->O R)(b:LA)(a:Nat)(c d:Bool)(k0:Int->O R)(f:Int):O R:=(cond (decide (f<(a:Int))) (cond (Ad f a) (As .i64 (b.drop (f.toNat*1)) fun g=>cond (Ad (wrap .i64 (f - 1)) a) (As .i64 (b.drop (((wrap .i64 (f - 1)).toNat)*1)) fun h=>cond (decide (g<=h)) (r0 false) (k0 (wrap .i64 (f+1)))) none) none) (r0 true))
def Gr(r0:Bool->O R)(b:LA)(a:Nat)(c d:Bool):Nat->Int->O R
|0=>fun _=>none
|n+1=>Ml N r0 b a c d (Gr r0 b a c d n)
def BB(N:Nat)(r0:Bool->O R)(q0:Int->O R)(b:LA)(a:Nat)(c d:Bool):O R:=(q0 1)
def Ny:=(Ac fun N b a c d r0=>BB (R:=R) N r0 (Gr N r0 b a c d N) b a c d).1
def SU(b a c d r0):(@Ny R N b a c d r0)=(BB N r0 (Gr N r0 b a c d N) b a c d):=by rw[Ny,(Ac _).2]
def ZN:Hints:={H:=hK 1 (hS (hK 1 (hS (hP [0,3] hL) hL)) hL)}
def wC(F:KF R):=Iq Tryz.f67 ZN [] [] N F
def wD(b:LA)(a:Nat)(c d:Bool)(K:St->O R):=fun f=>K ⟨[(0,.imm b a 1 c d),(3,iv f)],[]⟩
def lT(F:KF R)(b a c d):∀ n,wD b a c d (Ak (wC N F (pz 324) []) n)=(Gr N (Da F) b a c d n):=Ds fun n e=>(Bs (Ml N (Da F) b a c d) e:_)
def KJ:=B4 N 67 [] ZN (fun
|[.imm b a 1 c d],[]=>some fun _ k=>Ny N b a c d (Da k)
| _,_=>none) fun _ _=>by split;intro R F;exact(Bs (BB N (Da F) · _ _ _ _) ((lW ..).trans (lT ..)):_).trans (SU ..).symm;trivial
def NY(r0:Bool->LA->O R)(c:Int)(b:LA)(a:Nat)(f d g:Bool)(h:LA)(k0:Int->Int->Bool->LA->O R)(m j:Int)(l:Bool)(i:LA):O R:=(cond (decide (j<m)) (cond (Ad j a) (As .i64 (b.drop (j.toNat*1)) fun o=>As .i64 (i.drop 11) fun p=>cond (p != 0) (r0 l i) (As .i64 i fun q=>Bg N c o 0 (wrap .i64 (q - 1)) l i fun r s=>k0 m (wrap .i64 (j+1)) r s)) none) (Ny N b a false d fun t=>A8 N t c 11 l i fun u v=>r0 u v))
def U7(r0:Bool->LA->O R)(c:Int)(b:LA)(a:Nat)(f d g:Bool)(h:LA):Nat->Int->Int->Bool->LA->O R
|0=>fun _ _ _ _=>none
|n+1=>NY N r0 c b a f d g h (U7 r0 c b a f d g h n)
def oI(N:Nat)(r0:Bool->LA->O R)(q0:Int->Int->Bool->LA->O R)(c:Int)(b:LA)(a:Nat)(f d g:Bool)(h:LA):O R:=(q0 (a:Int) 0 g h)
def g_:=(Ac fun N c b a f d g h r0=>oI (R:=R) N r0 (U7 N r0 c b a f d g h N) c b a f d g h).1
def uA(c b a f d g h r0):(@g_ R N c b a f d g h r0)=(oI N r0 (U7 N r0 c b a f d g h N) c b a f d g h):=by rw[g_,(Ac _).2]
def z6:Hints:={H:=hS (hK 1 (hS (hP [0,1,2,8,9,10] hL) hL)) hL}
def Agj:O6:=[K8 N,KJ N,Ez N]
def Asz(F:KF R):=Iq Tryz.f61 z6 (Agj N) [100000] N F
def As0(c:Int)(b:LA)(a:Nat)(f d g:Bool)(h:LA)(K:St->O R):=fun m j l i=>K ⟨[(0,.optr 100000 0),(1,iv c),(2,.imm b a 1 f d),(8,.imm b a 1 f d),(9,iv m),(10,iv j)],[(100000,bP l 0 i)]⟩
def Aei(F:KF R)(c b a f d g h):∀ n,As0 c b a f d g h (Ak (Asz N F (pz 68) []) n)=(U7 N (D1 F) c b a f d g h n):=Ds fun n e=>(Bs (NY N (D1 F) c b a f d g h) e:_)
def Agk:=B4 N 61 (Agj N) z6 (fun
|[.optr 100000 0,.int .i64 c,.imm b a 1 f d],[(100000,⟨false,false,true,g,0,h,false,none⟩)]=>some fun _ k=>g_ N c b a f d g h (D1 k)
| _,_=>none) fun _ _=>by split;intro R F;exact(Bs (oI N (D1 F) · _ _ _ _ _ _ _) ((lW ..).trans (Aei ..)):_).trans (uA ..).symm;trivial
def eC(k0:Int->Int->Bool->LA->O R)(r0:Bool->LA->O R)(a:LA)(c:Nat)(b:Bool)(g:Int)(f d:LA)(s:Int)(t:Bool)(u:LA):O R:=(As .i64 (f.drop 9) fun x=>Bg N 6 x 0 1048576 t u fun y z=>As .i64 (f.drop 10) fun aa=>As .i64 (f.drop 9) fun ab=>Bg N 7 aa ab 1048576 y z fun ac ad=>Bh 1 (f.drop 11) fun ae af=>g_ N 8 ae af false b ac ad fun ag ah=>k0 g (wrap .i64 (s+1)) ag ah)
def WY(k0:Int->Int->Bool->LA->O R)(r0:Bool->LA->O R)(a:LA)(c:Nat)(b:Bool)(g:Int)(f d:LA)(q3:Int->Bool->LA->O R)(i:Int)(j:Bool)(l:LA):O R:=(cond (ble 2 ((f.drop 7).length)) (cond ((!b)||(A0 ((f.drop 7).take 2))) (KI N ((f.drop 7).take 2) false fun ai=>cond (ai==true) (As .i64 (f.drop 7) fun aj=>A8 N (cond true (decide (aj>=0)) false) 5 3 j l fun ak al=>q3 i ak al) (A8 N false 5 3 j l fun am an=>q3 i am an)) none) none)
def eD(k0:Int->Int->Bool->LA->O R)(r0:Bool->LA->O R)(a:LA)(c:Nat)(b:Bool)(g:Int)(f d:LA)(i:Int)(j:Bool)(l:LA):O R:=WY N k0 r0 a c b g f d (eC N k0 r0 a c b g f d) i j l
def WZ(k0:Int->Int->Bool->LA->O R)(r0:Bool->LA->O R)(a:LA)(c:Nat)(b:Bool)(g:Int)(d:LA)(q2:LA->Int->Bool->LA->O R)(m:Int)(o:Bool)(p f:LA):O R:=(cond (ble 2 ((f.drop 5).length)) (cond ((!b)||(A0 ((f.drop 5).take 2))) (KI N ((f.drop 5).take 2) false fun ao=>cond (ao==true) (As .i64 (f.drop 5) fun ap=>A8 N (cond true (decide (ap<=0)) false) 4 3 o p fun aq ar=>q2 f m aq ar) (A8 N false 4 3 o p fun au av=>q2 f m au av)) none) none)
def NZ(k0:Int->Int->Bool->LA->O R)(r0:Bool->LA->O R)(a:LA)(c:Nat)(b:Bool)(g:Int)(d:LA)(m:Int)(o:Bool)(p f:LA):O R:=WZ N k0 r0 a c b g d (fun f=>eD N k0 r0 a c b g f d) m o p f
def GX(r0:Bool->LA->O R)(a:LA)(c:Nat)(b:Bool)(d:LA)(k0:Int->Int->Bool->LA->O R)(q1:Int->Int->Bool->LA->LA->O R)(g h:Int)(q:Bool)(r:LA):O R:=(cond (decide (h<g)) (cond (Ad h c) (cond (ble 12 ((a.drop (h.toNat*12)).length)) (cond ((beq 0 0)&&((beq (((a.drop (h.toNat*12)).take 12).length) 12)&&(beq 12 12))) (dW N 2 h q r fun aw ax=>Km ((a.drop (h.toNat*12)).take 12) fun ay=>KH N ay aw ax fun az ba=>As .i64 (((a.drop (h.toNat*12)).take 12).drop 1) fun bb=>eA N 1 bb az ba fun bc bd=>As .i64 (((a.drop (h.toNat*12)).take 12).drop 2) fun be=>eA N 2 be bc bd fun bf bg=>As .i64 (((a.drop (h.toNat*12)).take 12).drop 2) fun bh=>As .i64 (((a.drop (h.toNat*12)).take 12).drop 1) fun bi=>A8 N (bh != bi) 2 1 bf bg fun v w=>cond (ble 2 ((((a.drop (h.toNat*12)).take 12).drop 3).length)) (cond ((!b)||(A0 ((((a.drop (h.toNat*12)).take 12).drop 3).take 2))) (KI N ((((a.drop (h.toNat*12)).take 12).drop 3).take 2) false fun bj=>cond (bj==true) (As .i64 (((a.drop (h.toNat*12)).take 12).drop 3) fun bk=>A8 N (cond true (decide (bk>0)) false) 3 3 v w fun bl bm=>q1 g h bl bm ((a.drop (h.toNat*12)).take 12)) (A8 N false 3 3 v w fun bn bo=>q1 g h bn bo ((a.drop (h.toNat*12)).take 12))) none) none) none) none) none) (r0 q r))
def Mv(r0:Bool->LA->O R)(a:LA)(c:Nat)(b:Bool)(d:LA):Nat->Int->Int->Bool->LA->O R
|0=>fun _ _ _ _=>none
|n+1=>GX N r0 a c b d (Mv r0 a c b d n) (fun g=>NZ N (Mv r0 a c b d n) r0 a c b g d)
def ga(N:Nat)(r0:Bool->LA->O R)(q0:LA->Nat->Int->Int->Bool->LA->O R)(b:Bool)(d:LA):O R:=(Bh 12 (d.drop 3) fun a c=>q0 a c (c:Int) 0 b d)
def SV:=(Ac fun N b d r0=>ga (R:=R) N r0 (fun a c=>Mv N r0 a c b d N) b d).1
def oJ(b d r0):(@SV R N b d r0)=(ga N r0 (fun a c=>Mv N r0 a c b d N) b d):=by rw[SV,(Ac _).2]
def uB:Hints:={H:=hK 2 (hS (hP [1,8,9,10] (hK 2 (hS (hS (hK 6 (hJ [1,3,8,9,10] hL (hJ [1,3,8,9,10] hL (hJ [1,3,8,9,10] hL hL)))) hL) hL))) hL)}
def z7:O6:=[NT N,Aj2 N,oG N,Ez N,z1 N,K8 N,Agk N]
def N_(F:KF R):=Iq Tryz.f19 uB (z7 N) [100000] N F
def An7(a:LA)(c:Nat)(b:Bool)(g:Int)(f d:LA)(K:St->O R):=fun s t u=>K ⟨[(1,op 0),(3,op 1),(8,.imm a c 12 false b),(9,iv g),(10,iv s)],[(100000,bP t 0 u),(300000,bN 0 [.optr 100000 0]),(300001,bP b 0 f)]⟩
def An8(a:LA)(c:Nat)(b:Bool)(g:Int)(f d:LA)(K:St->O R):=fun i j l=>K ⟨[(1,op 0),(3,op 1),(8,.imm a c 12 false b),(9,iv g),(10,iv i)],[(100000,bP j 0 l),(300000,bN 0 [.optr 100000 0]),(300001,bP b 0 f)]⟩
def An9(a:LA)(c:Nat)(b:Bool)(g:Int)(d:LA)(K:St->O R):=fun m o p f=>K ⟨[(1,op 0),(3,op 1),(8,.imm a c 12 false b),(9,iv g),(10,iv m)],[(100000,bP o 0 p),(300000,bN 0 [.optr 100000 0]),(300001,bP b 0 f)]⟩
def Vs(a:LA)(c:Nat)(b:Bool)(d:LA)(K:St->O R):=fun g h q r=>K ⟨[(1,op 0),(8,.imm a c 12 false b),(9,iv g),(10,iv h)],[(100000,bP q 0 r),(300000,bN 0 [.optr 100000 0])]⟩
def z8 Q0 (F:KF R) (a c b g f d):An7 a c b g f d (Bo (N_ N F (pz 22569637205) [Q0]))=(eC N (Vs a c b d Q0) (D1 F) a c b g f d):=by kernel_rfl
def z_ Q0 (F:KF R) (a c b g f d):An8 a c b g f d (Bo (N_ N F (pz 5642409301) [Q0]))=(eD N (Vs a c b d Q0) (D1 F) a c b g f d):=(Bs (WY N (Vs a c b d Q0) (D1 F) a c b g f d) ((jW ..).trans (z8 ..)):_)
def za Q0 (F:KF R) (a c b g d):An9 a c b g d (Bo (N_ N F (pz 1410602325) [Q0]))=(NZ N (Vs a c b d Q0) (D1 F) a c b g d):=(Bs (WZ N (Vs a c b d Q0) (D1 F) a c b g d) (qY fun f=>(jW ..).trans (z_ ..)):_)
def zb(F:KF R)(a c b d):∀ n,Vs a c b d (Ak (N_ N F (pz 84) []) n)=(Mv N (D1 F) a c b d n):=Ds fun n e=>(Xs (GX N (D1 F) a c b d) e (qY fun g=>(jW ..).trans ((za ..).trans (rB (NZ _ · _ _ _ _ _ _) e))):_)
def As1:=B4 N 19 (z7 N) uB (fun
|[.optr 100000 0],[(100000,⟨false,false,true,b,0,d,false,none⟩)]=>some fun _ k=>SV N b d (D1 k)
| _,_=>none) fun _ _=>by split;intro R F;exact(Bs (ga N (D1 F) · _ _) (MR fun a c=>(lW ..).trans (zb ..)):_).trans (oJ ..).symm;trivial
def QD(N:Nat)(a:Int)(c:Bool)(b:LA)(r0:Lu->O R):O R:=(Bh 22 (b.drop 4) fun d e=>cond (Ad a e) (Km (d.drop (a.toNat*22)) fun f=>r0 f) none)
def GY:=(Ac (@QD R)).1
def SW:@GY R=@QD R:=(Ac _).2
def zc:=B4 N 62 [] Bt (fun
|[.int .i64 a,.optr 100000 0],[(100000,⟨false,false,false,false,0,[.optr 100001 0],false,none⟩),(100001,⟨false,false,true,c,0,b,false,none⟩)]=>some fun _ k=>GY N a c b (Awy c b k)
| _,_=>none) fun _ _=>by split;intro R F;dsimp only;rw[SW];kernel_rfl;trivial
def Qy(r0:Bool->LA->O R)(a:Lu)(b:Int)(k0:Int->Bool->LA->O R)(h:Int)(g:Bool)(f:LA):O R:=(cond (decide (h<b)) (As .i64 (f.drop 11) fun j=>cond (j != 0) (r0 g f) (GY N h g f fun l=>A8 N (!(l==a)) 0 10 g f fun m o=>k0 (wrap .i64 (h+1)) m o)) (r0 g f))
def Jb(r0:Bool->LA->O R)(a:Lu)(b:Int):Nat->Int->Bool->LA->O R
|0=>fun _ _ _=>none
|n+1=>Qy N r0 a b (Jb r0 a b n)
def N'(r0:Bool->LA->O R)(q0:Int->Int->Bool->LA->O R)(a:Lu)(c:Bool)(d:LA):O R:=(Gc N a fun p=>A8 N p 0 9 c d fun q i=>As .i64 (i.drop 9) fun b=>q0 b 0 q i)
def KK:=(Ac fun N a c d r0=>N' (R:=R) N r0 (fun b=>Jb N r0 a b N) a c d).1
def eE(a c d r0):(@KK R N a c d r0)=(N' N r0 (fun b=>Jb N r0 a b N) a c d):=by rw[KK,(Ac _).2]
def oK:O6:=[Jg N,Ez N,zc N]
def Aej(F:KF R):=Iq Tryz.f56 YX (oK N) [100000,100001] N F
def Aek(a:Lu)(b:Int)(K:St->O R):=fun h g f=>K ⟨[(0,.optr 100000 0),(1,.str a),(2,.fn 62 [.optr 100001 0]),(15,iv b),(16,iv h)],[(100000,bP g 0 f),(100001,bN 0 [.optr 100000 0])]⟩
def ra(F:KF R)(a b):∀ n,Aek a b (Ak (Aej N F (pz 84) []) n)=(Jb N (GD F) a b n):=Ds fun n e=>(Bs (Qy N (GD F) a b) e:_)
def Aj4:=B4 N 56 (oK N) YX (fun
|[.optr 100000 0,.str a,.fn 62 [.optr 100001 0]],[(100000,⟨false,false,true,c,0,d,false,none⟩),(100001,⟨false,false,false,false,0,[.optr 100000 0],false,none⟩)]=>some fun _ k=>KK N a c d (GD k)
| _,_=>none) fun _ _=>by split;intro R F;exact(Bs (N' N (GD F) · _ _ _) (qY fun b=>(lW ..).trans (ra ..)):_).trans (eE ..).symm;trivial
def Ou(r0:Bool->LA->O R)(d:Int)(b:Bool)(a:LA)(k1:Int->Bool->LA->O R)(h:Int)(l:Bool)(m:LA):O R:=(Bh 2 (a.drop 4) fun ap t=>cond (decide (h<(t:Int))) (Bh 2 (a.drop 4) fun u v=>cond (Ad h v) (As .i64 ((u.drop (h.toNat*2)).drop 1) fun w=>Bh 2 (a.drop 4) fun x y=>cond (Ad (wrap .i64 (h - 1)) y) (As .i64 ((x.drop (((wrap .i64 (h - 1)).toNat)*2)).drop 1) fun z=>A8 N (decide (w>=z)) 4 11 l m fun aa ab=>k1 (wrap .i64 (h+1)) aa ab) none) none) (As .i64 (a.drop 3) fun ac=>As .i64 (a.drop 2) fun ad=>A8 N (d==(wrap .i64 (ac - ad))) 4 4 l m fun ae af=>r0 ae af))
def Jw(r0:Bool->LA->O R)(d:Int)(b:Bool)(a:LA):Nat->Int->Bool->LA->O R
|0=>fun _ _ _=>none
|n+1=>Ou N r0 d b a (Jw r0 d b a n)
def Ui(r0:Bool->LA->O R)(c:LA)(f:Nat)(b:Bool)(a:LA)(k0:Int->Int->Int->Bool->LA->O R)(q1:Int->Int->Bool->LA->O R)(d o g:Int)(p:Bool)(q:LA):O R:=(cond (decide (g<o)) (cond (Ad g f) (cond (ble 2 ((c.drop (g.toNat*2)).length)) (cond ((!b)||(A0 ((c.drop (g.toNat*2)).take 2))) (cond ((beq (((c.drop (g.toNat*2)).take 2).length) 2)&&((ble 2 2)&&(!false))) (As .i64 (setCells [Bfg,Bfg] 0 ((c.drop (g.toNat*2)).take 2)) fun ag=>Bg N 4 ag 1 1048576 p q fun ah ai=>As .i64 ((setCells [Bfg,Bfg] 0 ((c.drop (g.toNat*2)).take 2)).drop 1) fun aj=>Bg N 4 aj (-1048576) 1048576 ah ai fun ak al=>As .i64 (setCells [Bfg,Bfg] 0 ((c.drop (g.toNat*2)).take 2)) fun am=>k0 (wrap .i64 (d+am)) o (wrap .i64 (g+1)) ak al) none) none) none) none) (q1 d 1 p q))
def Jx(r0:Bool->LA->O R)(c:LA)(f:Nat)(b:Bool)(a:LA):Nat->Int->Int->Int->Bool->LA->O R
|0=>fun _ _ _ _ _=>none
|n+1=>Ui N r0 c f b a (Jx r0 c f b a n) (fun d=>Jw N r0 d b a N)
def GZ(r0:Bool->LA->O R)(q0:LA->Nat->Int->Int->Int->Bool->LA->O R)(a:LA)(b i:Bool)(j:LA):O R:=(Bh 2 (a.drop 4) fun aq an=>A8 N (decide ((an:Int)<=8)) 4 8 i j fun s r=>As .i64 (r.drop 11) fun ao=>cond (ao != 0) (r0 s r) (Bh 2 (a.drop 4) fun c f=>q0 c f 0 (f:Int) 0 s r))
def Vt:=(Ac fun N a b i j r0=>GZ (R:=R) N r0 (fun c f=>Jx N r0 c f b a N) a b i j).1
def ZO(a b i j r0):(@Vt R N a b i j r0)=(GZ N r0 (fun c f=>Jx N r0 c f b a N) a b i j):=by rw[Vt,(Ac _).2]
def eF:Hints:={H:=hK 4 (hS (hK 1 (hS (hP [0,3,4,20,21,22] hL) hL)) (hS (hK 1 (hS (hP [0,3,4,7] hL) hL)) hL))}
def jj:O6:=[Ez N,K8 N]
def eG(F:KF R):=Iq Tryz.f63 eF (jj N) [100000] N F
def zd(d:Int)(b:Bool)(a:LA)(K:St->O R):=fun h l m=>K ⟨[(0,.optr 100000 0),(3,op 0),(4,iv d),(7,iv h)],[(100000,bP l 0 m),(300000,bP b 0 a)]⟩
def ze(c:LA)(f:Nat)(b:Bool)(a:LA)(K:St->O R):=fun d o g p q=>K ⟨[(0,.optr 100000 0),(3,op 0),(4,iv d),(20,.imm c f 2 false b),(21,iv o),(22,iv g)],[(100000,bP p 0 q),(300000,bP b 0 a)]⟩
def oL(F:KF R)(d b a):∀ n,zd d b a (Ak (eG N F (pz 87364) []) n)=(Jw N (D1 F) d b a n):=Ds fun n e=>(Bs (Ou N (D1 F) d b a) e:_)
def oM(F:KF R)(c f b a):∀ n,ze c f b a (Ak (eG N F (pz 21828) []) n)=(Jx N (D1 F) c f b a n):=Ds fun n e=>(Xs (Ui N (D1 F) c f b a) e (qY fun d=>(lW ..).trans (oL ..)):_)
def Ael:=B4 N 63 (jj N) eF (fun
|[.optr 100000 0,.pagg a b],[(100000,⟨false,false,true,i,0,j,false,none⟩)]=>some fun _ k=>Vt N a b i j (D1 k)
| _,_=>none) fun _ _=>by split;intro R F;exact(Bs (GZ N (D1 F) · _ _ _ _) (MR fun c f=>(lW ..).trans (oM ..)):_).trans (ZO ..).symm;trivial
def eI(k0:Int->Int->Bool->LA->O R)(r0:Bool->LA->O R)(a:LA)(c:Nat)(b:Bool)(g:Int)(h d:LA)(q:Int)(r:Bool)(s:LA):O R:=(As .i64 (h.drop 19) fun z=>cond (z==2) (As .i64 (h.drop 21) fun aa=>As .i64 (h.drop 2) fun ab=>As .i64 (h.drop 3) fun ac=>Bg N 21 aa ab ac r s fun ad ae=>k0 g (wrap .i64 (q+1)) ad ae) (As .i64 (h.drop 21) fun af=>Bg N 21 af 0 0 r s fun ag ah=>k0 g (wrap .i64 (q+1)) ag ah))
def W_(k0:Int->Int->Bool->LA->O R)(r0:Bool->LA->O R)(a:LA)(c:Nat)(b:Bool)(g:Int)(h d:LA)(q3:Int->Bool->LA->O R)(i:Int)(o:Bool)(p:LA):O R:=(As .i64 (h.drop 20) fun ai=>Bg N 20 ai 1 48 o p fun x y=>As .i64 (h.drop 19) fun aj=>cond ((aj != 1)==false) (As .i64 (h.drop 20) fun ak=>As .i64 (h.drop 12) fun al=>A8 N (cond false true (decide (ak<=al))) 20 3 x y fun am an=>q3 i am an) (A8 N true 20 3 x y fun ao ap=>q3 i ao ap))
def eJ(k0:Int->Int->Bool->LA->O R)(r0:Bool->LA->O R)(a:LA)(c:Nat)(b:Bool)(g:Int)(h d:LA)(i:Int)(o:Bool)(p:LA):O R:=W_ N k0 r0 a c b g h d (eI N k0 r0 a c b g h d) i o p
def XA(k0:Int->Int->Bool->LA->O R)(r0:Bool->LA->O R)(a:LA)(c:Nat)(b:Bool)(g:Int)(d:LA)(q2:LA->Int->Bool->LA->O R)(j:Int)(l:Bool)(m h:LA):O R:=(As .i64 (h.drop 19) fun aq=>cond ((aq != 1)==false) (As .i64 (h.drop 12) fun ar=>A8 N (cond false true (ar != 0)) 19 16 l m fun au av=>q2 h j au av) (A8 N true 19 16 l m fun aw ax=>q2 h j aw ax))
def OA(k0:Int->Int->Bool->LA->O R)(r0:Bool->LA->O R)(a:LA)(c:Nat)(b:Bool)(g:Int)(d:LA)(j:Int)(l:Bool)(m h:LA):O R:=XA N k0 r0 a c b g d (fun h=>eJ N k0 r0 a c b g h d) j l m h
def G_(r0:Bool->LA->O R)(a:LA)(c:Nat)(b:Bool)(d:LA)(k0:Int->Int->Bool->LA->O R)(q1:Int->Int->Bool->LA->LA->O R)(g f:Int)(t:Bool)(u:LA):O R:=(cond (decide (f<g)) (cond (Ad f c) (cond (ble 22 ((a.drop (f.toNat*22)).length)) (cond ((beq 0 0)&&((beq (((a.drop (f.toNat*22)).take 22).length) 22)&&(beq 22 22))) (dW N 3 f t u fun ay az=>Km ((a.drop (f.toNat*22)).take 22) fun ba=>KK N ba ay az fun bb bc=>As .i64 (((a.drop (f.toNat*22)).take 22).drop 1) fun bd=>eA N 1 bd bb bc fun be bf=>As .i64 (((a.drop (f.toNat*22)).take 22).drop 2) fun bg=>Bg N 2 bg 0 1048576 be bf fun bh bi=>As .i64 (((a.drop (f.toNat*22)).take 22).drop 3) fun bj=>As .i64 (((a.drop (f.toNat*22)).take 22).drop 2) fun bk=>Bg N 3 bj bk 1048576 bh bi fun bl bm=>cond (ble 22 (((a.drop (f.toNat*22)).take 22).length)) (Vt N (((a.drop (f.toNat*22)).take 22).take 22) b bl bm fun bn bo=>As .i64 (((a.drop (f.toNat*22)).take 22).drop 5) fun bp=>Bg N 5 bp 0 1048576 bn bo fun bq br=>As .i64 (((a.drop (f.toNat*22)).take 22).drop 6) fun bs=>Bg N 6 bs 0 1048576 bq br fun bt bu=>As .i64 (((a.drop (f.toNat*22)).take 22).drop 7) fun bv=>Bg N 7 bv 0 1048576 bt bu fun bw bx=>As .i64 (((a.drop (f.toNat*22)).take 22).drop 8) fun bz=>As .i64 (((a.drop (f.toNat*22)).take 22).drop 2) fun ca=>As .i64 (((a.drop (f.toNat*22)).take 22).drop 3) fun cb=>Bg N 8 bz ca cb bw bx fun cc cd=>As .i64 (((a.drop (f.toNat*22)).take 22).drop 9) fun ce=>As .i64 (((a.drop (f.toNat*22)).take 22).drop 2) fun cf=>As .i64 (((a.drop (f.toNat*22)).take 22).drop 3) fun cg=>Bg N 9 ce cf cg cc cd fun ch ci=>As .i64 (((a.drop (f.toNat*22)).take 22).drop 10) fun cj=>Bg N 10 cj 0 24 ch ci fun ck cl=>As .i64 (((a.drop (f.toNat*22)).take 22).drop 11) fun cm=>Bg N 11 cm 0 24 ck cl fun cn co=>As .i64 (((a.drop (f.toNat*22)).take 22).drop 12) fun cp=>Bg N 12 cp 0 24 cn co fun cq cr=>As .i64 (((a.drop (f.toNat*22)).take 22).drop 13) fun cs=>Bg N 13 cs 0 1048576 cq cr fun ct cu=>As .i64 (((a.drop (f.toNat*22)).take 22).drop 14) fun cv=>Bg N 14 cv 0 1048576 ct cu fun cw cx=>As .i64 (((a.drop (f.toNat*22)).take 22).drop 15) fun cy=>Bg N 15 cy 0 24 cw cx fun cz da=>As .i64 (((a.drop (f.toNat*22)).take 22).drop 16) fun db=>Bg N 16 db 0 1048576 cz da fun dc dd=>As .i64 (((a.drop (f.toNat*22)).take 22).drop 17) fun de=>Bg N 17 de 0 1048576 dc dd fun df dg=>Bh 1 (((a.drop (f.toNat*22)).take 22).drop 18) fun dh di=>g_ N 18 dh di false b df dg fun v w=>As .i64 (((a.drop (f.toNat*22)).take 22).drop 19) fun dj=>cond ((dj==0)==false) (As .i64 (((a.drop (f.toNat*22)).take 22).drop 19) fun dk=>cond ((cond false true (dk==1))==false) (As .i64 (((a.drop (f.toNat*22)).take 22).drop 19) fun dl=>A8 N (cond false true (dl==2)) 19 12 v w fun dm dn=>q1 g f dm dn ((a.drop (f.toNat*22)).take 22)) (A8 N true 19 12 v w fun dp dq=>q1 g f dp dq ((a.drop (f.toNat*22)).take 22))) (A8 N true 19 12 v w fun dr ds=>q1 g f dr ds ((a.drop (f.toNat*22)).take 22))) none) none) none) none) (r0 t u))
def Mw(r0:Bool->LA->O R)(a:LA)(c:Nat)(b:Bool)(d:LA):Nat->Int->Int->Bool->LA->O R
|0=>fun _ _ _ _=>none
|n+1=>G_ N r0 a c b d (Mw r0 a c b d n) (fun g=>OA N (Mw r0 a c b d n) r0 a c b g d)
def gc(N:Nat)(r0:Bool->LA->O R)(q0:LA->Nat->Int->Int->Bool->LA->O R)(b:Bool)(d:LA):O R:=(Bh 22 (d.drop 4) fun a c=>q0 a c (c:Int) 0 b d)
def SX:=(Ac fun N b d r0=>gc (R:=R) N r0 (fun a c=>Mw N r0 a c b d N) b d).1
def oN(b d r0):(@SX R N b d r0)=(gc N r0 (fun a c=>Mw N r0 a c b d N) b d):=by rw[SX,(Ac _).2]
def uC:Hints:={H:=hK 2 (hS (hP [1,8,9,10] (hK 2 (hS (hS (hK 21 (hJ [1,3,8,9,10] hL (hJ [1,3,8,9,10] hL (hK 1 (hJ [1,3,8,9,10] hL hL))))) hL) hL))) hL)}
def zf:O6:=[NT N,Aj4 N,oG N,K8 N,Ael N,Agk N,Ez N]
def OB(F:KF R):=Iq Tryz.f20 uC (zf N) [100000] N F
def Aoa(a:LA)(c:Nat)(b:Bool)(g:Int)(h d:LA)(K:St->O R):=fun q r s=>K ⟨[(1,op 0),(3,op 1),(8,.imm a c 22 false b),(9,iv g),(10,iv q)],[(100000,bP r 0 s),(300000,bN 0 [.optr 100000 0]),(300001,bP b 0 h)]⟩
def Aob(a:LA)(c:Nat)(b:Bool)(g:Int)(h d:LA)(K:St->O R):=fun i o p=>K ⟨[(1,op 0),(3,op 1),(8,.imm a c 22 false b),(9,iv g),(10,iv i)],[(100000,bP o 0 p),(300000,bN 0 [.optr 100000 0]),(300001,bP b 0 h)]⟩
def Aoc(a:LA)(c:Nat)(b:Bool)(g:Int)(d:LA)(K:St->O R):=fun j l m h=>K ⟨[(1,op 0),(3,op 1),(8,.imm a c 22 false b),(9,iv g),(10,iv j)],[(100000,bP l 0 m),(300000,bN 0 [.optr 100000 0]),(300001,bP b 0 h)]⟩
def Vu(a:LA)(c:Nat)(b:Bool)(d:LA)(K:St->O R):=fun g f t u=>K ⟨[(1,op 0),(8,.imm a c 22 false b),(9,iv g),(10,iv f)],[(100000,bP t 0 u),(300000,bN 0 [.optr 100000 0])]⟩
def zg Q0 (F:KF R) (a c b g h d):Aoa a c b g h d (Bo (OB N F (pz 96935853679491503445) [Q0]))=(eI N (Vu a c b d Q0) (D1 F) a c b g h d):=by kernel_rfl
def zh Q0 (F:KF R) (a c b g h d):Aob a c b g h d (Bo (OB N F (pz 6058490854968218965) [Q0]))=(eJ N (Vu a c b d Q0) (D1 F) a c b g h d):=(Bs (W_ N (Vu a c b d Q0) (D1 F) a c b g h d) ((jW ..).trans (zg ..)):_)
def zi Q0 (F:KF R) (a c b g d):Aoc a c b g d (Bo (OB N F (pz 1514622713742054741) [Q0]))=(OA N (Vu a c b d Q0) (D1 F) a c b g d):=(Bs (XA N (Vu a c b d Q0) (D1 F) a c b g d) (qY fun h=>(jW ..).trans (zh ..)):_)
def zj(F:KF R)(a c b d):∀ n,Vu a c b d (Ak (OB N F (pz 84) []) n)=(Mw N (D1 F) a c b d n):=Ds fun n e=>(Xs (G_ N (D1 F) a c b d) e (qY fun g=>(jW ..).trans ((zi ..).trans (rB (OA _ · _ _ _ _ _ _) e))):_)
def As2:=B4 N 20 (zf N) uC (fun
|[.optr 100000 0],[(100000,⟨false,false,true,b,0,d,false,none⟩)]=>some fun _ k=>SX N b d (D1 k)
| _,_=>none) fun _ _=>by split;intro R F;exact(Bs (gc N (D1 F) · _ _) (MR fun a c=>(lW ..).trans (zj ..)):_).trans (oN ..).symm;trivial
def KL(N:Nat)(a:Int)(c:Bool)(b:LA)(r0:Lu->O R):O R:=(Bh 9 (b.drop 5) fun d e=>cond (Ad a e) (Km (d.drop (a.toNat*9)) fun f=>r0 f) none)
def BC:=(Ac (@KL R)).1
def OC:@BC R=@KL R:=(Ac _).2
def wE:=B4 N 64 [] Bt (fun
|[.int .i64 a,.optr 100000 0],[(100000,⟨false,false,false,false,0,[.optr 100001 0],false,none⟩),(100001,⟨false,false,true,c,0,b,false,none⟩)]=>some fun _ k=>BC N a c b (Awy c b k)
| _,_=>none) fun _ _=>by split;intro R F;dsimp only;rw[OC];kernel_rfl;trivial
def Ov(r0:Bool->LA->O R)(a:Lu)(b:Int)(k0:Int->Bool->LA->O R)(h:Int)(g:Bool)(f:LA):O R:=(cond (decide (h<b)) (As .i64 (f.drop 11) fun j=>cond (j != 0) (r0 g f) (BC N h g f fun l=>A8 N (!(l==a)) 0 10 g f fun m o=>k0 (wrap .i64 (h+1)) m o)) (r0 g f))
def H3(r0:Bool->LA->O R)(a:Lu)(b:Int):Nat->Int->Bool->LA->O R
|0=>fun _ _ _=>none
|n+1=>Ov N r0 a b (H3 r0 a b n)
def G'(r0:Bool->LA->O R)(q0:Int->Int->Bool->LA->O R)(a:Lu)(c:Bool)(d:LA):O R:=(Gc N a fun p=>A8 N p 0 9 c d fun q i=>As .i64 (i.drop 9) fun b=>q0 b 0 q i)
def CQ:=(Ac fun N a c d r0=>G' (R:=R) N r0 (fun b=>H3 N r0 a b N) a c d).1
def ZP(a c d r0):(@CQ R N a c d r0)=(G' N r0 (fun b=>H3 N r0 a b N) a c d):=by rw[CQ,(Ac _).2]
def jk:O6:=[Jg N,Ez N,wE N]
def zk(F:KF R):=Iq Tryz.f56 YX (jk N) [100000,100001] N F
def zl(a:Lu)(b:Int)(K:St->O R):=fun h g f=>K ⟨[(0,.optr 100000 0),(1,.str a),(2,.fn 64 [.optr 100001 0]),(15,iv b),(16,iv h)],[(100000,bP g 0 f),(100001,bN 0 [.optr 100000 0])]⟩
def oO(F:KF R)(a b):∀ n,zl a b (Ak (zk N F (pz 84) []) n)=(H3 N (GD F) a b n):=Ds fun n e=>(Bs (Ov N (GD F) a b) e:_)
def Aem:=B4 N 56 (jk N) YX (fun
|[.optr 100000 0,.str a,.fn 64 [.optr 100001 0]],[(100000,⟨false,false,true,c,0,d,false,none⟩),(100001,⟨false,false,false,false,0,[.optr 100000 0],false,none⟩)]=>some fun _ k=>CQ N a c d (GD k)
| _,_=>none) fun _ _=>by split;intro R F;exact(Bs (G' N (GD F) · _ _ _) (qY fun b=>(lW ..).trans (oO ..)):_).trans (ZP ..).symm;trivial
def BD(r0:Bool->LA->O R)(a:LA)(d:Nat)(c:Bool)(k0:Int->Int->Bool->LA->O R)(g b:Int)(h:Bool)(i:LA):O R:=(cond (decide (b<g)) (cond (Ad b d) (cond (ble 9 ((a.drop (b.toNat*9)).length)) (cond ((beq 0 0)&&((beq (((a.drop (b.toNat*9)).take 9).length) 9)&&(beq 9 9))) (dW N 4 b h i fun m o=>Km ((a.drop (b.toNat*9)).take 9) fun p=>CQ N p m o fun q r=>As .i64 (((a.drop (b.toNat*9)).take 9).drop 1) fun s=>eA N 1 s q r fun t u=>As .i64 (((a.drop (b.toNat*9)).take 9).drop 2) fun v=>Bg N 2 v 0 1048576 t u fun w x=>As .i64 (((a.drop (b.toNat*9)).take 9).drop 3) fun y=>As .i64 (((a.drop (b.toNat*9)).take 9).drop 2) fun z=>Bg N 3 y 0 z w x fun aa ab=>As .i64 (((a.drop (b.toNat*9)).take 9).drop 4) fun ac=>As .i64 (((a.drop (b.toNat*9)).take 9).drop 2) fun ad=>Bg N 4 ac 0 ad aa ab fun ae af=>As .i64 (((a.drop (b.toNat*9)).take 9).drop 5) fun ag=>Bg N 5 ag 0 1048576 ae af fun ah ai=>As .i64 (((a.drop (b.toNat*9)).take 9).drop 6) fun aj=>Bg N 6 aj 0 1048576 ah ai fun j l=>cond (ble 2 ((((a.drop (b.toNat*9)).take 9).drop 7).length)) (cond ((!c)||(A0 ((((a.drop (b.toNat*9)).take 9).drop 7).take 2))) (cond ((beq (((((a.drop (b.toNat*9)).take 9).drop 7).take 2).length) 2)&&((ble 2 2)&&(!false))) (cond (ble 2 ((setCells [Bfg,Bfg] 0 ((((a.drop (b.toNat*9)).take 9).drop 7).take 2)).length)) (KI N ((setCells [Bfg,Bfg] 0 ((((a.drop (b.toNat*9)).take 9).drop 7).take 2)).take 2) false fun ak=>cond (ak==true) (As .i64 (setCells [Bfg,Bfg] 0 ((((a.drop (b.toNat*9)).take 9).drop 7).take 2)) fun al=>cond ((cond true (decide (al>0)) false)==true) (As .i64 (setCells [Bfg,Bfg] 0 ((((a.drop (b.toNat*9)).take 9).drop 7).take 2)) fun am=>As .i64 ((setCells [Bfg,Bfg] 0 ((((a.drop (b.toNat*9)).take 9).drop 7).take 2)).drop 1) fun an=>A8 N (cond true (decide (am<=an)) false) 7 3 j l fun ao ap=>k0 g (wrap .i64 (b+1)) ao ap) (A8 N false 7 3 j l fun aq ar=>k0 g (wrap .i64 (b+1)) aq ar)) (A8 N false 7 3 j l fun au av=>k0 g (wrap .i64 (b+1)) au av)) none) none) none) none) none) none) none) (r0 h i))
def Nz(r0:Bool->LA->O R)(a:LA)(d:Nat)(c:Bool):Nat->Int->Int->Bool->LA->O R
|0=>fun _ _ _ _=>none
|n+1=>BD N r0 a d c (Nz r0 a d c n)
def XB(N:Nat)(r0:Bool->LA->O R)(q0:LA->Nat->Int->Int->Bool->LA->O R)(c:Bool)(f:LA):O R:=(Bh 9 (f.drop 5) fun a d=>q0 a d (d:Int) 0 c f)
def IM:=(Ac fun N c f r0=>XB (R:=R) N r0 (fun a d=>Nz N r0 a d c N) c f).1
def jl(c f r0):(@IM R N c f r0)=(XB N r0 (fun a d=>Nz N r0 a d c N) c f):=by rw[IM,(Ac _).2]
def oP:Hints:={H:=hK 2 (hS (hP [1,9,10,11] hL) hL)}
def uD:O6:=[NT N,Aem N,oG N,K8 N,z1 N,Ez N]
def Aj5(F:KF R):=Iq Tryz.f21 oP (uD N) [100000] N F
def Aj6(a:LA)(d:Nat)(c:Bool)(K:St->O R):=fun g b h i=>K ⟨[(1,op 0),(9,.imm a d 9 false c),(10,iv g),(11,iv b)],[(100000,bP h 0 i),(300000,bN 0 [.optr 100000 0])]⟩
def wF(F:KF R)(a d c):∀ n,Aj6 a d c (Ak (Aj5 N F (pz 84) []) n)=(Nz N (D1 F) a d c n):=Ds fun n e=>(Bs (BD N (D1 F) a d c) e:_)
def Aod:=B4 N 21 (uD N) oP (fun
|[.optr 100000 0],[(100000,⟨false,false,true,c,0,f,false,none⟩)]=>some fun _ k=>IM N c f (D1 k)
| _,_=>none) fun _ _=>by split;intro R F;exact(Bs (XB N (D1 F) · _ _) (MR fun a d=>(lW ..).trans (wF ..)):_).trans (jl ..).symm;trivial
def XC(N:Nat)(a:Int)(c:Bool)(b:LA)(r0:Lu->O R):O R:=(Bh 5 (b.drop 6) fun d e=>cond (Ad a e) (Km (d.drop (a.toNat*5)) fun f=>r0 f) none)
def OD:=(Ac (@XC R)).1
def ZQ:@OD R=@XC R:=(Ac _).2
def Aen:=B4 N 65 [] Bt (fun
|[.int .i64 a,.optr 100000 0],[(100000,⟨false,false,false,false,0,[.optr 100001 0],false,none⟩),(100001,⟨false,false,true,c,0,b,false,none⟩)]=>some fun _ k=>OD N a c b (Awy c b k)
| _,_=>none) fun _ _=>by split;intro R F;dsimp only;rw[ZQ];kernel_rfl;trivial
def Ow(r0:Bool->LA->O R)(a:Lu)(b:Int)(k0:Int->Bool->LA->O R)(h:Int)(g:Bool)(f:LA):O R:=(cond (decide (h<b)) (As .i64 (f.drop 11) fun j=>cond (j != 0) (r0 g f) (OD N h g f fun l=>A8 N (!(l==a)) 0 10 g f fun m o=>k0 (wrap .i64 (h+1)) m o)) (r0 g f))
def H4(r0:Bool->LA->O R)(a:Lu)(b:Int):Nat->Int->Bool->LA->O R
|0=>fun _ _ _=>none
|n+1=>Ow N r0 a b (H4 r0 a b n)
def HA(r0:Bool->LA->O R)(q0:Int->Int->Bool->LA->O R)(a:Lu)(c:Bool)(d:LA):O R:=(Gc N a fun p=>A8 N p 0 9 c d fun q i=>As .i64 (i.drop 9) fun b=>q0 b 0 q i)
def CS:=(Ac fun N a c d r0=>HA (R:=R) N r0 (fun b=>H4 N r0 a b N) a c d).1
def ZR(a c d r0):(@CS R N a c d r0)=(HA N r0 (fun b=>H4 N r0 a b N) a c d):=by rw[CS,(Ac _).2]
def jm:O6:=[Jg N,Ez N,Aen N]
def zm(F:KF R):=Iq Tryz.f56 YX (jm N) [100000,100001] N F
def zn(a:Lu)(b:Int)(K:St->O R):=fun h g f=>K ⟨[(0,.optr 100000 0),(1,.str a),(2,.fn 65 [.optr 100001 0]),(15,iv b),(16,iv h)],[(100000,bP g 0 f),(100001,bN 0 [.optr 100000 0])]⟩
def oQ(F:KF R)(a b):∀ n,zn a b (Ak (zm N F (pz 84) []) n)=(H4 N (GD F) a b n):=Ds fun n e=>(Bs (Ow N (GD F) a b) e:_)
def Aeo:=B4 N 56 (jm N) YX (fun
|[.optr 100000 0,.str a,.fn 65 [.optr 100001 0]],[(100000,⟨false,false,true,c,0,d,false,none⟩),(100001,⟨false,false,false,false,0,[.optr 100000 0],false,none⟩)]=>some fun _ k=>CS N a c d (GD k)
| _,_=>none) fun _ _=>by split;intro R F;exact(Bs (HA N (GD F) · _ _ _) (qY fun b=>(lW ..).trans (oQ ..)):_).trans (ZR ..).symm;trivial
def OE(r0:Bool->LA->O R)(a:LA)(c:Nat)(b:Bool)(k0:Int->Int->Bool->LA->O R)(g d:Int)(h:Bool)(i:LA):O R:=(cond (decide (d<g)) (cond (Ad d c) (cond (ble 5 ((a.drop (d.toNat*5)).length)) (cond ((beq 0 0)&&((beq (((a.drop (d.toNat*5)).take 5).length) 5)&&(beq 5 5))) (dW N 5 d h i fun j l=>Km ((a.drop (d.toNat*5)).take 5) fun m=>CS N m j l fun o p=>As .i64 (((a.drop (d.toNat*5)).take 5).drop 1) fun q=>eA N 1 q o p fun r s=>Bh 1 (((a.drop (d.toNat*5)).take 5).drop 2) fun t u=>Sg N 2 t u false b 0 1048576 r s fun v w=>Bh 1 (((a.drop (d.toNat*5)).take 5).drop 3) fun x y=>Sg N 3 x y false b 0 1048576 v w fun z aa=>Bh 1 (((a.drop (d.toNat*5)).take 5).drop 4) fun ab ac=>Sg N 4 ab ac false b (-1048576) 1048576 z aa fun ad ae=>k0 g (wrap .i64 (d+1)) ad ae) none) none) none) (r0 h i))
def U8(r0:Bool->LA->O R)(a:LA)(c:Nat)(b:Bool):Nat->Int->Int->Bool->LA->O R
|0=>fun _ _ _ _=>none
|n+1=>OE N r0 a c b (U8 r0 a c b n)
def oR(N:Nat)(r0:Bool->LA->O R)(q0:LA->Nat->Int->Int->Bool->LA->O R)(b:Bool)(f:LA):O R:=(Bh 5 (f.drop 6) fun a c=>q0 a c (c:Int) 0 b f)
def gd:=(Ac fun N b f r0=>oR (R:=R) N r0 (fun a c=>U8 N r0 a c b N) b f).1
def uE(b f r0):(@gd R N b f r0)=(oR N r0 (fun a c=>U8 N r0 a c b N) b f):=by rw[gd,(Ac _).2]
def zo:Hints:={H:=hK 2 (hS (hP [1,8,9,10] hL) hL)}
def Agl:O6:=[NT N,Aeo N,oG N,dX N]
def As3(F:KF R):=Iq Tryz.f22 zo (Agl N) [100000] N F
def As4(a:LA)(c:Nat)(b:Bool)(K:St->O R):=fun g d h i=>K ⟨[(1,op 0),(8,.imm a c 5 false b),(9,iv g),(10,iv d)],[(100000,bP h 0 i),(300000,bN 0 [.optr 100000 0])]⟩
def Aep(F:KF R)(a c b):∀ n,As4 a c b (Ak (As3 N F (pz 84) []) n)=(U8 N (D1 F) a c b n):=Ds fun n e=>(Bs (OE N (D1 F) a c b) e:_)
def Axq:=B4 N 22 (Agl N) zo (fun
|[.optr 100000 0],[(100000,⟨false,false,true,b,0,f,false,none⟩)]=>some fun _ k=>gd N b f (D1 k)
| _,_=>none) fun _ _=>by split;intro R F;exact(Bs (oR N (D1 F) · _ _) (MR fun a c=>(lW ..).trans (Aep ..)):_).trans (uE ..).symm;trivial
def EE(N:Nat)(a:Int)(c:Bool)(b:LA)(r0:Lu->O R):O R:=(Bh 4 (b.drop 7) fun d e=>cond (Ad a e) (Km (d.drop (a.toNat*4)) fun f=>r0 f) none)
def W0:=(Ac (@EE R)).1
def KM:@W0 R=@EE R:=(Ac _).2
def rc:=B4 N 66 [] Bt (fun
|[.int .i64 a,.optr 100000 0],[(100000,⟨false,false,false,false,0,[.optr 100001 0],false,none⟩),(100001,⟨false,false,true,c,0,b,false,none⟩)]=>some fun _ k=>W0 N a c b (Awy c b k)
| _,_=>none) fun _ _=>by split;intro R F;dsimp only;rw[KM];kernel_rfl;trivial
def Ox(r0:Bool->LA->O R)(a:Lu)(b:Int)(k0:Int->Bool->LA->O R)(h:Int)(g:Bool)(f:LA):O R:=(cond (decide (h<b)) (As .i64 (f.drop 11) fun j=>cond (j != 0) (r0 g f) (W0 N h g f fun l=>A8 N (!(l==a)) 0 10 g f fun m o=>k0 (wrap .i64 (h+1)) m o)) (r0 g f))
def H5(r0:Bool->LA->O R)(a:Lu)(b:Int):Nat->Int->Bool->LA->O R
|0=>fun _ _ _=>none
|n+1=>Ox N r0 a b (H5 r0 a b n)
def HB(r0:Bool->LA->O R)(q0:Int->Int->Bool->LA->O R)(a:Lu)(c:Bool)(d:LA):O R:=(Gc N a fun p=>A8 N p 0 9 c d fun q i=>As .i64 (i.drop 9) fun b=>q0 b 0 q i)
def CT:=(Ac fun N a c d r0=>HB (R:=R) N r0 (fun b=>H5 N r0 a b N) a c d).1
def ZS(a c d r0):(@CT R N a c d r0)=(HB N r0 (fun b=>H5 N r0 a b N) a c d):=by rw[CT,(Ac _).2]
def jn:O6:=[Jg N,Ez N,rc N]
def zp(F:KF R):=Iq Tryz.f56 YX (jn N) [100000,100001] N F
def zq(a:Lu)(b:Int)(K:St->O R):=fun h g f=>K ⟨[(0,.optr 100000 0),(1,.str a),(2,.fn 66 [.optr 100001 0]),(15,iv b),(16,iv h)],[(100000,bP g 0 f),(100001,bN 0 [.optr 100000 0])]⟩
def oS(F:KF R)(a b):∀ n,zq a b (Ak (zp N F (pz 84) []) n)=(H5 N (GD F) a b n):=Ds fun n e=>(Bs (Ox N (GD F) a b) e:_)
def Aeq:=B4 N 56 (jn N) YX (fun
|[.optr 100000 0,.str a,.fn 66 [.optr 100001 0]],[(100000,⟨false,false,true,c,0,d,false,none⟩),(100001,⟨false,false,false,false,0,[.optr 100000 0],false,none⟩)]=>some fun _ k=>CT N a c d (GD k)
| _,_=>none) fun _ _=>by split;intro R F;exact(Bs (HB N (GD F) · _ _ _) (qY fun b=>(lW ..).trans (oS ..)):_).trans (ZS ..).symm;trivial
def HC(r0:Bool->LA->O R)(d:LA)(f:Nat)(a:Bool)(k2:Int->Int->Bool->LA->O R)(u j:Int)(v:Bool)(w:LA):O R:=(cond (decide (j<u)) (cond (Ad j f) (cond (ble 3 ((d.drop (j.toNat*3)).length)) (cond ((!a)||(A0 ((d.drop (j.toNat*3)).take 3))) (cond ((beq (((d.drop (j.toNat*3)).take 3).length) 3)&&((ble 3 3)&&(!false))) (As .i64 ((setCells [Bfg,Bfg,Bfg] 0 ((d.drop (j.toNat*3)).take 3)).drop 1) fun z=>Bg N 3 z 0 1048576 v w fun aa ab=>As .i64 ((setCells [Bfg,Bfg,Bfg] 0 ((d.drop (j.toNat*3)).take 3)).drop 2) fun ac=>Bg N 3 ac 0 1048576 aa ab fun ad ae=>k2 u (wrap .i64 (j+1)) ad ae) none) none) none) none) (r0 v w))
def Vv(r0:Bool->LA->O R)(d:LA)(f:Nat)(a:Bool):Nat->Int->Int->Bool->LA->O R
|0=>fun _ _ _ _=>none
|n+1=>HC N r0 d f a (Vv r0 d f a n)
def HD(r0:Bool->LA->O R)(c:LA)(g:Nat)(a:Bool)(b:LA)(k1:Nat->Int->Int->Bool->LA->LA->O R)(q2:LA->Nat->Int->Int->Bool->LA->O R)(i:Nat)(p h:Int)(q:Bool)(o r:LA):O R:=(cond (decide (h<p)) (cond (Ad h g) (cond (ble 3 ((c.drop (h.toNat*3)).length)) (cond ((!a)||(A0 ((c.drop (h.toNat*3)).take 3))) (cond ((beq (((c.drop (h.toNat*3)).take 3).length) 3)&&((ble 3 3)&&(!false))) (As .i64 (setCells [Bfg,Bfg,Bfg] 0 ((c.drop (h.toNat*3)).take 3)) fun af=>cond ((decide (af>=0))==true) (As .i64 (setCells [Bfg,Bfg,Bfg] 0 ((c.drop (h.toNat*3)).take 3)) fun ag=>Bh 22 (o.drop 4) fun bb ah=>A8 N (cond true (decide (ag<(ah:Int))) false) 3 12 q o fun ai aj=>As .i64 (setCells [Bfg,Bfg,Bfg] 0 ((c.drop (h.toNat*3)).take 3)) fun ak=>cond ((ble (i+1) 140737488355328)&&(ble ((i+1)*8) 140737488355328)) (k1 (i+1) p (wrap .i64 (h+1)) ai aj ((r.take (i*1))++[.int .i64 ak])) none) (A8 N false 3 12 q o fun al am=>As .i64 (setCells [Bfg,Bfg,Bfg] 0 ((c.drop (h.toNat*3)).take 3)) fun an=>cond ((ble (i+1) 140737488355328)&&(ble ((i+1)*8) 140737488355328)) (k1 (i+1) p (wrap .i64 (h+1)) al am ((r.take (i*1))++[.int .i64 an])) none)) none) none) none) none) (Ny N (r.take (i*1)) i false true fun ao=>A8 N ao 3 11 q o fun ap aq=>Bh 3 (b.drop 3) fun d f=>q2 d f (f:Int) 0 ap aq))
def Qz(r0:Bool->LA->O R)(c:LA)(g:Nat)(a:Bool)(b:LA):Nat->Nat->Int->Int->Bool->LA->LA->O R
|0=>fun _ _ _ _ _ _=>none
|n+1=>HD N r0 c g a b (Qz r0 c g a b n) (fun d f=>Vv N r0 d f a N)
def XD(r0:Bool->LA->O R)(a:Bool)(b:LA)(q1:LA->Nat->Nat->Int->Int->Bool->LA->LA->O R)(s:Bool)(t:LA):O R:=(Bh 3 (b.drop 3) fun bc ar=>A8 N (decide ((ar:Int)<=16)) 3 8 s t fun y x=>As .i64 (x.drop 11) fun au=>cond (au != 0) (r0 y x) (Bh 3 (b.drop 3) fun c g=>q1 c g 0 (g:Int) 0 y x []))
def OF(r0:Bool->LA->O R)(a:Bool)(b:LA)(s:Bool)(t:LA):O R:=XD N r0 a b (fun c g=>Qz N r0 c g a b N) s t
def ge(r0:Bool->LA->O R)(q0:Bool->LA->O R)(b:LA)(a l:Bool)(m:LA):O R:=(Bh 3 (b.drop 3) fun bd av=>cond (((av:Int)==0)==false) (RL (b.drop 2) fun aw=>A8 N (cond false true aw) 3 16 l m fun ax ay=>q0 ax ay) (A8 N true 3 16 l m fun az ba=>q0 az ba))
def eK:=(Ac fun N b a l m r0=>ge (R:=R) N r0 (OF N r0 a b) b a l m).1
def oT(b a l m r0):(@eK R N b a l m r0)=(ge N r0 (OF N r0 a b) b a l m):=by rw[eK,(Ac _).2]
def uF:Hints:={H:=hK 1 (hJ [0,3] hL (hK 3 (hS (hK 1 (hS (hP [0,3,4,31,32,33] hL) hL)) (hK 2 (hS (hP [0,64,65,66] hL) hL))))),nils:=[(4,1)]}
def zr:O6:=[Ez N,KJ N,K8 N]
def eM(F:KF R):=Iq Tryz.f68 uF (zr N) [100000] N F
def Aoe(d:LA)(f:Nat)(a:Bool)(K:St->O R):=fun u j v w=>K ⟨[(0,.optr 100000 0),(64,.imm d f 3 false a),(65,iv u),(66,iv j)],[(100000,bP v 0 w)]⟩
def Aof(c:LA)(g:Nat)(a:Bool)(b:LA)(K:St->O R):=fun i p h q o r=>K ⟨[(0,.optr 100000 0),(3,op 0),(4,Bff 1 i),(31,.imm c g 3 false a),(32,iv p),(33,iv h)],[(100000,bP q 0 o),(300000,bP a 0 b),(300001,bQ 1 r)]⟩
def Aog(a:Bool)(b:LA)(K:St->O R):=fun s t=>K ⟨[(0,.optr 100000 0),(3,op 0)],[(100000,bP s 0 t),(300000,bP a 0 b)]⟩
def zt(F:KF R)(d f a):∀ n,Aoe d f a (Ak (eM N F (pz 349524) []) n)=(Vv N (D1 F) d f a n):=Ds fun n e=>(Bs (HC N (D1 F) d f a) e:_)
def zu(F:KF R)(c g a b):∀ n,Aof c g a b (Ak (eM N F (pz 87364) []) n)=(Qz N (D1 F) c g a b n):=Ds fun n e=>(Xs (HD N (D1 F) c g a b) e (MR fun d f=>(lW ..).trans (zt ..)):_)
def zw(F:KF R)(a b):Aog a b (Bo (eM N F (pz 21) []))=(OF N (D1 F) a b):=(Bs (XD N (D1 F) a b) (MR fun c g=>(lW ..).trans (zu ..)):_)
def As5:=B4 N 68 (zr N) uF (fun
|[.optr 100000 0,.pagg b a],[(100000,⟨false,false,true,l,0,m,false,none⟩)]=>some fun _ k=>eK N b a l m (D1 k)
| _,_=>none) fun _ _=>by split;intro R F;exact(Bs (ge N (D1 F) · _ _ _ _) ((jW ..).trans (zw ..)):_).trans (oT ..).symm;trivial
def W1(k0:Int->Int->Bool->LA->O R)(r0:Bool->LA->O R)(b:LA)(c:Nat)(a:Bool)(f:Int)(i:LA)(h:Nat)(g d:LA)(k2:Int->Int->Int->Bool->LA->O R)(q r l:Int)(s:Bool)(o:LA):O R:=(cond (decide (l<r)) (cond (Ad l h) (As .i64 (i.drop (l.toNat*1)) fun w=>cond ((decide (w>=0))==true) (Bh 12 (o.drop 3) fun ax z=>A8 N (cond true (decide (w<(z:Int))) false) 1 12 s o fun aa ab=>k2 q r (wrap .i64 (l+1)) aa ab) (A8 N false 1 12 s o fun ac ad=>k2 q r (wrap .i64 (l+1)) ac ad)) none) (Bh 1 (g.drop 1) fun ae af=>Ny N ae af false a fun ag=>A8 N ag 1 11 s o fun ah ai=>cond (ble 4 g.length) (eK N (g.take 4) a ah ai fun aj ak=>k0 f (wrap .i64 (q+1)) aj ak) none))
def O8(k0:Int->Int->Bool->LA->O R)(r0:Bool->LA->O R)(b:LA)(c:Nat)(a:Bool)(f:Int)(i:LA)(h:Nat)(g d:LA):Nat->Int->Int->Int->Bool->LA->O R
|0=>fun _ _ _ _ _=>none
|n+1=>W1 N k0 r0 b c a f i h g d (O8 k0 r0 b c a f i h g d n)
def W2(N:Nat)(k0:Int->Int->Bool->LA->O R)(r0:Bool->LA->O R)(b:LA)(c:Nat)(a:Bool)(f:Int)(d:LA)(q2:LA->Nat->LA->Int->Int->Int->Bool->LA->O R)(t:Int)(p:Bool)(m g:LA):O R:=(As .i64 (m.drop 11) fun al=>cond (al != 0) (r0 p m) (Bh 1 (g.drop 1) fun i h=>q2 i h g t (h:Int) 0 p m))
def Tz(k0:Int->Int->Bool->LA->O R)(r0:Bool->LA->O R)(b:LA)(c:Nat)(a:Bool)(f:Int)(d:LA)(t:Int)(p:Bool)(m g:LA):O R:=W2 N k0 r0 b c a f d (fun i h g=>O8 N k0 r0 b c a f i h g d N) t p m g
def Q3(r0:Bool->LA->O R)(b:LA)(c:Nat)(a:Bool)(d:LA)(k0:Int->Int->Bool->LA->O R)(q1:Int->Int->Bool->LA->LA->O R)(f j:Int)(u:Bool)(v:LA):O R:=(cond (decide (j<f)) (cond (Ad j c) (cond (ble 4 ((b.drop (j.toNat*4)).length)) (cond ((beq 0 0)&&((beq (((b.drop (j.toNat*4)).take 4).length) 4)&&(beq 4 4))) (dW N 6 j u v fun am an=>Km ((b.drop (j.toNat*4)).take 4) fun ao=>CT N ao am an fun x y=>Bh 1 (((b.drop (j.toNat*4)).take 4).drop 1) fun ay ap=>cond (((ap:Int)==1)==false) (Bh 1 (((b.drop (j.toNat*4)).take 4).drop 1) fun az aq=>A8 N (cond false true ((aq:Int)==2)) 1 4 x y fun ar au=>q1 f j ar au ((b.drop (j.toNat*4)).take 4)) (A8 N true 1 4 x y fun av aw=>q1 f j av aw ((b.drop (j.toNat*4)).take 4))) none) none) none) (r0 u v))
def F4(r0:Bool->LA->O R)(b:LA)(c:Nat)(a:Bool)(d:LA):Nat->Int->Int->Bool->LA->O R
|0=>fun _ _ _ _=>none
|n+1=>Q3 N r0 b c a d (F4 r0 b c a d n) (fun f=>Tz N (F4 r0 b c a d n) r0 b c a f d)
def OG(N:Nat)(r0:Bool->LA->O R)(q0:LA->Nat->Int->Int->Bool->LA->O R)(a:Bool)(d:LA):O R:=(Bh 4 (d.drop 7) fun b c=>q0 b c (c:Int) 0 a d)
def Zh:=(Ac fun N a d r0=>OG (R:=R) N r0 (fun b c=>F4 N r0 b c a d N) a d).1
def eN(a d r0):(@Zh R N a d r0)=(OG N r0 (fun b c=>F4 N r0 b c a d N) a d):=by rw[Zh,(Ac _).2]
def jo:Hints:={H:=hK 2 (hS (hP [1,10,11,12] (hK 2 (hS (hS (hK 3 (hJ [1,3,10,11,12] hL (hK 1 (hS (hK 1 (hS (hP [1,3,10,11,12,43,44,45] hL) hL)) hL)))) hL) hL))) hL)}
def oU:O6:=[NT N,Aeq N,Ez N,KJ N,As5 N]
def QE(F:KF R):=Iq Tryz.f23 jo (oU N) [100000] N F
def Aer(b:LA)(c:Nat)(a:Bool)(f:Int)(i:LA)(h:Nat)(g d:LA)(K:St->O R):=fun q r l s o=>K ⟨[(1,op 0),(3,op 1),(10,.imm b c 4 false a),(11,iv f),(12,iv q),(43,.imm i h 1 false a),(44,iv r),(45,iv l)],[(100000,bP s 0 o),(300000,bN 0 [.optr 100000 0]),(300001,bP a 0 g)]⟩
def Aes(b:LA)(c:Nat)(a:Bool)(f:Int)(d:LA)(K:St->O R):=fun t p m g=>K ⟨[(1,op 0),(3,op 1),(10,.imm b c 4 false a),(11,iv f),(12,iv t)],[(100000,bP p 0 m),(300000,bN 0 [.optr 100000 0]),(300001,bP a 0 g)]⟩
def T0(b:LA)(c:Nat)(a:Bool)(d:LA)(K:St->O R):=fun f j u v=>K ⟨[(1,op 0),(10,.imm b c 4 false a),(11,iv f),(12,iv j)],[(100000,bP u 0 v),(300000,bN 0 [.optr 100000 0])]⟩
def rf Q0 (F:KF R) (b c a f i h g d):∀ n,Aer b c a f i h g d (Ak (QE N F (pz 5642409284) [Q0]) n)=(O8 N (T0 b c a d Q0) (D1 F) b c a f i h g d n):=Ds fun n e=>(Bs (W1 N (T0 b c a d Q0) (D1 F) b c a f i h g d) e:_)
def rg Q0 (F:KF R) (b c a f d):Aes b c a f d (Bo (QE N F (pz 22040661) [Q0]))=(Tz N (T0 b c a d Q0) (D1 F) b c a f d):=(Bs (W2 N (T0 b c a d Q0) (D1 F) b c a f d) (A2b fun i h g=>(lW ..).trans (rf ..)):_)
def ri(F:KF R)(b c a d):∀ n,T0 b c a d (Ak (QE N F (pz 84) []) n)=(F4 N (D1 F) b c a d n):=Ds fun n e=>(Xs (Q3 N (D1 F) b c a d) e (qY fun f=>(jW ..).trans ((rg ..).trans (rB (Tz _ · _ _ _ _ _ _) e))):_)
def Aj7:=B4 N 23 (oU N) jo (fun
|[.optr 100000 0],[(100000,⟨false,false,true,a,0,d,false,none⟩)]=>some fun _ k=>Zh N a d (D1 k)
| _,_=>none) fun _ _=>by split;intro R F;exact(Bs (OG N (D1 F) · _ _) (MR fun b c=>(lW ..).trans (ri ..)):_).trans (eN ..).symm;trivial
def Gz(N:Nat)(r0:Int->O R)(b:LA)(a:Nat)(d f:Bool)(c:Int)(k0:Int->Int->O R)(h g:Int):O R:=(cond (decide (g<h)) (cond (Ad g a) (As .i64 (b.drop (g.toNat*1)) fun i=>cond (c==i) (r0 g) (k0 h (wrap .i64 (g+1)))) none) (r0 (-1)))
def Cw(r0:Int->O R)(b:LA)(a:Nat)(d f:Bool)(c:Int):Nat->Int->Int->O R
|0=>fun _ _=>none
|n+1=>Gz N r0 b a d f c (Cw r0 b a d f c n)
def I0(N:Nat)(r0:Int->O R)(q0:Int->Int->O R)(b:LA)(a:Nat)(d f:Bool)(c:Int):O R:=(q0 (a:Int) 0)
def Kb:=(Ac fun N b a d f c r0=>I0 (R:=R) N r0 (Cw N r0 b a d f c N) b a d f c).1
def Sz(b a d f c r0):(@Kb R N b a d f c r0)=(I0 N r0 (Cw N r0 b a d f c N) b a d f c):=by rw[Kb,(Ac _).2]
def QF(F:KF R):=Iq Tryz.f131 tT [] [] N F
def QG(b:LA)(a:Nat)(d f:Bool)(c:Int)(K:St->O R):=fun h g=>K ⟨[(0,.imm b a 1 d f),(1,iv c),(7,iv h),(8,iv g)],[]⟩
def HE(F:KF R)(b a d f c):∀ n,QG b a d f c (Ak (QF N F (pz 324) []) n)=(Cw N (B8 F) b a d f c n):=Ds fun n e=>(Bs (Gz N (B8 F) b a d f c) e:_)
def SY:=B4 N 131 [] tT (fun
|[.imm b a 1 d f,.int .i64 c],[]=>some fun _ k=>Kb N b a d f c (B8 k)
| _,_=>none) fun _ _=>by split;intro R F;exact(Bs (I0 N (B8 F) · _ _ _ _ _) ((lW ..).trans (HE ..)):_).trans (Sz ..).symm;trivial
def Kl(a:LA)(b:Nat)(e c:Bool)(d:Int)(r0:Bool->O R):O R:=(Kb N a b false c d fun f=>r0 (decide (f>=0)))
def Fd:=(Ac (@Kl R)).1
def Oy:@Fd R=@Kl R:=(Ac _).2
def Q5:=B4 N 112 [SY N] Bt (fun
|[.imm a b 1 e c,.int .i64 d],[]=>some fun _ k=>Fd N a b e c d (Da k)
| _,_=>none) fun _ _=>by split;intro R F;dsimp only;rw[Oy];kernel_rfl;trivial
def BE(r0:Nat->LA->O R)(a:Int)(c:LA)(d:Nat)(b:Bool)(k0:Nat->Int->Int->LA->O R)(g:Nat)(i f:Int)(j:LA):O R:=(cond (decide (f<i)) (cond (Ad f d) (cond (ble 12 ((c.drop (f.toNat*12)).length)) (cond ((beq 0 0)&&((beq (((c.drop (f.toNat*12)).take 12).length) 12)&&(beq 12 12))) (Bh 1 (((c.drop (f.toNat*12)).take 12).drop 11) fun l m=>Fd N l m false b a fun o=>cond (!o) (cond ((ble (g+1) 140737488355328)&&(ble ((g+1)*8) 140737488355328)) (k0 (g+1) i (wrap .i64 (f+1)) ((j.take (g*1))++[.int .i64 f])) none) (k0 g i (wrap .i64 (f+1)) j)) none) none) none) (r0 g j))
def N0(r0:Nat->LA->O R)(a:Int)(c:LA)(d:Nat)(b:Bool):Nat->Nat->Int->Int->LA->O R
|0=>fun _ _ _ _=>none
|n+1=>BE N r0 a c d b (N0 r0 a c d b n)
def XE(N:Nat)(r0:Nat->LA->O R)(q0:LA->Nat->Nat->Int->Int->LA->O R)(h:LA)(b:Bool)(a:Int):O R:=(Bh 12 (h.drop 3) fun c d=>q0 c d 0 (d:Int) 0 [])
def SZ:=(Ac fun N h b a r0=>XE (R:=R) N r0 (fun c d=>N0 N r0 a c d b N) h b a).1
def jq(h b a r0):(@SZ R N h b a r0)=(XE N r0 (fun c d=>N0 N r0 a c d b N) h b a):=by rw[SZ,(Ac _).2]
def oV:Hints:={H:=hK 2 (hS (hK 1 (hS (hP [1,5,9,10,11] hL) hL)) hL),nils:=[(4,1),(5,1)],modes:=[(2,1)]}
def uG:O6:=[Q5 N]
def Aj8(F:KF R):=Iq Tryz.f69 oV (uG N) [] N F
def Aj9(a:Int)(c:LA)(d:Nat)(b:Bool)(K:St->O R):=fun g i f j=>K ⟨[(1,iv a),(5,Bff 0 g),(9,.imm c d 12 false b),(10,iv i),(11,iv f)],hq [bQ 1 j]⟩
def wG(F:KF R)(a c d b):∀ n,Aj9 a c d b (Ak (Aj8 N F (pz 1348) []) n)=(N0 N (Em F) a c d b n):=Ds fun n e=>(Bs (BE N (Em F) a c d b) e:_)
def Aoh:=B4 N 69 (uG N) oV (fun
|[.pagg h b,.int .i64 a],[]=>some fun _ k=>SZ N h b a (Em k)
| _,_=>none) fun _ _=>by split;intro R F;exact(Bs (XE N (Em F) · _ _ _) (MR fun c d=>(lW ..).trans (wG ..)):_).trans (jq ..).symm;trivial
def Il(N:Nat)(r0:O R)(a:Int)(k0:O R):O R:=r0
def D3(r0:O R)(a:Int):Nat->O R
|0=>none
|n+1=>Il N r0 a (D3 r0 a n)
def G0(N:Nat)(r0:O R)(q0:O R)(a:Int):O R:=q0
def Hw:=(Ac fun N a r0=>G0 (R:=R) N r0 (D3 N r0 a N) a).1
def Oz(a r0):(@Hw R N a r0)=(G0 N r0 (D3 N r0 a N) a):=by rw[Hw,(Ac _).2]
def HF(F:KF R):=Iq Tryz.f131 tT [] [] N F
def Fw(F:KF R):O R:=F (iv (-1)) []
def HG(a:Int)(K:St->O R):=K ⟨[(0,.nsl),(1,iv a),(7,iv 0),(8,iv 0)],[]⟩
def Zi(F:KF R)a:∀ n,HG a (Ak (HF N F (pz 324) []) n)=(D3 N (Fw F) a n):=Ds fun n e=>(Bs (Il N (Fw F) a) e:_)
def KN:=B4 N 131 [] tT (fun
|[.nsl,.int .i64 a],[]=>some fun _ k=>Hw N a (Fw k)
| _,_=>none) fun _ _=>by split;intro R F;exact(Bs (G0 N (Fw F) · _) ((lW ..).trans (Zi ..)):_).trans (Oz ..).symm;trivial
def Im(a:Int)(r0:O R):O R:=(Hw N a r0)
def Fx:=(Ac (@Im R)).1
def Lz:@Fx R=@Im R:=(Ac _).2
def Zj(F:KF R):O R:=F (.bool false) []
def CU:=B4 N 112 [KN N] Bt (fun
|[.nsl,.int .i64 a],[]=>some fun _ k=>Fx N a (Zj k)
| _,_=>none) fun _ _=>by split;intro R F;dsimp only;rw[Lz];kernel_rfl;trivial
def HH(N:Nat)(k1:Int->Int->Int->LA->O R)(r0:Int->O R)(a:Nat)(j l:Int)(d:LA)(c:Nat)(f g:Bool)(i m:Int)(h:Bool)(b:LA)(k3:Int->Int->Int->LA->O R)(u v p:Int)(r:LA):O R:=(cond (decide (p<v)) (cond (Ad p a) (As .i64 (r.drop (0+(p.toNat*1))) fun ac=>cond (ac==l) (cond (Ad p a) (cond ((beq 1 1)&&((ble ((0+(p.toNat*1))+1) r.length)&&(!false))) (k3 u v (wrap .i64 (p+1)) (r.set (0+(p.toNat*1)) (.int .i64 j))) none) none) (k3 u v (wrap .i64 (p+1)) r)) none) (k1 u i (wrap .i64 (m+1)) r))
def Vw(k1:Int->Int->Int->LA->O R)(r0:Int->O R)(a:Nat)(j l:Int)(d:LA)(c:Nat)(f g:Bool)(i m:Int)(h:Bool)(b:LA):Nat->Int->Int->Int->LA->O R
|0=>fun _ _ _ _=>none
|n+1=>HH N k1 r0 a j l d c f g i m h b (Vw k1 r0 a j l d c f g i m h b n)
def XF(N:Nat)(k1:Int->Int->Int->LA->O R)(r0:Int->O R)(a:Nat)(o j l:Int)(d:LA)(c:Nat)(f g:Bool)(i:Int)(h:Bool)(b:LA)(q3:Int->Int->Int->Int->LA->O R)(m:Int)(w:LA):O R:=(q3 m (wrap .i64 (o - 1)) (a:Int) 0 w)
def OH(k1:Int->Int->Int->LA->O R)(r0:Int->O R)(a:Nat)(o j l:Int)(d:LA)(c:Nat)(f g:Bool)(i:Int)(h:Bool)(b:LA)(m:Int)(w:LA):O R:=XF N k1 r0 a o j l d c f g i h b (fun m=>Vw N k1 r0 a j l d c f g i m h b N) m w
def HI(r0:Int->O R)(a:Nat)(d:LA)(c:Nat)(f g h:Bool)(b:LA)(k1:Int->Int->Int->LA->O R)(q2:Int->Int->Int->Int->Int->LA->O R)(o i s:Int)(t:LA):O R:=(cond (decide (s<i)) (cond (Ad s c) (As .i64 (d.drop (s.toNat*1)) fun x=>Bh 12 (b.drop 3) fun ad ae=>cond (Ad x ae) (As .i64 ((ad.drop (x.toNat*12)).drop 1) fun aa=>cond (Ad aa a) (As .i64 (t.drop (0+(aa.toNat*1))) fun j=>Bh 12 (b.drop 3) fun af ag=>cond (Ad x ag) (As .i64 ((af.drop (x.toNat*12)).drop 2) fun ab=>cond (Ad ab a) (As .i64 (t.drop (0+(ab.toNat*1))) fun l=>cond ((j==l)==false) (Fx N x (q2 o j l i s t)) (k1 o i (wrap .i64 (s+1)) t)) none) none) none) none) none) (r0 o))
def Mx(r0:Int->O R)(a:Nat)(d:LA)(c:Nat)(f g h:Bool)(b:LA):Nat->Int->Int->Int->LA->O R
|0=>fun _ _ _ _=>none
|n+1=>HI N r0 a d c f g h b (Mx r0 a d c f g h b n) (fun o j l i=>OH N (Mx r0 a d c f g h b n) r0 a o j l d c f g i h b)
def HJ(N:Nat)(r0:Int->O R)(d:LA)(c:Nat)(f g:Bool)(a:Nat)(h:Bool)(b:LA)(k0:Int->Int->LA->O R)(q1:Int->Int->Int->LA->O R)(z q:Int)(y:LA):O R:=(cond (decide (q<z)) (cond (Ad q a) (cond ((beq 1 1)&&((ble ((0+(q.toNat*1))+1) y.length)&&(!false))) (k0 z (wrap .i64 (q+1)) (y.set (0+(q.toNat*1)) (.int .i64 q))) none) none) (q1 (a:Int) (c:Int) 0 y))
def Q6(r0:Int->O R)(d:LA)(c:Nat)(f g:Bool)(a:Nat)(h:Bool)(b:LA):Nat->Int->Int->LA->O R
|0=>fun _ _ _=>none
|n+1=>HJ N r0 d c f g a h b (Q6 r0 d c f g a h b n) (Mx N r0 a d c f g h b N)
def gf(N:Nat)(r0:Int->O R)(q0:Nat->Int->Int->LA->O R)(b:LA)(h:Bool)(d:LA)(c:Nat)(f g:Bool):O R:=(Bh 3 (b.drop 2) fun ah a=>cond ((decide (0<=(a:Int)))&&((decide ((a:Int)<=(a:Int)))&&((decide ((a:Int)<=140737488355328))&&(decide (((a:Int)*((8:Nat):Int))<=140737488355328))))) (q0 a (a:Int) 0 (replicate a Bfg)) none)
def eP:=(Ac fun N b h d c f g r0=>gf (R:=R) N r0 (fun a=>Q6 N r0 d c f g a h b N) b h d c f g).1
def oW(b h d c f g r0):(@eP R N b h d c f g r0)=(gf N r0 (fun a=>Q6 N r0 d c f g a h b N) b h d c f g):=by rw[eP,(Ac _).2]
def uH:Hints:={H:=hK 2 (hS (hK 1 (hS (hP [1,2,3,7,20,21] hL) hL)) (hK 1 (hS (hK 1 (hS (hP [2,3,7,9,31,32,33] (hK 2 (hS (hS (hK 2 (hJ [2,3,7,9,12,13,31,32,33] hL (hK 2 (hS (hP [2,3,7,9,12,13,31,32,33,66,67] hL) hL)))) hL) hL))) hL)) hL)))}
def zx:O6:=[CU N]
def OI(F:KF R):=Iq Tryz.f70 uH (zx N) [] N F
def Aoi(a:Nat)(j l:Int)(d:LA)(c:Nat)(f g:Bool)(i m:Int)(h:Bool)(b:LA)(K:St->O R):=fun u v p r=>K ⟨[(2,.nsl),(3,op 0),(7,Bff 1 a),(9,iv u),(12,iv j),(13,iv l),(31,.imm d c 1 f g),(32,iv i),(33,iv m),(66,iv v),(67,iv p)],hq [bP h 0 b,bQ 1 r]⟩
def Aoj(a:Nat)(o j l:Int)(d:LA)(c:Nat)(f g:Bool)(i:Int)(h:Bool)(b:LA)(K:St->O R):=fun m w=>K ⟨[(2,.nsl),(3,op 0),(7,Bff 1 a),(9,iv o),(12,iv j),(13,iv l),(31,.imm d c 1 f g),(32,iv i),(33,iv m)],hq [bP h 0 b,bQ 1 w]⟩
def CV(a:Nat)(d:LA)(c:Nat)(f g h:Bool)(b:LA)(K:St->O R):=fun o i s t=>K ⟨[(2,.nsl),(3,op 0),(7,Bff 1 a),(9,iv o),(31,.imm d c 1 f g),(32,iv i),(33,iv s)],hq [bP h 0 b,bQ 1 t]⟩
def Aok(d:LA)(c:Nat)(f g:Bool)(a:Nat)(h:Bool)(b:LA)(K:St->O R):=fun z q y=>K ⟨[(1,.imm d c 1 f g),(2,.nsl),(3,op 0),(7,Bff 1 a),(20,iv z),(21,iv q)],hq [bP h 0 b,bQ 1 y]⟩
def zy Q1 (F:KF R) (a j l d c f g i m h b):∀ n,Aoi a j l d c f g i m h b (Ak (OI N F (pz 91553596756) [Q1]) n)=(Vw N (CV a d c f g h b Q1) (B8 F) a j l d c f g i m h b n):=Ds fun n e=>(Bs (HH N (CV a d c f g h b Q1) (B8 F) a j l d c f g i m h b) e:_)
def Aaa Q1 (F:KF R) (a o j l d c f g i h b):Aoj a o j l d c f g i h b (Bo (OI N F (pz 1430524949) [Q1]))=(OH N (CV a d c f g h b Q1) (B8 F) a o j l d c f g i h b):=(Bs (XF N (CV a d c f g h b Q1) (B8 F) a o j l d c f g i h b) (qY fun m=>(lW ..).trans (zy ..)):_)
def Aab(F:KF R)(a d c f g h b):∀ n,CV a d c f g h b (Ak (OI N F (pz 21828) []) n)=(Mx N (B8 F) a d c f g h b n):=Ds fun n e=>(Xs (HI N (B8 F) a d c f g h b) e (Aip fun o j l i=>(jW ..).trans ((Aaa ..).trans (rB (OH _ · _ _ _ _ _ _ _ _ _ _ _ _) e))):_)
def Aac(F:KF R)(d c f g a h b):∀ n,Aok d c f g a h b (Ak (OI N F (pz 1348) []) n)=(Q6 N (B8 F) d c f g a h b n):=Ds fun n e=>(Xs (HJ N (B8 F) d c f g a h b) e ((lW ..).trans (Aab ..)):_)
def As6:=B4 N 70 (zx N) uH (fun
|[.pagg b h,.imm d c 1 f g,.nsl],[]=>some fun _ k=>eP N b h d c f g (B8 k)
| _,_=>none) fun _ _=>by split;intro R F;exact(Bs (gf N (B8 F) · _ _ _ _ _ _) (qY fun a=>(lW ..).trans (Aac ..)):_).trans (oW ..).symm;trivial
def Uj(N:Nat)(k1:Int->Int->Int->LA->O R)(r0:Int->O R)(d:LA)(f:Nat)(i g:Bool)(a:Nat)(q r:Int)(h:LA)(c:Nat)(j l:Bool)(p o:Int)(m:Bool)(b:LA)(k3:Int->Int->Int->LA->O R)(x y t:Int)(v:LA):O R:=(cond (decide (t<y)) (cond (Ad t a) (As .i64 (v.drop (0+(t.toNat*1))) fun af=>cond (af==r) (cond (Ad t a) (cond ((beq 1 1)&&((ble ((0+(t.toNat*1))+1) v.length)&&(!false))) (k3 x y (wrap .i64 (t+1)) (v.set (0+(t.toNat*1)) (.int .i64 q))) none) none) (k3 x y (wrap .i64 (t+1)) v)) none) (k1 x p (wrap .i64 (o+1)) v))
def Mm(k1:Int->Int->Int->LA->O R)(r0:Int->O R)(d:LA)(f:Nat)(i g:Bool)(a:Nat)(q r:Int)(h:LA)(c:Nat)(j l:Bool)(p o:Int)(m:Bool)(b:LA):Nat->Int->Int->Int->LA->O R
|0=>fun _ _ _ _=>none
|n+1=>Uj N k1 r0 d f i g a q r h c j l p o m b (Mm k1 r0 d f i g a q r h c j l p o m b n)
def EF(N:Nat)(k1:Int->Int->Int->LA->O R)(r0:Int->O R)(d:LA)(f:Nat)(i g:Bool)(a:Nat)(s q r:Int)(h:LA)(c:Nat)(j l:Bool)(p o:Int)(m:Bool)(b:LA)(q3:Int->Int->Int->LA->O R)(z:LA):O R:=(q3 (wrap .i64 (s - 1)) (a:Int) 0 z)
def W3(k1:Int->Int->Int->LA->O R)(r0:Int->O R)(d:LA)(f:Nat)(i g:Bool)(a:Nat)(s q r:Int)(h:LA)(c:Nat)(j l:Bool)(p o:Int)(m:Bool)(b z:LA):O R:=EF N k1 r0 d f i g a s q r h c j l p o m b (Mm N k1 r0 d f i g a q r h c j l p o m b N) z
def Uk(r0:Int->O R)(d:LA)(f:Nat)(i g:Bool)(a:Nat)(h:LA)(c:Nat)(j l m:Bool)(b:LA)(k1:Int->Int->Int->LA->O R)(q2:Int->Int->Int->Int->Int->LA->O R)(s p o:Int)(w:LA):O R:=(cond (decide (o<p)) (cond (Ad o c) (As .i64 (h.drop (o.toNat*1)) fun aa=>Bh 12 (b.drop 3) fun ag ah=>cond (Ad aa ah) (As .i64 ((ag.drop (aa.toNat*12)).drop 1) fun ad=>cond (Ad ad a) (As .i64 (w.drop (0+(ad.toNat*1))) fun q=>Bh 12 (b.drop 3) fun ai aj=>cond (Ad aa aj) (As .i64 ((ai.drop (aa.toNat*12)).drop 2) fun ae=>cond (Ad ae a) (As .i64 (w.drop (0+(ae.toNat*1))) fun r=>cond ((q==r)==false) (Fd N d f false g aa fun ak=>cond (cond false true ak) (k1 s p (wrap .i64 (o+1)) w) (q2 s q r p o w)) (k1 s p (wrap .i64 (o+1)) w)) none) none) none) none) none) (r0 s))
def H6(r0:Int->O R)(d:LA)(f:Nat)(i g:Bool)(a:Nat)(h:LA)(c:Nat)(j l m:Bool)(b:LA):Nat->Int->Int->Int->LA->O R
|0=>fun _ _ _ _=>none
|n+1=>Uk N r0 d f i g a h c j l m b (H6 r0 d f i g a h c j l m b n) (fun s q r p o=>W3 N (H6 r0 d f i g a h c j l m b n) r0 d f i g a s q r h c j l p o m b)
def Ul(N:Nat)(r0:Int->O R)(h:LA)(c:Nat)(j l:Bool)(d:LA)(f:Nat)(i g:Bool)(a:Nat)(m:Bool)(b:LA)(k0:Int->Int->LA->O R)(q1:Int->Int->Int->LA->O R)(ac u:Int)(ab:LA):O R:=(cond (decide (u<ac)) (cond (Ad u a) (cond ((beq 1 1)&&((ble ((0+(u.toNat*1))+1) ab.length)&&(!false))) (k0 ac (wrap .i64 (u+1)) (ab.set (0+(u.toNat*1)) (.int .i64 u))) none) none) (q1 (a:Int) (c:Int) 0 ab))
def Jy(r0:Int->O R)(h:LA)(c:Nat)(j l:Bool)(d:LA)(f:Nat)(i g:Bool)(a:Nat)(m:Bool)(b:LA):Nat->Int->Int->LA->O R
|0=>fun _ _ _=>none
|n+1=>Ul N r0 h c j l d f i g a m b (Jy r0 h c j l d f i g a m b n) (H6 N r0 d f i g a h c j l m b N)
def HK(N:Nat)(r0:Int->O R)(q0:Nat->Int->Int->LA->O R)(b:LA)(m:Bool)(h:LA)(c:Nat)(j l:Bool)(d:LA)(f:Nat)(i g:Bool):O R:=(Bh 3 (b.drop 2) fun al a=>cond ((decide (0<=(a:Int)))&&((decide ((a:Int)<=(a:Int)))&&((decide ((a:Int)<=140737488355328))&&(decide (((a:Int)*((8:Nat):Int))<=140737488355328))))) (q0 a (a:Int) 0 (replicate a Bfg)) none)
def CW:=(Ac fun N b m h c j l d f i g r0=>HK (R:=R) N r0 (fun a=>Jy N r0 h c j l d f i g a m b N) b m h c j l d f i g).1
def ZT(b m h c j l d f i g r0):(@CW R N b m h c j l d f i g r0)=(HK N r0 (fun a=>Jy N r0 h c j l d f i g a m b N) b m h c j l d f i g):=by rw[CW,(Ac _).2]
def eQ:Hints:={H:=hK 2 (hS (hK 1 (hS (hP [1,2,3,7,20,21] hL) hL)) (hK 1 (hS (hK 1 (hS (hP [2,3,7,9,31,32,33] (hK 2 (hS (hS (hK 2 (hJ [2,3,7,9,12,13,31,32,33] hL (hK 2 (hS (hP [2,3,7,9,12,13,31,32,33,66,67] hL) hL)))) hL) hL))) hL)) hL)))}
def jr:O6:=[Q5 N]
def W4(F:KF R):=Iq Tryz.f70 eQ (jr N) [] N F
def Aad(d:LA)(f:Nat)(i g:Bool)(a:Nat)(q r:Int)(h:LA)(c:Nat)(j l:Bool)(p o:Int)(m:Bool)(b:LA)(K:St->O R):=fun x y t v=>K ⟨[(2,.imm d f 1 i g),(3,op 0),(7,Bff 1 a),(9,iv x),(12,iv q),(13,iv r),(31,.imm h c 1 j l),(32,iv p),(33,iv o),(66,iv y),(67,iv t)],hq [bP m 0 b,bQ 1 v]⟩
def Aae(d:LA)(f:Nat)(i g:Bool)(a:Nat)(s q r:Int)(h:LA)(c:Nat)(j l:Bool)(p o:Int)(m:Bool)(b:LA)(K:St->O R):=fun z=>K ⟨[(2,.imm d f 1 i g),(3,op 0),(7,Bff 1 a),(9,iv s),(12,iv q),(13,iv r),(31,.imm h c 1 j l),(32,iv p),(33,iv o)],hq [bP m 0 b,bQ 1 z]⟩
def Q8(d:LA)(f:Nat)(i g:Bool)(a:Nat)(h:LA)(c:Nat)(j l m:Bool)(b:LA)(K:St->O R):=fun s p o w=>K ⟨[(2,.imm d f 1 i g),(3,op 0),(7,Bff 1 a),(9,iv s),(31,.imm h c 1 j l),(32,iv p),(33,iv o)],hq [bP m 0 b,bQ 1 w]⟩
def Aaf(h:LA)(c:Nat)(j l:Bool)(d:LA)(f:Nat)(i g:Bool)(a:Nat)(m:Bool)(b:LA)(K:St->O R):=fun ac u ab=>K ⟨[(1,.imm h c 1 j l),(2,.imm d f 1 i g),(3,op 0),(7,Bff 1 a),(20,iv ac),(21,iv u)],hq [bP m 0 b,bQ 1 ab]⟩
def oX Q1 (F:KF R) (d f i g a q r h c j l p o m b):∀ n,Aad d f i g a q r h c j l p o m b (Ak (W4 N F (pz 91553596756) [Q1]) n)=(Mm N (Q8 d f i g a h c j l m b Q1) (B8 F) d f i g a q r h c j l p o m b n):=Ds fun n e=>(Bs (Uj N (Q8 d f i g a h c j l m b Q1) (B8 F) d f i g a q r h c j l p o m b) e:_)
def oY Q1 (F:KF R) (d f i g a s q r h c j l p o m b):Aae d f i g a s q r h c j l p o m b (Bo (W4 N F (pz 1430524949) [Q1]))=(W3 N (Q8 d f i g a h c j l m b Q1) (B8 F) d f i g a s q r h c j l p o m b):=(Bs (EF N (Q8 d f i g a h c j l m b Q1) (B8 F) d f i g a s q r h c j l p o m b) ((lW ..).trans (oX ..)):_)
def oZ(F:KF R)(d f i g a h c j l m b):∀ n,Q8 d f i g a h c j l m b (Ak (W4 N F (pz 21828) []) n)=(H6 N (B8 F) d f i g a h c j l m b n):=Ds fun n e=>(Xs (Uk N (B8 F) d f i g a h c j l m b) e (A7f fun s q r p o=>(jW ..).trans ((oY ..).trans (rB (W3 _ · _ _ _ _ _ _ _ _ _ _ _ _ _ _ _ _ _) e))):_)
def o7(F:KF R)(h c j l d f i g a m b):∀ n,Aaf h c j l d f i g a m b (Ak (W4 N F (pz 1348) []) n)=(Jy N (B8 F) h c j l d f i g a m b n):=Ds fun n e=>(Xs (Ul N (B8 F) h c j l d f i g a m b) e ((lW ..).trans (oZ ..)):_)
def Aet:=B4 N 70 (jr N) eQ (fun
|[.pagg b m,.imm h c 1 j l,.imm d f 1 i g],[]=>some fun _ k=>CW N b m h c j l d f i g (B8 k)
| _,_=>none) fun _ _=>by split;intro R F;exact(Bs (HK N (B8 F) · _ _ _ _ _ _ _ _ _ _) (qY fun a=>(lW ..).trans (o7 ..)):_).trans (ZT ..).symm;trivial
def W5(k0:Int->Bool->LA->O R)(r0:Bool->LA->O R)(d:Nat)(i c:Int)(f:LA)(g:Nat)(h:LA)(b:Bool)(a:LA)(k1:Int->Int->Bool->Int->Int->Bool->LA->O R)(p q:Int)(r:Bool)(s j:Int)(t:Bool)(u:LA):O R:=(cond (decide (j<s)) (cond (Ad j g) (cond (ble 4 ((f.drop (j.toNat*4)).length)) (cond ((beq 0 0)&&((beq (((f.drop (j.toNat*4)).take 4).length) 4)&&(beq 4 4))) (dW N 6 j t u fun w v=>cond (ble 8 v.length) (Bh 1 (((f.drop (j.toNat*4)).take 4).drop 1) fun x y=>CW N (v.take 8) w (h.take (d*1)) d false true x y false r fun z=>A8 N (z==i) p 13 w v fun aa ab=>k1 p q r s (wrap .i64 (j+1)) aa ab) none) none) none) none) (k0 (wrap .i64 (q+1)) t u))
def Lv(k0:Int->Bool->LA->O R)(r0:Bool->LA->O R)(d:Nat)(i c:Int)(f:LA)(g:Nat)(h:LA)(b:Bool)(a:LA):Nat->Int->Int->Bool->Int->Int->Bool->LA->O R
|0=>fun _ _ _ _ _ _ _=>none
|n+1=>W5 N k0 r0 d i c f g h b a (Lv k0 r0 d i c f g h b a n)
def W6(r0:Bool->LA->O R)(c:Int)(b:Bool)(a:LA)(k0:Int->Bool->LA->O R)(q1:Nat->Int->LA->Nat->LA->Int->Int->Bool->Int->Int->Bool->LA->O R)(o:Int)(m:Bool)(l:LA):O R:=(cond (decide (o<c)) (cond (ble 8 l.length) (SZ N (l.take 8) m o fun d h=>cond (ble 8 l.length) (eP N (l.take 8) m (h.take (d*1)) d false true fun i=>Bh 4 (l.drop 7) fun f g=>q1 d i f g h o o m (g:Int) 0 m l) none) none) (r0 m l))
def Jc(r0:Bool->LA->O R)(c:Int)(b:Bool)(a:LA):Nat->Int->Bool->LA->O R
|0=>fun _ _ _=>none
|n+1=>W6 N r0 c b a (Jc r0 c b a n) (fun d i f g h=>Lv N (Jc r0 c b a n) r0 d i c f g h b a N)
def OJ(N:Nat)(r0:Bool->LA->O R)(q0:Int->Int->Bool->LA->O R)(b:Bool)(a:LA):O R:=(As .i64 a fun c=>q0 c 0 b a)
def Zk:=(Ac fun N b a r0=>OJ (R:=R) N r0 (fun c=>Jc N r0 c b a N) b a).1
def eV(b a r0):(@Zk R N b a r0)=(OJ N r0 (fun c=>Jc N r0 c b a N) b a):=by rw[Zk,(Ac _).2]
def js:Hints:={H:=hK 1 (hS (hP [0,11,12] (hK 2 (hS (hS (hK 4 (hS (hP [0,2,3,4,11,12,31,32,33] hL) hL)) hL) hL))) hL)}
def KO:=A5y (As6 N) (Aet N) (Eq.refl 70)
def o8:O6:=[Aoh N,KO N,NT N,Ez N]
def jt(F:KF R):=Iq Tryz.f24 js (o8 N) [100000] N F
def Aeu(d:Nat)(i c:Int)(f:LA)(g:Nat)(h:LA)(b:Bool)(a:LA)(K:St->O R):=fun p q r s j t u=>K ⟨[(0,.optr 100000 0),(2,iv p),(3,Bff 0 d),(4,iv i),(11,iv c),(12,iv q),(31,.imm f g 4 false r),(32,iv s),(33,iv j)],[(100000,bP t 0 u),(300000,bQ 1 h)]⟩
def QH(c:Int)(b:Bool)(a:LA)(K:St->O R):=fun o m l=>K ⟨[(0,.optr 100000 0),(11,iv c),(12,iv o)],[(100000,bP m 0 l)]⟩
def rj Q0 (F:KF R) (d i c f g h b a):∀ n,Aeu d i c f g h b a (Ak (jt N F (pz 21053780) [Q0]) n)=(Lv N (QH c b a Q0) (D1 F) d i c f g h b a n):=Ds fun n e=>(Bs (W5 N (QH c b a Q0) (D1 F) d i c f g h b a) e:_)
def rk(F:KF R)(c b a):∀ n,QH c b a (Ak (jt N F (pz 20) []) n)=(Jc N (D1 F) c b a n):=Ds fun n e=>(Xs (W6 N (D1 F) c b a) e (A7f fun d i f g h=>(lW ..).trans ((rj ..).trans (rB (Lv _ · _ _ _ _ _ _ _ _ _ _) e))):_)
def Aka:=B4 N 24 (o8 N) js (fun
|[.optr 100000 0],[(100000,⟨false,false,true,b,0,a,false,none⟩)]=>some fun _ k=>Zk N b a (D1 k)
| _,_=>none) fun _ _=>by split;intro R F;exact(Bs (OJ N (D1 F) · _ _) (qY fun c=>(lW ..).trans (rk ..)):_).trans (eV ..).symm;trivial
def Gd(r0:LA->Int->O R)(k0:Int->Bool->LA->O R)(a:Int)(b:Bool)(c:LA):O R:=(cond (decide (a<8)) (cond (Ad a 8) (cond (beq (0+(a.toNat*1)) 0) (SP N b c fun q f=>As .i64 (f.drop 11) fun y=>cond (y != 0) (cond (ble 3 ((f.drop 8).length)) (cond ((!q)||(A0 ((f.drop 8).take 3))) (As .i64 (f.drop 11) fun z=>cond ((beq (((f.drop 8).take 3).length) 3)&&((ble 3 3)&&(!false))) (cond (ble 3 ((setCells [Bfg,Bfg,Bfg] 0 ((f.drop 8).take 3)).length)) (r0 ((setCells [Bfg,Bfg,Bfg] 0 ((f.drop 8).take 3)).take 3) z) none) none) none) none) (k0 (wrap .i64 (a+1)) q f)) (cond (beq (0+(a.toNat*1)) 1) (SR N b c fun r g=>As .i64 (g.drop 11) fun aa=>cond (aa != 0) (cond (ble 3 ((g.drop 8).length)) (cond ((!r)||(A0 ((g.drop 8).take 3))) (As .i64 (g.drop 11) fun ab=>cond ((beq (((g.drop 8).take 3).length) 3)&&((ble 3 3)&&(!false))) (cond (ble 3 ((setCells [Bfg,Bfg,Bfg] 0 ((g.drop 8).take 3)).length)) (r0 ((setCells [Bfg,Bfg,Bfg] 0 ((g.drop 8).take 3)).take 3) ab) none) none) none) none) (k0 (wrap .i64 (a+1)) r g)) (cond (beq (0+(a.toNat*1)) 2) (SV N b c fun s h=>As .i64 (h.drop 11) fun ac=>cond (ac != 0) (cond (ble 3 ((h.drop 8).length)) (cond ((!s)||(A0 ((h.drop 8).take 3))) (As .i64 (h.drop 11) fun ad=>cond ((beq (((h.drop 8).take 3).length) 3)&&((ble 3 3)&&(!false))) (cond (ble 3 ((setCells [Bfg,Bfg,Bfg] 0 ((h.drop 8).take 3)).length)) (r0 ((setCells [Bfg,Bfg,Bfg] 0 ((h.drop 8).take 3)).take 3) ad) none) none) none) none) (k0 (wrap .i64 (a+1)) s h)) (cond (beq (0+(a.toNat*1)) 3) (SX N b c fun t i=>As .i64 (i.drop 11) fun ae=>cond (ae != 0) (cond (ble 3 ((i.drop 8).length)) (cond ((!t)||(A0 ((i.drop 8).take 3))) (As .i64 (i.drop 11) fun af=>cond ((beq (((i.drop 8).take 3).length) 3)&&((ble 3 3)&&(!false))) (cond (ble 3 ((setCells [Bfg,Bfg,Bfg] 0 ((i.drop 8).take 3)).length)) (r0 ((setCells [Bfg,Bfg,Bfg] 0 ((i.drop 8).take 3)).take 3) af) none) none) none) none) (k0 (wrap .i64 (a+1)) t i)) (cond (beq (0+(a.toNat*1)) 4) (IM N b c fun u j=>As .i64 (j.drop 11) fun ag=>cond (ag != 0) (cond (ble 3 ((j.drop 8).length)) (cond ((!u)||(A0 ((j.drop 8).take 3))) (As .i64 (j.drop 11) fun ah=>cond ((beq (((j.drop 8).take 3).length) 3)&&((ble 3 3)&&(!false))) (cond (ble 3 ((setCells [Bfg,Bfg,Bfg] 0 ((j.drop 8).take 3)).length)) (r0 ((setCells [Bfg,Bfg,Bfg] 0 ((j.drop 8).take 3)).take 3) ah) none) none) none) none) (k0 (wrap .i64 (a+1)) u j)) (cond (beq (0+(a.toNat*1)) 5) (gd N b c fun v l=>As .i64 (l.drop 11) fun ai=>cond (ai != 0) (cond (ble 3 ((l.drop 8).length)) (cond ((!v)||(A0 ((l.drop 8).take 3))) (As .i64 (l.drop 11) fun aj=>cond ((beq (((l.drop 8).take 3).length) 3)&&((ble 3 3)&&(!false))) (cond (ble 3 ((setCells [Bfg,Bfg,Bfg] 0 ((l.drop 8).take 3)).length)) (r0 ((setCells [Bfg,Bfg,Bfg] 0 ((l.drop 8).take 3)).take 3) aj) none) none) none) none) (k0 (wrap .i64 (a+1)) v l)) (cond (beq (0+(a.toNat*1)) 6) (Zh N b c fun w m=>As .i64 (m.drop 11) fun ak=>cond (ak != 0) (cond (ble 3 ((m.drop 8).length)) (cond ((!w)||(A0 ((m.drop 8).take 3))) (As .i64 (m.drop 11) fun al=>cond ((beq (((m.drop 8).take 3).length) 3)&&((ble 3 3)&&(!false))) (cond (ble 3 ((setCells [Bfg,Bfg,Bfg] 0 ((m.drop 8).take 3)).length)) (r0 ((setCells [Bfg,Bfg,Bfg] 0 ((m.drop 8).take 3)).take 3) al) none) none) none) none) (k0 (wrap .i64 (a+1)) w m)) (cond (beq (0+(a.toNat*1)) 7) (Zk N b c fun x o=>As .i64 (o.drop 11) fun am=>cond (am != 0) (cond (ble 3 ((o.drop 8).length)) (cond ((!x)||(A0 ((o.drop 8).take 3))) (As .i64 (o.drop 11) fun an=>cond ((beq (((o.drop 8).take 3).length) 3)&&((ble 3 3)&&(!false))) (cond (ble 3 ((setCells [Bfg,Bfg,Bfg] 0 ((o.drop 8).take 3)).length)) (r0 ((setCells [Bfg,Bfg,Bfg] 0 ((o.drop 8).take 3)).take 3) an) none) none) none) none) (k0 (wrap .i64 (a+1)) x o)) none)))))))) none) (r0 [Bfg,Bfg,Bfg] 0))
def Be(r0:LA->Int->O R):Nat->Int->Bool->LA->O R
|0=>fun _ _ _=>none
|n+1=>Gd N r0 (Be r0 n)
def gg(N:Nat)(r0:LA->Int->O R)(q0:Int->Bool->LA->O R)(d:LA)(p:Bool):O R:=(cond (ble 8 d.length) (cond ((beq ((d.take 8).length) 8)&&(ble 8 12)) (q0 0 (p||false) (setCells [Bfg,.nsl,.nsl,.nsl,.nsl,.nsl,.nsl,.nsl,Bfg,Bfg,Bfg,Bfg] 0 (d.take 8))) none) none)
def CX:=(Ac fun N d p r0=>gg (R:=R) N r0 (Be N r0 N) d p).1
def o_(d p r0):(@CX R N d p r0)=(gg N r0 (Be N r0 N) d p):=by rw[CX,(Ac _).2]
def uI:Hints:={H:=hK 2 (hS (hK 1 (hS (hP [2,4,26,27,28] hL) hL)) hL),modes:=[(3,0),(0,0)]}
def Aag:O6:=[Asv N,Asy N,As1 N,As2 N,Aod N,Axq N,Aj7 N,Aka N]
def Aol(F:KF R):=Iq Tryz.f5 uI (Aag N) [] N F
def Aom(K:St->O R):=fun a b c=>K ⟨[(2,op 0),(4,op 1),(26,Bff 2 8),(27,iv 8),(28,iv a)],hq [bQ 0 [iv 0,iv 0,iv 0],bP b 0 c,bN 1 [.fn 1000017 [op 1],.fn 1000018 [op 1],.fn 1000019 [op 1],.fn 1000020 [op 1],.fn 1000021 [op 1],.fn 1000022 [op 1],.fn 1000023 [op 1],.fn 1000024 [op 1]]]⟩
def Aah(F:KF R):∀ n,Aom (Ak (Aol N F (pz 1348) []) n)=(Be N (Kv F) n):=Ds fun n e=>(Bs (Gd N (Kv F)) e:_)
def As7:=B4 N 5 (Aag N) uI (fun
|[.pagg d p],[]=>some fun _ k=>CX N d p (Kv k)
| _,_=>none) fun _ _=>by split;intro R F;exact(Bs (gg N (Kv F) · _ _) ((lW ..).trans (Aah ..)):_).trans (o_ ..).symm;trivial
def HL(N:Nat)(r0:Int->O R)(b:Bool)(a:LA):O R:=(Bh 9 (a.drop 5) fun i c=>cond ((decide ((c:Int)>8))==false) (Bh 5 (a.drop 6) fun j d=>cond ((cond false true (decide ((d:Int)>8)))==false) (Bh 4 (a.drop 7) fun l e=>cond (cond false true (decide ((e:Int)>64))) (r0 8) (r0 0)) (r0 8)) (r0 8))
def XG(N:Nat)(r0:Int->O R)(q0:O R)(a:LA)(b:Bool):O R:=(Bh 3 (a.drop 2) fun m f=>cond ((decide ((f:Int)>32))==false) (Bh 12 (a.drop 3) fun n g=>cond ((cond false true (decide ((g:Int)>64)))==false) (Bh 22 (a.drop 4) fun o h=>cond (cond false true (decide ((h:Int)>16))) (r0 8) q0) (r0 8)) (r0 8))
def S_:=(Ac fun N a b r0=>XG (R:=R) N r0 (HL N r0 b a) a b).1
def ju(a b r0):(@S_ R N a b r0)=(XG N r0 (HL N r0 b a) a b):=by rw[S_,(Ac _).2]
def oa:Hints:={H:=hK 1 (hJ [1] hL hL)}
def Akb(F:KF R):=Iq Tryz.f25 oa [] [] N F
def Akc(b:Bool)(a:LA)(K:St->O R):=K ⟨[(1,op 0)],hq [bP b 0 a]⟩
def wH(F:KF R)(b a):Akc b a (Bo (Akb N F (pz 21) []))=(HL N (B8 F) b a):=by kernel_rfl
def Aon:=B4 N 25 [] oa (fun
|[.pagg a b],[]=>some fun _ k=>S_ N a b (B8 k)
| _,_=>none) fun _ _=>by split;intro R F;exact(Bs (XG N (B8 F) · _ _) ((jW ..).trans (wH ..)):_).trans (ju ..).symm;trivial
def BF(N:Nat)(r0:Bool->O R)(c:LA)(g:Nat)(b:Bool)(a:LA)(k1:Bool->Int->Int->O R)(m:Bool)(j h:Int):O R:=(cond (decide (h<j)) (cond (Ad h g) (cond (ble 5 ((c.drop (h.toNat*5)).length)) (cond ((beq 0 0)&&((beq (((c.drop (h.toNat*5)).take 5).length) 5)&&(beq 5 5))) (cond (m==true) (Bh 1 (((c.drop (h.toNat*5)).take 5).drop 2) fun z p=>As .i64 a fun q=>cond ((cond true ((p:Int)==q) false)==true) (Bh 1 (((c.drop (h.toNat*5)).take 5).drop 3) fun aa r=>As .i64 a fun s=>cond ((cond true ((r:Int)==s) false)==true) (Bh 1 (((c.drop (h.toNat*5)).take 5).drop 4) fun ab t=>As .i64 a fun u=>k1 (cond true ((t:Int)==u) false) j (wrap .i64 (h+1))) (k1 false j (wrap .i64 (h+1)))) (k1 false j (wrap .i64 (h+1)))) (k1 false j (wrap .i64 (h+1)))) none) none) none) (r0 m))
def Sh(r0:Bool->O R)(c:LA)(g:Nat)(b:Bool)(a:LA):Nat->Bool->Int->Int->O R
|0=>fun _ _ _=>none
|n+1=>BF N r0 c g b a (Sh r0 c g b a n)
def BG(N:Nat)(r0:Bool->O R)(d:LA)(f:Nat)(b:Bool)(a:LA)(k0:Bool->Int->Int->O R)(q1:LA->Nat->Bool->Int->Int->O R)(o:Bool)(l i:Int):O R:=(cond (decide (i<l)) (cond (Ad i f) (cond (ble 3 ((d.drop (i.toNat*3)).length)) (cond ((beq 0 0)&&((beq (((d.drop (i.toNat*3)).take 3).length) 3)&&(beq 3 3))) (cond (o==true) (Bh 1 (((d.drop (i.toNat*3)).take 3).drop 1) fun ac v=>As .i64 a fun w=>k0 (cond true ((v:Int)==w) false) l (wrap .i64 (i+1))) (k0 false l (wrap .i64 (i+1)))) none) none) none) (Bh 5 (a.drop 6) fun c g=>q1 c g o (g:Int) 0))
def N1(r0:Bool->O R)(d:LA)(f:Nat)(b:Bool)(a:LA):Nat->Bool->Int->Int->O R
|0=>fun _ _ _=>none
|n+1=>BG N r0 d f b a (N1 r0 d f b a n) (fun c g=>Sh N r0 c g b a N)
def XH(N:Nat)(r0:Bool->O R)(q0:LA->Nat->Bool->Int->Int->O R)(a:LA)(b:Bool):O R:=(Bh 1 (a.drop 1) fun ad x=>As .i64 a fun y=>Bh 3 (a.drop 2) fun d f=>q0 d f ((x:Int)==y) (f:Int) 0)
def TA:=(Ac fun N a b r0=>XH (R:=R) N r0 (fun d f=>N1 N r0 d f b a N) a b).1
def jv(a b r0):(@TA R N a b r0)=(XH N r0 (fun d f=>N1 N r0 d f b a N) a b):=by rw[TA,(Ac _).2]
def oc:Hints:={H:=hK 2 (hS (hK 1 (hS (hP [1,3,15,16,17] hL) hL)) (hS (hK 1 (hS (hP [1,3,32,33,34] hL) hL)) hL))}
def od(F:KF R):=Iq Tryz.f26 oc [] [] N F
def Akd(c:LA)(g:Nat)(b:Bool)(a:LA)(K:St->O R):=fun m j h=>K ⟨[(1,op 0),(3,.bool m),(32,.imm c g 5 false b),(33,iv j),(34,iv h)],hq [bP b 0 a]⟩
def Ake(d:LA)(f:Nat)(b:Bool)(a:LA)(K:St->O R):=fun o l i=>K ⟨[(1,op 0),(3,.bool o),(15,.imm d f 3 false b),(16,iv l),(17,iv i)],hq [bP b 0 a]⟩
def wI(F:KF R)(c g b a):∀ n,Akd c g b a (Ak (od N F (pz 5444) []) n)=(Sh N (Da F) c g b a n):=Ds fun n e=>(Bs (BF N (Da F) c g b a) e:_)
def wJ(F:KF R)(d f b a):∀ n,Ake d f b a (Ak (od N F (pz 1348) []) n)=(N1 N (Da F) d f b a n):=Ds fun n e=>(Xs (BG N (Da F) d f b a) e (MR fun c g=>(lW ..).trans (wI ..)):_)
def Aoo:=B4 N 26 [] oc (fun
|[.pagg a b],[]=>some fun _ k=>TA N a b (Da k)
| _,_=>none) fun _ _=>by split;intro R F;exact(Bs (XH N (Da F) · _ _) (MR fun d f=>(lW ..).trans (wJ ..)):_).trans (jv ..).symm;trivial
def QI(a:Lu)(r0:Bool->O R):O R:=(Gc N a fun b=>r0 (!b))
def XI:=(Ac (@QI R)).1
def TB:@XI R=@QI R:=(Ac _).2
def Aai:=B4 N 72 [Jg N] Bt (fun
|[.str a],[]=>some fun _ k=>XI N a (Da k)
| _,_=>none) fun _ _=>by split;intro R F;dsimp only;rw[TB];kernel_rfl;trivial
def Cs(r0:Int->O R)(b:LA)(a:Nat)(c d:Bool)(k0:Int->Int->O R)(g f:Int):O R:=(cond (decide (f<g)) (cond (Ad f a) (Km (b.drop (f.toNat*1)) fun h=>XI N h fun i=>cond i (r0 f) (k0 g (wrap .i64 (f+1)))) none) (r0 (-1)))
def A4(r0:Int->O R)(b:LA)(a:Nat)(c d:Bool):Nat->Int->Int->O R
|0=>fun _ _=>none
|n+1=>Cs N r0 b a c d (A4 r0 b a c d n)
def C8(N:Nat)(r0:Int->O R)(q0:Int->Int->O R)(b:LA)(a:Nat)(c d:Bool):O R:=(q0 (a:Int) 0)
def Df:=(Ac fun N b a c d r0=>C8 (R:=R) N r0 (A4 N r0 b a c d N) b a c d).1
def H7(b a c d r0):(@Df R N b a c d r0)=(C8 N r0 (A4 N r0 b a c d N) b a c d):=by rw[Df,(Ac _).2]
def Is:O6:=[Aai N]
def Si(F:KF R):=Iq Tryz.f113 tT (Is N) [] N F
def Sj(b:LA)(a:Nat)(c d:Bool)(K:St->O R):=fun g f=>K ⟨[(0,.imm b a 1 c d),(1,.fn 72 []),(7,iv g),(8,iv f)],[]⟩
def Pb(F:KF R)(b a c d):∀ n,Sj b a c d (Ak (Si N F (pz 324) []) n)=(A4 N (B8 F) b a c d n):=Ds fun n e=>(Bs (Cs N (B8 F) b a c d) e:_)
def Tc:=B4 N 113 (Is N) tT (fun
|[.imm b a 1 c d,.fn 72 []],[]=>some fun _ k=>Df N b a c d (B8 k)
| _,_=>none) fun _ _=>by split;intro R F;exact(Bs (C8 N (B8 F) · _ _ _ _) ((lW ..).trans (Pb ..)):_).trans (H7 ..).symm;trivial
def Fe(a:LA)(b:Nat)(d c:Bool)(r0:Bool->O R):O R:=(Df N a b false c fun e=>r0 (decide (e>=0)))
def Az:=(Ac (@Fe R)).1
def H8:@Az R=@Fe R:=(Ac _).2
def Td:=B4 N 71 [Tc N] Bt (fun
|[.imm a b 1 d c,.fn 72 []],[]=>some fun _ k=>Az N a b d c (Da k)
| _,_=>none) fun _ _=>by split;intro R F;dsimp only;rw[H8];kernel_rfl;trivial
def Br(N:Nat)(r0:Int->O R)(b:LA)(a:Nat)(d f:Bool)(c:Lu)(k0:Int->Int->O R)(h g:Int):O R:=(cond (decide (g<h)) (cond (Ad g a) (Km (b.drop (g.toNat*1)) fun i=>cond (c==i) (r0 g) (k0 h (wrap .i64 (g+1)))) none) (r0 (-1)))
def A2(r0:Int->O R)(b:LA)(a:Nat)(d f:Bool)(c:Lu):Nat->Int->Int->O R
|0=>fun _ _=>none
|n+1=>Br N r0 b a d f c (A2 r0 b a d f c n)
def Dp(N:Nat)(r0:Int->O R)(q0:Int->Int->O R)(b:LA)(a:Nat)(d f:Bool)(c:Lu):O R:=(q0 (a:Int) 0)
def Ba:=(Ac fun N b a d f c r0=>Dp (R:=R) N r0 (A2 N r0 b a d f c N) b a d f c).1
def Gv(b a d f c r0):(@Ba R N b a d f c r0)=(Dp N r0 (A2 N r0 b a d f c N) b a d f c):=by rw[Ba,(Ac _).2]
def Zl(F:KF R):=Iq Tryz.f114 tT [] [] N F
def Zm(b:LA)(a:Nat)(d f:Bool)(c:Lu)(K:St->O R):=fun h g=>K ⟨[(0,.imm b a 1 d f),(1,.str c),(7,iv h),(8,iv g)],[]⟩
def V7(F:KF R)(b a d f c):∀ n,Zm b a d f c (Ak (Zl N F (pz 324) []) n)=(A2 N (B8 F) b a d f c n):=Ds fun n e=>(Bs (Br N (B8 F) b a d f c) e:_)
def Et:=B4 N 114 [] tT (fun
|[.imm b a 1 d f,.str c],[]=>some fun _ k=>Ba N b a d f c (B8 k)
| _,_=>none) fun _ _=>by split;intro R F;exact(Bs (Dp N (B8 F) · _ _ _ _ _) ((lW ..).trans (V7 ..)):_).trans (Gv ..).symm;trivial
def Gw(a:LA)(b:Nat)(e c:Bool)(d:Lu)(r0:Bool->O R):O R:=(Ba N a b false c d fun f=>r0 (decide (f>=0)))
def Al:=(Ac (@Gw R)).1
def Jz:@Al R=@Gw R:=(Ac _).2
def Bm:=B4 N 74 [Et N] Bt (fun
|[.imm a b 1 e c,.str d],[]=>some fun _ k=>Al N a b e c d (Da k)
| _,_=>none) fun _ _=>by split;intro R F;dsimp only;rw[Jz];kernel_rfl;trivial
def oe(N:Nat)(k7:Int->O R)(r0:Int->O R)(a c f h j m:Nat)(b d g i l o:LA)(k8:Int->O R)(bl:Int):O R:=(k7 (wrap .i64 (bl+1)))
def OK(k7:Int->O R)(r0:Int->O R)(a c f h j m:Nat)(b d g i l o:LA):Nat->Int->O R
|0=>fun _=>none
|n+1=>oe N k7 r0 a c f h j m b d g i l o (OK k7 r0 a c f h j m b d g i l o n)
def HM(k7:Int->O R)(r0:Int->O R)(a c f h j m:Nat)(b d g i l o:LA)(k9:Int->Int->Int->O R)(ar au af:Int):O R:=(cond (decide (af<au)) (cond (Ad af a) (Km (b.drop (0+(af.toNat*1))) fun bn=>cond ((decide ((0:Int)<=(0:Int)))&&((decide (0<=af))&&((decide (af<=(a:Int)))&&(decide ((a:Int)<=(a:Int)))))) (Al N (b.take (af.toNat*1)) af.toNat false true bn fun bo=>cond bo (r0 10) (k9 ar au (wrap .i64 (af+1)))) none) none) (k7 (wrap .i64 (ar+1))))
def Ra(k7:Int->O R)(r0:Int->O R)(a c f h j m:Nat)(b d g i l o:LA):Nat->Int->Int->Int->O R
|0=>fun _ _ _=>none
|n+1=>HM N k7 r0 a c f h j m b d g i l o (Ra k7 r0 a c f h j m b d g i l o n)
def BH(k7:Int->O R)(r0:Int->O R)(c a f h j m:Nat)(d b g i l o:LA)(k10:Int->Int->Int->O R)(av aw ag:Int):O R:=(cond (decide (ag<aw)) (cond (Ad ag c) (Km (d.drop (0+(ag.toNat*1))) fun bp=>cond ((decide ((0:Int)<=(0:Int)))&&((decide (0<=ag))&&((decide (ag<=(c:Int)))&&(decide ((c:Int)<=(c:Int)))))) (Al N (d.take (ag.toNat*1)) ag.toNat false true bp fun bq=>cond bq (r0 10) (k10 av aw (wrap .i64 (ag+1)))) none) none) (k7 (wrap .i64 (av+1))))
def N2(k7:Int->O R)(r0:Int->O R)(c a f h j m:Nat)(d b g i l o:LA):Nat->Int->Int->Int->O R
|0=>fun _ _ _=>none
|n+1=>BH N k7 r0 c a f h j m d b g i l o (N2 k7 r0 c a f h j m d b g i l o n)
def BI(k7:Int->O R)(r0:Int->O R)(f a c h j m:Nat)(g b d i l o:LA)(k11:Int->Int->Int->O R)(ax ay ah:Int):O R:=(cond (decide (ah<ay)) (cond (Ad ah f) (Km (g.drop (0+(ah.toNat*1))) fun br=>cond ((decide ((0:Int)<=(0:Int)))&&((decide (0<=ah))&&((decide (ah<=(f:Int)))&&(decide ((f:Int)<=(f:Int)))))) (Al N (g.take (ah.toNat*1)) ah.toNat false true br fun bs=>cond bs (r0 10) (k11 ax ay (wrap .i64 (ah+1)))) none) none) (k7 (wrap .i64 (ax+1))))
def N3(k7:Int->O R)(r0:Int->O R)(f a c h j m:Nat)(g b d i l o:LA):Nat->Int->Int->Int->O R
|0=>fun _ _ _=>none
|n+1=>BI N k7 r0 f a c h j m g b d i l o (N3 k7 r0 f a c h j m g b d i l o n)
def BJ(k7:Int->O R)(r0:Int->O R)(h a c f j m:Nat)(i b d g l o:LA)(k12:Int->Int->Int->O R)(az ba ai:Int):O R:=(cond (decide (ai<ba)) (cond (Ad ai h) (Km (i.drop (0+(ai.toNat*1))) fun bt=>cond ((decide ((0:Int)<=(0:Int)))&&((decide (0<=ai))&&((decide (ai<=(h:Int)))&&(decide ((h:Int)<=(h:Int)))))) (Al N (i.take (ai.toNat*1)) ai.toNat false true bt fun bu=>cond bu (r0 10) (k12 az ba (wrap .i64 (ai+1)))) none) none) (k7 (wrap .i64 (az+1))))
def N4(k7:Int->O R)(r0:Int->O R)(h a c f j m:Nat)(i b d g l o:LA):Nat->Int->Int->Int->O R
|0=>fun _ _ _=>none
|n+1=>BJ N k7 r0 h a c f j m i b d g l o (N4 k7 r0 h a c f j m i b d g l o n)
def BK(k7:Int->O R)(r0:Int->O R)(j a c f h m:Nat)(l b d g i o:LA)(k13:Int->Int->Int->O R)(bb bc aj:Int):O R:=(cond (decide (aj<bc)) (cond (Ad aj j) (Km (l.drop (0+(aj.toNat*1))) fun bv=>cond ((decide ((0:Int)<=(0:Int)))&&((decide (0<=aj))&&((decide (aj<=(j:Int)))&&(decide ((j:Int)<=(j:Int)))))) (Al N (l.take (aj.toNat*1)) aj.toNat false true bv fun bw=>cond bw (r0 10) (k13 bb bc (wrap .i64 (aj+1)))) none) none) (k7 (wrap .i64 (bb+1))))
def N5(k7:Int->O R)(r0:Int->O R)(j a c f h m:Nat)(l b d g i o:LA):Nat->Int->Int->Int->O R
|0=>fun _ _ _=>none
|n+1=>BK N k7 r0 j a c f h m l b d g i o (N5 k7 r0 j a c f h m l b d g i o n)
def BL(k7:Int->O R)(r0:Int->O R)(m a c f h j:Nat)(o b d g i l:LA)(k14:Int->Int->Int->O R)(bd be ak:Int):O R:=(cond (decide (ak<be)) (cond (Ad ak m) (Km (o.drop (0+(ak.toNat*1))) fun bx=>cond ((decide ((0:Int)<=(0:Int)))&&((decide (0<=ak))&&((decide (ak<=(m:Int)))&&(decide ((m:Int)<=(m:Int)))))) (Al N (o.take (ak.toNat*1)) ak.toNat false true bx fun bz=>cond bz (r0 10) (k14 bd be (wrap .i64 (ak+1)))) none) none) (k7 (wrap .i64 (bd+1))))
def N6(k7:Int->O R)(r0:Int->O R)(m a c f h j:Nat)(o b d g i l:LA):Nat->Int->Int->Int->O R
|0=>fun _ _ _=>none
|n+1=>BL N k7 r0 m a c f h j o b d g i l (N6 k7 r0 m a c f h j o b d g i l n)
def W7(N:Nat)(r0:Int->O R)(a c f h j m:Nat)(b d g i l o:LA)(k7:Int->O R)(q8:Int->O R)(q9:Int->Int->Int->O R)(q10:Int->Int->Int->O R)(q11:Int->Int->Int->O R)(q12:Int->Int->Int->O R)(q13:Int->Int->Int->O R)(q14:Int->Int->Int->O R)(s:Int):O R:=(cond (decide (s<7)) (cond (Ad s 7) (cond (beq (s.toNat*1) 0) (q8 s) (cond (beq (s.toNat*1) 1) (q9 s (a:Int) 0) (cond (beq (s.toNat*1) 2) (q10 s (c:Int) 0) (cond (beq (s.toNat*1) 3) (q11 s (f:Int) 0) (cond (beq (s.toNat*1) 4) (q12 s (h:Int) 0) (cond (beq (s.toNat*1) 5) (q13 s (j:Int) 0) (cond (beq (s.toNat*1) 6) (q14 s (m:Int) 0) none))))))) none) (r0 0))
def Dx(r0:Int->O R)(a c f h j m:Nat)(b d g i l o:LA):Nat->Int->O R
|0=>fun _=>none
|n+1=>W7 N r0 a c f h j m b d g i l o (Dx r0 a c f h j m b d g i l o n) (OK N (Dx r0 a c f h j m b d g i l o n) r0 a c f h j m b d g i l o N) (Ra N (Dx r0 a c f h j m b d g i l o n) r0 a c f h j m b d g i l o N) (N2 N (Dx r0 a c f h j m b d g i l o n) r0 c a f h j m d b g i l o N) (N3 N (Dx r0 a c f h j m b d g i l o n) r0 f a c h j m g b d i l o N) (N4 N (Dx r0 a c f h j m b d g i l o n) r0 h a c f j m i b d g l o N) (N5 N (Dx r0 a c f h j m b d g i l o n) r0 j a c f h m l b d g i o N) (N6 N (Dx r0 a c f h j m b d g i l o n) r0 m a c f h j o b d g i l N)
def HN(r0:Int->O R)(a c f h j m:Nat)(b d g i l o:LA)(k6:Int->O R)(q7:Int->O R)(t:Int):O R:=(cond (decide (t<7)) (cond (Ad t 7) (cond (beq (t.toNat*1) 0) (Az N [] 0 false true fun ca=>cond ca (r0 9) (k6 (wrap .i64 (t+1)))) (cond (beq (t.toNat*1) 1) (Az N (b.take (a*1)) a false true fun cb=>cond cb (r0 9) (k6 (wrap .i64 (t+1)))) (cond (beq (t.toNat*1) 2) (Az N (d.take (c*1)) c false true fun cc=>cond cc (r0 9) (k6 (wrap .i64 (t+1)))) (cond (beq (t.toNat*1) 3) (Az N (g.take (f*1)) f false true fun cd=>cond cd (r0 9) (k6 (wrap .i64 (t+1)))) (cond (beq (t.toNat*1) 4) (Az N (i.take (h*1)) h false true fun ce=>cond ce (r0 9) (k6 (wrap .i64 (t+1)))) (cond (beq (t.toNat*1) 5) (Az N (l.take (j*1)) j false true fun cf=>cond cf (r0 9) (k6 (wrap .i64 (t+1)))) (cond (beq (t.toNat*1) 6) (Az N (o.take (m*1)) m false true fun cg=>cond cg (r0 9) (k6 (wrap .i64 (t+1)))) none))))))) none) (q7 0))
def La(r0:Int->O R)(a c f h j m:Nat)(b d g i l o:LA):Nat->Int->O R
|0=>fun _=>none
|n+1=>HN N r0 a c f h j m b d g i l o (La r0 a c f h j m b d g i l o n) (Dx N r0 a c f h j m b d g i l o N)
def HO(N:Nat)(r0:Int->O R)(v:LA)(aa:Nat)(p:Bool)(a c f h j:Nat)(b d g i l:LA)(k5:Int->Int->Nat->LA->O R)(q6:Nat->LA->Int->O R)(bf al:Int)(m:Nat)(o:LA):O R:=(cond (decide (al<bf)) (cond (Ad al aa) (cond (ble 4 ((v.drop (al.toNat*4)).length)) (cond ((beq 0 0)&&((beq (((v.drop (al.toNat*4)).take 4).length) 4)&&(beq 4 4))) (Km ((v.drop (al.toNat*4)).take 4) fun ch=>cond ((ble (m+1) 140737488355328)&&(ble ((m+1)*16) 140737488355328)) (k5 bf (wrap .i64 (al+1)) (m+1) ((o.take (m*1))++[.str ch])) none) none) none) none) (q6 m o 0))
def Rb(r0:Int->O R)(v:LA)(aa:Nat)(p:Bool)(a c f h j:Nat)(b d g i l:LA):Nat->Int->Int->Nat->LA->O R
|0=>fun _ _ _ _=>none
|n+1=>HO N r0 v aa p a c f h j b d g i l (Rb r0 v aa p a c f h j b d g i l n) (fun m o=>La N r0 a c f h j m b d g i l o N)
def HP(N:Nat)(r0:Int->O R)(w:LA)(ab:Nat)(p:Bool)(q:LA)(a c f h:Nat)(b d g i:LA)(k4:Int->Int->Nat->LA->O R)(q5:LA->Nat->Nat->LA->Int->Int->Nat->LA->O R)(bg am:Int)(j:Nat)(l:LA):O R:=(cond (decide (am<bg)) (cond (Ad am ab) (cond (ble 5 ((w.drop (am.toNat*5)).length)) (cond ((beq 0 0)&&((beq (((w.drop (am.toNat*5)).take 5).length) 5)&&(beq 5 5))) (Km ((w.drop (am.toNat*5)).take 5) fun ci=>cond ((ble (j+1) 140737488355328)&&(ble ((j+1)*16) 140737488355328)) (k4 bg (wrap .i64 (am+1)) (j+1) ((l.take (j*1))++[.str ci])) none) none) none) none) (Bh 4 (q.drop 7) fun v aa=>q5 v aa j l (aa:Int) 0 0 []))
def Rc(r0:Int->O R)(w:LA)(ab:Nat)(p:Bool)(q:LA)(a c f h:Nat)(b d g i:LA):Nat->Int->Int->Nat->LA->O R
|0=>fun _ _ _ _=>none
|n+1=>HP N r0 w ab p q a c f h b d g i (Rc r0 w ab p q a c f h b d g i n) (fun v aa j l=>Rb N r0 v aa p a c f h j b d g i l N)
def HQ(N:Nat)(r0:Int->O R)(x:LA)(ac:Nat)(p:Bool)(q:LA)(a c f:Nat)(b d g:LA)(k3:Int->Int->Nat->LA->O R)(q4:LA->Nat->Nat->LA->Int->Int->Nat->LA->O R)(bh an:Int)(h:Nat)(i:LA):O R:=(cond (decide (an<bh)) (cond (Ad an ac) (cond (ble 9 ((x.drop (an.toNat*9)).length)) (cond ((beq 0 0)&&((beq (((x.drop (an.toNat*9)).take 9).length) 9)&&(beq 9 9))) (Km ((x.drop (an.toNat*9)).take 9) fun cj=>cond ((ble (h+1) 140737488355328)&&(ble ((h+1)*16) 140737488355328)) (k3 bh (wrap .i64 (an+1)) (h+1) ((i.take (h*1))++[.str cj])) none) none) none) none) (Bh 5 (q.drop 6) fun w ab=>q4 w ab h i (ab:Int) 0 0 []))
def Re(r0:Int->O R)(x:LA)(ac:Nat)(p:Bool)(q:LA)(a c f:Nat)(b d g:LA):Nat->Int->Int->Nat->LA->O R
|0=>fun _ _ _ _=>none
|n+1=>HQ N r0 x ac p q a c f b d g (Re r0 x ac p q a c f b d g n) (fun w ab h i=>Rc N r0 w ab p q a c f h b d g i N)
def HR(N:Nat)(r0:Int->O R)(y:LA)(ad:Nat)(p:Bool)(q:LA)(a c:Nat)(b d:LA)(k2:Int->Int->Nat->LA->O R)(q3:LA->Nat->Nat->LA->Int->Int->Nat->LA->O R)(bi ao:Int)(f:Nat)(g:LA):O R:=(cond (decide (ao<bi)) (cond (Ad ao ad) (cond (ble 22 ((y.drop (ao.toNat*22)).length)) (cond ((beq 0 0)&&((beq (((y.drop (ao.toNat*22)).take 22).length) 22)&&(beq 22 22))) (Km ((y.drop (ao.toNat*22)).take 22) fun ck=>cond ((ble (f+1) 140737488355328)&&(ble ((f+1)*16) 140737488355328)) (k2 bi (wrap .i64 (ao+1)) (f+1) ((g.take (f*1))++[.str ck])) none) none) none) none) (Bh 9 (q.drop 5) fun x ac=>q3 x ac f g (ac:Int) 0 0 []))
def Rf(r0:Int->O R)(y:LA)(ad:Nat)(p:Bool)(q:LA)(a c:Nat)(b d:LA):Nat->Int->Int->Nat->LA->O R
|0=>fun _ _ _ _=>none
|n+1=>HR N r0 y ad p q a c b d (Rf r0 y ad p q a c b d n) (fun x ac f g=>Re N r0 x ac p q a c f b d g N)
def HS(N:Nat)(r0:Int->O R)(z:LA)(ae:Nat)(p:Bool)(q:LA)(a:Nat)(b:LA)(k1:Int->Int->Nat->LA->O R)(q2:LA->Nat->Nat->LA->Int->Int->Nat->LA->O R)(bj ap:Int)(c:Nat)(d:LA):O R:=(cond (decide (ap<bj)) (cond (Ad ap ae) (cond (ble 12 ((z.drop (ap.toNat*12)).length)) (cond ((beq 0 0)&&((beq (((z.drop (ap.toNat*12)).take 12).length) 12)&&(beq 12 12))) (Km ((z.drop (ap.toNat*12)).take 12) fun cl=>cond ((ble (c+1) 140737488355328)&&(ble ((c+1)*16) 140737488355328)) (k1 bj (wrap .i64 (ap+1)) (c+1) ((d.take (c*1))++[.str cl])) none) none) none) none) (Bh 22 (q.drop 4) fun y ad=>q2 y ad c d (ad:Int) 0 0 []))
def Rg(r0:Int->O R)(z:LA)(ae:Nat)(p:Bool)(q:LA)(a:Nat)(b:LA):Nat->Int->Int->Nat->LA->O R
|0=>fun _ _ _ _=>none
|n+1=>HS N r0 z ae p q a b (Rg r0 z ae p q a b n) (fun y ad c d=>Rf N r0 y ad p q a c b d N)
def HT(N:Nat)(r0:Int->O R)(r:LA)(u:Nat)(p:Bool)(q:LA)(k0:Int->Int->Nat->LA->O R)(q1:LA->Nat->Nat->LA->Int->Int->Nat->LA->O R)(bk aq:Int)(a:Nat)(b:LA):O R:=(cond (decide (aq<bk)) (cond (Ad aq u) (cond (ble 3 ((r.drop (aq.toNat*3)).length)) (cond ((beq 0 0)&&((beq (((r.drop (aq.toNat*3)).take 3).length) 3)&&(beq 3 3))) (Km ((r.drop (aq.toNat*3)).take 3) fun bm=>cond ((ble (a+1) 140737488355328)&&(ble ((a+1)*16) 140737488355328)) (k0 bk (wrap .i64 (aq+1)) (a+1) ((b.take (a*1))++[.str bm])) none) none) none) none) (Bh 12 (q.drop 3) fun z ae=>q1 z ae a b (ae:Int) 0 0 []))
def Rh(r0:Int->O R)(r:LA)(u:Nat)(p:Bool)(q:LA):Nat->Int->Int->Nat->LA->O R
|0=>fun _ _ _ _=>none
|n+1=>HT N r0 r u p q (Rh r0 r u p q n) (fun z ae a b=>Rg N r0 z ae p q a b N)
def gh(N:Nat)(r0:Int->O R)(q0:LA->Nat->Int->Int->Nat->LA->O R)(q:LA)(p:Bool):O R:=(Bh 3 (q.drop 2) fun r u=>q0 r u (u:Int) 0 0 [])
def eX:=(Ac fun N q p r0=>gh (R:=R) N r0 (fun r u=>Rh N r0 r u p q N) q p).1
def oh(q p r0):(@eX R N q p r0)=(gh N r0 (fun r u=>Rh N r0 r u p q N) q p):=by rw[eX,(Ac _).2]
def uJ:Hints:={H:=hK 2 (hS (hK 1 (hS (hP [1,3,23,24,25] hL) hL)) (hS (hK 1 (hS (hP [1,3,38,39,40] hL) hL)) (hS (hK 1 (hS (hP [1,3,53,54,55] hL) hL)) (hS (hK 1 (hS (hP [1,3,68,69,70] hL) hL)) (hS (hK 1 (hS (hP [1,3,83,84,85] hL) hL)) (hS (hK 1 (hS (hP [3,98,99,100] hL) hL)) (hS (hK 1 (hS (hP [3,112,113] hL) hL)) (hS (hK 1 (hS (hP [119,120] (hK 2 (hS (hS (hK 2 (hS (hP [19,119,120,123,124,125] hL) hL)) hL) hL))) hL)) hL)))))))),cob:=[1000003,1000005,1000007,1000009,1000011,1000013,1000015]}
def Aaj:O6:=[Td N,Bm N]
def Ee(F:KF R):=Iq Tryz.f27 uJ (Aaj N) [] N F
def Aop(a c f h j m:Nat)(b d g i l o:LA)(K:St->O R):=fun bl=>K ⟨[(19,Bff 0 0),(119,.agg [Bff 0 0,Bff 1 a,Bff 2 c,Bff 3 f,Bff 4 h,Bff 5 j,Bff 6 m]),(120,iv bl),(123,Bff 0 0),(124,iv 0),(125,iv 0)],hq [bQ 1 [],bQ 1 b,bQ 1 d,bQ 1 g,bQ 1 i,bQ 1 l,bQ 1 o]⟩
def Aoq(a c f h j m:Nat)(b d g i l o:LA)(K:St->O R):=fun ar au af=>K ⟨[(19,Bff 0 a),(119,.agg [Bff 1 0,Bff 0 a,Bff 2 c,Bff 3 f,Bff 4 h,Bff 5 j,Bff 6 m]),(120,iv ar),(123,Bff 0 a),(124,iv au),(125,iv af)],hq [bQ 1 b,bQ 1 [],bQ 1 d,bQ 1 g,bQ 1 i,bQ 1 l,bQ 1 o]⟩
def Akf(c a f h j m:Nat)(d b g i l o:LA)(K:St->O R):=fun av aw ag=>K ⟨[(19,Bff 0 c),(119,.agg [Bff 1 0,Bff 2 a,Bff 0 c,Bff 3 f,Bff 4 h,Bff 5 j,Bff 6 m]),(120,iv av),(123,Bff 0 c),(124,iv aw),(125,iv ag)],hq [bQ 1 d,bQ 1 [],bQ 1 b,bQ 1 g,bQ 1 i,bQ 1 l,bQ 1 o]⟩
def Akg(f a c h j m:Nat)(g b d i l o:LA)(K:St->O R):=fun ax ay ah=>K ⟨[(19,Bff 0 f),(119,.agg [Bff 1 0,Bff 2 a,Bff 3 c,Bff 0 f,Bff 4 h,Bff 5 j,Bff 6 m]),(120,iv ax),(123,Bff 0 f),(124,iv ay),(125,iv ah)],hq [bQ 1 g,bQ 1 [],bQ 1 b,bQ 1 d,bQ 1 i,bQ 1 l,bQ 1 o]⟩
def Akh(h a c f j m:Nat)(i b d g l o:LA)(K:St->O R):=fun az ba ai=>K ⟨[(19,Bff 0 h),(119,.agg [Bff 1 0,Bff 2 a,Bff 3 c,Bff 4 f,Bff 0 h,Bff 5 j,Bff 6 m]),(120,iv az),(123,Bff 0 h),(124,iv ba),(125,iv ai)],hq [bQ 1 i,bQ 1 [],bQ 1 b,bQ 1 d,bQ 1 g,bQ 1 l,bQ 1 o]⟩
def Aki(j a c f h m:Nat)(l b d g i o:LA)(K:St->O R):=fun bb bc aj=>K ⟨[(19,Bff 0 j),(119,.agg [Bff 1 0,Bff 2 a,Bff 3 c,Bff 4 f,Bff 5 h,Bff 0 j,Bff 6 m]),(120,iv bb),(123,Bff 0 j),(124,iv bc),(125,iv aj)],hq [bQ 1 l,bQ 1 [],bQ 1 b,bQ 1 d,bQ 1 g,bQ 1 i,bQ 1 o]⟩
def Akj(m a c f h j:Nat)(o b d g i l:LA)(K:St->O R):=fun bd be ak=>K ⟨[(19,Bff 0 m),(119,.agg [Bff 1 0,Bff 2 a,Bff 3 c,Bff 4 f,Bff 5 h,Bff 6 j,Bff 0 m]),(120,iv bd),(123,Bff 0 m),(124,iv be),(125,iv ak)],hq [bQ 1 o,bQ 1 [],bQ 1 b,bQ 1 d,bQ 1 g,bQ 1 i,bQ 1 l]⟩
def Ef(a c f h j m:Nat)(b d g i l o:LA)(K:St->O R):=fun s=>K ⟨[(119,.agg [Bff 0 0,Bff 1 a,Bff 2 c,Bff 3 f,Bff 4 h,Bff 5 j,Bff 6 m]),(120,iv s)],hq [bQ 1 [],bQ 1 b,bQ 1 d,bQ 1 g,bQ 1 i,bQ 1 l,bQ 1 o]⟩
def Aor(a c f h j m:Nat)(b d g i l o:LA)(K:St->O R):=fun t=>K ⟨[(3,op 0),(112,.agg [Bff 1 0,Bff 2 a,Bff 3 c,Bff 4 f,Bff 5 h,Bff 6 j,Bff 7 m]),(113,iv t)],hq [bN 0 [Bff 1 0,Bff 2 a,Bff 3 c,Bff 4 f,Bff 5 h,Bff 6 j,Bff 7 m],bQ 1 [],bQ 1 b,bQ 1 d,bQ 1 g,bQ 1 i,bQ 1 l,bQ 1 o]⟩
def Aos(v:LA)(aa:Nat)(p:Bool)(a c f h j:Nat)(b d g i l:LA)(K:St->O R):=fun bf al m o=>K ⟨[(3,op 0),(98,.imm v aa 4 false p),(99,iv bf),(100,iv al)],hq [bN 0 [Bff 1 0,Bff 2 a,Bff 3 c,Bff 4 f,Bff 5 h,Bff 6 j,Bff 7 m],bQ 1 [],bQ 1 b,bQ 1 d,bQ 1 g,bQ 1 i,bQ 1 l,bQ 1 o]⟩
def Aot(w:LA)(ab:Nat)(p:Bool)(q:LA)(a c f h:Nat)(b d g i:LA)(K:St->O R):=fun bg am j l=>K ⟨[(1,op 0),(3,op 1),(83,.imm w ab 5 false p),(84,iv bg),(85,iv am)],hq [bP p 0 q,bN 0 [Bff 2 0,Bff 3 a,Bff 4 c,Bff 5 f,Bff 6 h,Bff 7 j,Bff 8 0],bQ 1 [],bQ 1 b,bQ 1 d,bQ 1 g,bQ 1 i,bQ 1 l,bQ 1 []]⟩
def Aou(x:LA)(ac:Nat)(p:Bool)(q:LA)(a c f:Nat)(b d g:LA)(K:St->O R):=fun bh an h i=>K ⟨[(1,op 0),(3,op 1),(68,.imm x ac 9 false p),(69,iv bh),(70,iv an)],hq [bP p 0 q,bN 0 [Bff 2 0,Bff 3 a,Bff 4 c,Bff 5 f,Bff 6 h,Bff 7 0,Bff 8 0],bQ 1 [],bQ 1 b,bQ 1 d,bQ 1 g,bQ 1 i,bQ 1 [],bQ 1 []]⟩
def Aov(y:LA)(ad:Nat)(p:Bool)(q:LA)(a c:Nat)(b d:LA)(K:St->O R):=fun bi ao f g=>K ⟨[(1,op 0),(3,op 1),(53,.imm y ad 22 false p),(54,iv bi),(55,iv ao)],hq [bP p 0 q,bN 0 [Bff 2 0,Bff 3 a,Bff 4 c,Bff 5 f,Bff 6 0,Bff 7 0,Bff 8 0],bQ 1 [],bQ 1 b,bQ 1 d,bQ 1 g,bQ 1 [],bQ 1 [],bQ 1 []]⟩
def Aow(z:LA)(ae:Nat)(p:Bool)(q:LA)(a:Nat)(b:LA)(K:St->O R):=fun bj ap c d=>K ⟨[(1,op 0),(3,op 1),(38,.imm z ae 12 false p),(39,iv bj),(40,iv ap)],hq [bP p 0 q,bN 0 [Bff 2 0,Bff 3 a,Bff 4 c,Bff 5 0,Bff 6 0,Bff 7 0,Bff 8 0],bQ 1 [],bQ 1 b,bQ 1 d,bQ 1 [],bQ 1 [],bQ 1 [],bQ 1 []]⟩
def Aox(r:LA)(u:Nat)(p:Bool)(q:LA)(K:St->O R):=fun bk aq a b=>K ⟨[(1,op 0),(3,op 1),(23,.imm r u 3 false p),(24,iv bk),(25,iv aq)],hq [bP p 0 q,bN 0 [Bff 2 0,Bff 3 a,Bff 4 0,Bff 5 0,Bff 6 0,Bff 7 0,Bff 8 0],bQ 1 [],bQ 1 b,bQ 1 [],bQ 1 [],bQ 1 [],bQ 1 [],bQ 1 []]⟩
def Aak Q7 (F:KF R) (a c f h j m b d g i l o):∀ n,Aop a c f h j m b d g i l o (Ak (Ee N F (pz 1466014372884) [Q7]) n)=(OK N (Ef a c f h j m b d g i l o Q7) (B8 F) a c f h j m b d g i l o n):=Ds fun n e=>(Bs (oe N (Ef a c f h j m b d g i l o Q7) (B8 F) a c f h j m b d g i l o) e:_)
def Aal Q7 (F:KF R) (a c f h j m b d g i l o):∀ n,Aoq a c f h j m b d g i l o (Ak (Ee N F (pz 1466014372884) [Q7]) n)=(Ra N (Ef a c f h j m b d g i l o Q7) (B8 F) a c f h j m b d g i l o n):=Ds fun n e=>(Bs (HM N (Ef a c f h j m b d g i l o Q7) (B8 F) a c f h j m b d g i l o) e:_)
def wK Q7 (F:KF R) (c a f h j m d b g i l o):∀ n,Akf c a f h j m d b g i l o (Ak (Ee N F (pz 1466014372884) [Q7]) n)=(N2 N (Ef a c f h j m b d g i l o Q7) (B8 F) c a f h j m d b g i l o n):=Ds fun n e=>(Bs (BH N (Ef a c f h j m b d g i l o Q7) (B8 F) c a f h j m d b g i l o) e:_)
def wL Q7 (F:KF R) (f a c h j m g b d i l o):∀ n,Akg f a c h j m g b d i l o (Ak (Ee N F (pz 1466014372884) [Q7]) n)=(N3 N (Ef a c f h j m b d g i l o Q7) (B8 F) f a c h j m g b d i l o n):=Ds fun n e=>(Bs (BI N (Ef a c f h j m b d g i l o Q7) (B8 F) f a c h j m g b d i l o) e:_)
def wN Q7 (F:KF R) (h a c f j m i b d g l o):∀ n,Akh h a c f j m i b d g l o (Ak (Ee N F (pz 1466014372884) [Q7]) n)=(N4 N (Ef a c f h j m b d g i l o Q7) (B8 F) h a c f j m i b d g l o n):=Ds fun n e=>(Bs (BJ N (Ef a c f h j m b d g i l o Q7) (B8 F) h a c f j m i b d g l o) e:_)
def wO Q7 (F:KF R) (j a c f h m l b d g i o):∀ n,Aki j a c f h m l b d g i o (Ak (Ee N F (pz 1466014372884) [Q7]) n)=(N5 N (Ef a c f h j m b d g i l o Q7) (B8 F) j a c f h m l b d g i o n):=Ds fun n e=>(Bs (BK N (Ef a c f h j m b d g i l o Q7) (B8 F) j a c f h m l b d g i o) e:_)
def wQ Q7 (F:KF R) (m a c f h j o b d g i l):∀ n,Akj m a c f h j o b d g i l (Ak (Ee N F (pz 1466014372884) [Q7]) n)=(N6 N (Ef a c f h j m b d g i l o Q7) (B8 F) m a c f h j o b d g i l n):=Ds fun n e=>(Bs (BL N (Ef a c f h j m b d g i l o Q7) (B8 F) m a c f h j o b d g i l) e:_)
def Aam(F:KF R)(a c f h j m b d g i l o):∀ n,Ef a c f h j m b d g i l o (Ak (Ee N F (pz 22369604) []) n)=(Dx N (B8 F) a c f h j m b d g i l o n):=Ds fun n e=>Bby (by kernel_rfl) ((A8f (fun cm cn co bm cp cq=>W7 N (B8 F) a c f h j m b d g i l o cm cn co bm cp cq _ _) e ((lW ..).trans ((Aak ..).trans (rB (OK _ · _ _ _ _ _ _ _ _ _ _ _ _ _ _) e))) ((lW ..).trans ((Aal ..).trans (rB (Ra _ · _ _ _ _ _ _ _ _ _ _ _ _ _ _) e))) ((lW ..).trans ((wK ..).trans (rB (N2 _ · _ _ _ _ _ _ _ _ _ _ _ _ _ _) e))) ((lW ..).trans ((wL ..).trans (rB (N3 _ · _ _ _ _ _ _ _ _ _ _ _ _ _ _) e))) ((lW ..).trans ((wN ..).trans (rB (N4 _ · _ _ _ _ _ _ _ _ _ _ _ _ _ _) e)))).trans (A8e (W7 N (B8 F) a c f h j m b d g i l o _ _ _ _ _ _) ((lW ..).trans ((wO ..).trans (rB (N5 _ · _ _ _ _ _ _ _ _ _ _ _ _ _ _) e))) ((lW ..).trans ((wQ ..).trans (rB (N6 _ · _ _ _ _ _ _ _ _ _ _ _ _ _ _) e)))):_)
def Aan(F:KF R)(a c f h j m b d g i l o):∀ n,Aor a c f h j m b d g i l o (Ak (Ee N F (pz 5592388) []) n)=(La N (B8 F) a c f h j m b d g i l o n):=Ds fun n e=>(Xs (HN N (B8 F) a c f h j m b d g i l o) e ((lW ..).trans (Aam ..)):_)
def Aao(F:KF R)(v aa p a c f h j b d g i l):∀ n,Aos v aa p a c f h j b d g i l (Ak (Ee N F (pz 1398084) []) n)=(Rb N (B8 F) v aa p a c f h j b d g i l n):=Ds fun n e=>(Xs (HO N (B8 F) v aa p a c f h j b d g i l) e (MR fun m o=>(lW ..).trans (Aan ..)):_)
def Aap(F:KF R)(w ab p q a c f h b d g i):∀ n,Aot w ab p q a c f h b d g i (Ak (Ee N F (pz 349508) []) n)=(Rc N (B8 F) w ab p q a c f h b d g i n):=Ds fun n e=>(Xs (HP N (B8 F) w ab p q a c f h b d g i) e (Aip fun v aa j l=>(lW ..).trans (Aao ..)):_)
def Aaq(F:KF R)(x ac p q a c f b d g):∀ n,Aou x ac p q a c f b d g (Ak (Ee N F (pz 87364) []) n)=(Re N (B8 F) x ac p q a c f b d g n):=Ds fun n e=>(Xs (HQ N (B8 F) x ac p q a c f b d g) e (Aip fun w ab h i=>(lW ..).trans (Aap ..)):_)
def Aar(F:KF R)(y ad p q a c b d):∀ n,Aov y ad p q a c b d (Ak (Ee N F (pz 21828) []) n)=(Rf N (B8 F) y ad p q a c b d n):=Ds fun n e=>(Xs (HR N (B8 F) y ad p q a c b d) e (Aip fun x ac f g=>(lW ..).trans (Aaq ..)):_)
def Aas(F:KF R)(z ae p q a b):∀ n,Aow z ae p q a b (Ak (Ee N F (pz 5444) []) n)=(Rg N (B8 F) z ae p q a b n):=Ds fun n e=>(Xs (HS N (B8 F) z ae p q a b) e (Aip fun y ad c d=>(lW ..).trans (Aar ..)):_)
def Aat(F:KF R)(r u p q):∀ n,Aox r u p q (Ak (Ee N F (pz 1348) []) n)=(Rh N (B8 F) r u p q n):=Ds fun n e=>(Xs (HT N (B8 F) r u p q) e (Aip fun z ae a b=>(lW ..).trans (Aas ..)):_)
def As8:=B4 N 27 (Aaj N) uJ (fun
|[.pagg q p],[]=>some fun _ k=>eX N q p (B8 k)
| _,_=>none) fun _ _=>by split;intro R F;exact(Bs (gh N (B8 F) · _ _) (MR fun r u=>(lW ..).trans (Aat ..)):_).trans (oh ..).symm;trivial
def QJ(N:Nat)(a b:Int)(c:Bool)(r0:Bool->O R):O R:=(cond (c==true) (cond ((cond true (decide (a>=0)) false)==true) (r0 (cond true (decide (a<b)) false)) (r0 false)) (r0 false))
def Hx:=(Ac (@QJ R)).1
def TC:@Hx R=@QJ R:=(Ac _).2
def wR(F:KF R):Bool->O R:=fun d=>F (.tup []) [(100000,bN 0 [.bool d])]
def Aau:=B4 N 75 [] Bt (fun
|[.int .i64 a,.int .i64 b,.optr 100000 0],[(100000,⟨false,false,false,false,0,[.bool c],false,none⟩)]=>some fun _ k=>Hx N a b c (wR k)
| _,_=>none) fun _ _=>by split;intro R F;dsimp only;rw[TC];kernel_rfl;trivial
def HU(k4:Int->Int->Bool->O R)(r0:Bool->O R)(c:LA)(d:Nat)(b:Bool)(f:Int)(i:LA)(o:Nat)(a:LA)(k6:Int->Int->Int->Bool->O R)(ac ad v:Int)(ae:Bool):O R:=(cond (decide (v<ad)) (cond (Ad v o) (cond (ble 3 ((i.drop (v.toNat*3)).length)) (cond ((!b)||(A0 ((i.drop (v.toNat*3)).take 3))) (cond ((beq (((i.drop (v.toNat*3)).take 3).length) 3)&&((ble 3 3)&&(!false))) (As .i64 (setCells [Bfg,Bfg,Bfg] 0 ((i.drop (v.toNat*3)).take 3)) fun ar=>Bh 22 (a.drop 4) fun br au=>Hx N ar (au:Int) ae fun av=>k6 ac ad (wrap .i64 (v+1)) av) none) none) none) none) (k4 f (wrap .i64 (ac+1)) ae))
def Vx(k4:Int->Int->Bool->O R)(r0:Bool->O R)(c:LA)(d:Nat)(b:Bool)(f:Int)(i:LA)(o:Nat)(a:LA):Nat->Int->Int->Int->Bool->O R
|0=>fun _ _ _ _=>none
|n+1=>HU N k4 r0 c d b f i o a (Vx k4 r0 c d b f i o a n)
def HV(k4:Int->Int->Bool->O R)(r0:Bool->O R)(c:LA)(d:Nat)(b:Bool)(f:Int)(t:LA)(p:Nat)(a:LA)(k5:Int->Int->Int->Bool->LA->O R)(q6:LA->Nat->Int->Int->Int->Bool->O R)(af ag ab:Int)(ah:Bool)(ai:LA):O R:=(cond (decide (ab<ag)) (cond (Ad ab p) (As .i64 (t.drop (ab.toNat*1)) fun aw=>Bh 12 (a.drop 3) fun bs ax=>Hx N aw (ax:Int) ah fun ay=>k5 af ag (wrap .i64 (ab+1)) ay ai) none) (Bh 3 (ai.drop 3) fun i o=>q6 i o af (o:Int) 0 ah))
def Ri(k4:Int->Int->Bool->O R)(r0:Bool->O R)(c:LA)(d:Nat)(b:Bool)(f:Int)(t:LA)(p:Nat)(a:LA):Nat->Int->Int->Int->Bool->LA->O R
|0=>fun _ _ _ _ _=>none
|n+1=>HV N k4 r0 c d b f t p a (Ri k4 r0 c d b f t p a n) (fun i o=>Vx N k4 r0 c d b f i o a N)
def HW(N:Nat)(r0:Bool->O R)(c:LA)(d:Nat)(b:Bool)(a:LA)(k4:Int->Int->Bool->O R)(q5:Int->LA->Nat->Int->Int->Int->Bool->LA->O R)(f w:Int)(aj:Bool):O R:=(cond (decide (w<f)) (cond (Ad w d) (cond (ble 4 ((c.drop (w.toNat*4)).length)) (cond ((beq 0 0)&&((beq (((c.drop (w.toNat*4)).take 4).length) 4)&&(beq 4 4))) (Bh 1 (((c.drop (w.toNat*4)).take 4).drop 1) fun t p=>q5 f t p w (p:Int) 0 aj ((c.drop (w.toNat*4)).take 4)) none) none) none) (r0 aj))
def Lb(r0:Bool->O R)(c:LA)(d:Nat)(b:Bool)(a:LA):Nat->Int->Int->Bool->O R
|0=>fun _ _ _=>none
|n+1=>HW N r0 c d b a (Lb r0 c d b a n) (fun f t p=>Ri N (Lb r0 c d b a n) r0 c d b f t p a N)
def HX(r0:Bool->O R)(l:LA)(q:Nat)(b:Bool)(a:LA)(k3:Int->Int->Bool->O R)(q4:LA->Nat->Int->Int->Bool->O R)(ak y:Int)(al:Bool):O R:=(cond (decide (y<ak)) (cond (Ad y q) (cond (ble 5 ((l.drop (y.toNat*5)).length)) (cond ((beq 0 0)&&((beq (((l.drop (y.toNat*5)).take 5).length) 5)&&(beq 5 5))) (As .i64 (((l.drop (y.toNat*5)).take 5).drop 1) fun az=>Bh 3 (a.drop 2) fun bt ba=>Hx N az (ba:Int) al fun bb=>k3 ak (wrap .i64 (y+1)) bb) none) none) none) (Bh 4 (a.drop 7) fun c d=>q4 c d (d:Int) 0 al))
def My(r0:Bool->O R)(l:LA)(q:Nat)(b:Bool)(a:LA):Nat->Int->Int->Bool->O R
|0=>fun _ _ _=>none
|n+1=>HX N r0 l q b a (My r0 l q b a n) (fun c d=>Lb N r0 c d b a N)
def HY(r0:Bool->O R)(m:LA)(r:Nat)(b:Bool)(a:LA)(k2:Int->Int->Bool->O R)(q3:LA->Nat->Int->Int->Bool->O R)(am z:Int)(an:Bool):O R:=(cond (decide (z<am)) (cond (Ad z r) (cond (ble 9 ((m.drop (z.toNat*9)).length)) (cond ((beq 0 0)&&((beq (((m.drop (z.toNat*9)).take 9).length) 9)&&(beq 9 9))) (As .i64 (((m.drop (z.toNat*9)).take 9).drop 1) fun bc=>Bh 3 (a.drop 2) fun bu bd=>Hx N bc (bd:Int) an fun be=>k2 am (wrap .i64 (z+1)) be) none) none) none) (Bh 5 (a.drop 6) fun l q=>q3 l q (q:Int) 0 an))
def Mz(r0:Bool->O R)(m:LA)(r:Nat)(b:Bool)(a:LA):Nat->Int->Int->Bool->O R
|0=>fun _ _ _=>none
|n+1=>HY N r0 m r b a (Mz r0 m r b a n) (fun l q=>My N r0 l q b a N)
def HZ(r0:Bool->O R)(g:LA)(s:Nat)(b:Bool)(a:LA)(k1:Int->Int->Bool->O R)(q2:LA->Nat->Int->Int->Bool->O R)(aa u:Int)(ao:Bool):O R:=(cond (decide (u<aa)) (cond (Ad u s) (cond (ble 22 ((g.drop (u.toNat*22)).length)) (cond ((beq 0 0)&&((beq (((g.drop (u.toNat*22)).take 22).length) 22)&&(beq 22 22))) (As .i64 (((g.drop (u.toNat*22)).take 22).drop 1) fun bf=>Bh 3 (a.drop 2) fun bv bg=>Hx N bf (bg:Int) ao fun bh=>cond (bh==true) (As .i64 (((g.drop (u.toNat*22)).take 22).drop 19) fun bi=>cond ((bi==0)==false) (As .i64 (((g.drop (u.toNat*22)).take 22).drop 19) fun bj=>cond ((cond false true (bj==1))==false) (As .i64 (((g.drop (u.toNat*22)).take 22).drop 19) fun bk=>k1 aa (wrap .i64 (u+1)) (cond true (cond false true (bk==2)) false)) (k1 aa (wrap .i64 (u+1)) true)) (k1 aa (wrap .i64 (u+1)) true)) (k1 aa (wrap .i64 (u+1)) false)) none) none) none) (Bh 9 (a.drop 5) fun m r=>q2 m r (r:Int) 0 ao))
def M0(r0:Bool->O R)(g:LA)(s:Nat)(b:Bool)(a:LA):Nat->Int->Int->Bool->O R
|0=>fun _ _ _=>none
|n+1=>HZ N r0 g s b a (M0 r0 g s b a n) (fun m r=>Mz N r0 m r b a N)
def H_(r0:Bool->O R)(h:LA)(j:Nat)(b:Bool)(a:LA)(k0:Int->Int->Bool->O R)(q1:LA->Nat->Int->Int->Bool->O R)(ap x:Int)(aq:Bool):O R:=(cond (decide (x<ap)) (cond (Ad x j) (cond (ble 12 ((h.drop (x.toNat*12)).length)) (cond ((beq 0 0)&&((beq (((h.drop (x.toNat*12)).take 12).length) 12)&&(beq 12 12))) (As .i64 (((h.drop (x.toNat*12)).take 12).drop 1) fun bl=>Bh 3 (a.drop 2) fun bw bm=>Hx N bl (bm:Int) aq fun bn=>As .i64 (((h.drop (x.toNat*12)).take 12).drop 2) fun bo=>Bh 3 (a.drop 2) fun bx bp=>Hx N bo (bp:Int) bn fun bq=>k0 ap (wrap .i64 (x+1)) bq) none) none) none) (Bh 22 (a.drop 4) fun g s=>q1 g s (s:Int) 0 aq))
def Rj(r0:Bool->O R)(h:LA)(j:Nat)(b:Bool)(a:LA):Nat->Int->Int->Bool->O R
|0=>fun _ _ _=>none
|n+1=>H_ N r0 h j b a (Rj r0 h j b a n) (fun g s=>M0 N r0 g s b a N)
def gi(N:Nat)(r0:Bool->O R)(q0:LA->Nat->Int->Int->Bool->O R)(a:LA)(b:Bool):O R:=(Bh 12 (a.drop 3) fun h j=>q0 h j (j:Int) 0 true)
def eY:=(Ac fun N a b r0=>gi (R:=R) N r0 (fun h j=>Rj N r0 h j b a N) a b).1
def oi(a b r0):(@eY R N a b r0)=(gi N r0 (fun h j=>Rj N r0 h j b a N) a b):=by rw[eY,(Ac _).2]
def uK:Hints:={H:=hK 3 (hS (hK 1 (hS (hP [1,3,4,21,22,23] hL) hL)) (hS (hK 1 (hS (hP [1,3,4,43,44,45] hL) hL)) (hS (hK 1 (hS (hP [1,3,4,74,75,76] hL) hL)) (hS (hK 1 (hS (hP [1,3,4,89,90,91] hL) hL)) (hS (hK 1 (hS (hP [1,3,4,104,105,106] (hK 2 (hS (hS (hK 1 (hS (hK 1 (hS (hP [1,3,4,14,104,105,106,111,112,113] hL) hL)) (hK 1 (hS (hP [1,3,4,104,105,106,125,126,127] hL) hL)))) hL) hL))) hL)) hL)))))}
def Aav:O6:=[Aau N]
def Rk(F:KF R):=Iq Tryz.f28 uK (Aav N) [] N F
def Aoy(c:LA)(d:Nat)(b:Bool)(f:Int)(i:LA)(o:Nat)(a:LA)(K:St->O R):=fun ac ad v ae=>K ⟨[(1,op 0),(3,op 1),(4,.fn 75 [op 1]),(104,.imm c d 4 false b),(105,iv f),(106,iv ac),(125,.imm i o 3 false b),(126,iv ad),(127,iv v)],hq [bP b 0 a,bN 0 [.bool ae]]⟩
def Aoz(c:LA)(d:Nat)(b:Bool)(f:Int)(t:LA)(p:Nat)(a:LA)(K:St->O R):=fun af ag ab ah ai=>K ⟨[(1,op 0),(3,op 1),(4,.fn 75 [op 1]),(14,op 2),(104,.imm c d 4 false b),(105,iv f),(106,iv af),(111,.imm t p 1 false b),(112,iv ag),(113,iv ab)],hq [bP b 0 a,bN 0 [.bool ah],bP b 0 ai]⟩
def CY(c:LA)(d:Nat)(b:Bool)(a:LA)(K:St->O R):=fun f w aj=>K ⟨[(1,op 0),(3,op 1),(4,.fn 75 [op 1]),(104,.imm c d 4 false b),(105,iv f),(106,iv w)],hq [bP b 0 a,bN 0 [.bool aj]]⟩
def Ao0(l:LA)(q:Nat)(b:Bool)(a:LA)(K:St->O R):=fun ak y al=>K ⟨[(1,op 0),(3,op 1),(4,.fn 75 [op 1]),(89,.imm l q 5 false b),(90,iv ak),(91,iv y)],hq [bP b 0 a,bN 0 [.bool al]]⟩
def Ao1(m:LA)(r:Nat)(b:Bool)(a:LA)(K:St->O R):=fun am z an=>K ⟨[(1,op 0),(3,op 1),(4,.fn 75 [op 1]),(74,.imm m r 9 false b),(75,iv am),(76,iv z)],hq [bP b 0 a,bN 0 [.bool an]]⟩
def Ao2(g:LA)(s:Nat)(b:Bool)(a:LA)(K:St->O R):=fun aa u ao=>K ⟨[(1,op 0),(3,op 1),(4,.fn 75 [op 1]),(43,.imm g s 22 false b),(44,iv aa),(45,iv u)],hq [bP b 0 a,bN 0 [.bool ao]]⟩
def Ao3(h:LA)(j:Nat)(b:Bool)(a:LA)(K:St->O R):=fun ap x aq=>K ⟨[(1,op 0),(3,op 1),(4,.fn 75 [op 1]),(21,.imm h j 12 false b),(22,iv ap),(23,iv x)],hq [bP b 0 a,bN 0 [.bool aq]]⟩
def Aaw Q4 (F:KF R) (c d b f i o a):∀ n,Aoy c d b f i o a (Ak (Rk N F (pz 366499352660) [Q4]) n)=(Vx N (CY c d b a Q4) (Da F) c d b f i o a n):=Ds fun n e=>(Bs (HU N (CY c d b a Q4) (Da F) c d b f i o a) e:_)
def Aax Q4 (F:KF R) (c d b f t p a):∀ n,Aoz c d b f t p a (Ak (Rk N F (pz 366499352644) [Q4]) n)=(Ri N (CY c d b a Q4) (Da F) c d b f t p a n):=Ds fun n e=>(Xs (HV N (CY c d b a Q4) (Da F) c d b f t p a) e (MR fun i o=>(lW ..).trans (Aaw ..)):_)
def Aay(F:KF R)(c d b a):∀ n,CY c d b a (Ak (Rk N F (pz 1398084) []) n)=(Lb N (Da F) c d b a n):=Ds fun n e=>(Xs (HW N (Da F) c d b a) e (A2b fun f t p=>(lW ..).trans ((Aax ..).trans (rB (Ri _ · _ _ _ _ _ _ _ _ _) e))):_)
def Aaz(F:KF R)(l q b a):∀ n,Ao0 l q b a (Ak (Rk N F (pz 349508) []) n)=(My N (Da F) l q b a n):=Ds fun n e=>(Xs (HX N (Da F) l q b a) e (MR fun c d=>(lW ..).trans (Aay ..)):_)
def Aa0(F:KF R)(m r b a):∀ n,Ao1 m r b a (Ak (Rk N F (pz 87364) []) n)=(Mz N (Da F) m r b a n):=Ds fun n e=>(Xs (HY N (Da F) m r b a) e (MR fun l q=>(lW ..).trans (Aaz ..)):_)
def Aa1(F:KF R)(g s b a):∀ n,Ao2 g s b a (Ak (Rk N F (pz 21828) []) n)=(M0 N (Da F) g s b a n):=Ds fun n e=>(Xs (HZ N (Da F) g s b a) e (MR fun m r=>(lW ..).trans (Aa0 ..)):_)
def Aa2(F:KF R)(h j b a):∀ n,Ao3 h j b a (Ak (Rk N F (pz 5444) []) n)=(Rj N (Da F) h j b a n):=Ds fun n e=>(Xs (H_ N (Da F) h j b a) e (MR fun g s=>(lW ..).trans (Aa1 ..)):_)
def As9:=B4 N 28 (Aav N) uK (fun
|[.pagg a b],[]=>some fun _ k=>eY N a b (Da k)
| _,_=>none) fun _ _=>by split;intro R F;exact(Bs (gi N (Da F) · _ _) (MR fun h j=>(lW ..).trans (Aa2 ..)):_).trans (oi ..).symm;trivial
def EG(N:Nat)(a:Lu)(b:Bool)(r0:Nat->LA->O R):O R:=(cond ((ble (0+a.length) 140737488355328)&&(ble ((0+a.length)*1) 140737488355328)) (r0 (0+a.length) (Ay a)) none)
def KP:=(Ac (@EG R)).1
def KQ:@KP R=@EG R:=(Ac _).2
def rn:=B4 N 76 [] Azt (fun
|[.optr 100000 0,.str a],[(100000,⟨false,false,false,false,0,[.nsl,.bool b],false,none⟩)]=>some fun _ k=>KP N a b (yP b k)
| _,_=>none) fun _ _=>by split;intro R F;dsimp only;rw[KQ];kernel_rfl;trivial
def U9(N:Nat)(b:Lu)(a:Nat)(d:Bool)(c:LA)(r0:Nat->LA->O R):O R:=(cond (decide ((a:Int)>1048576)) (r0 a c) (cond ((decide ((a:Int)>0))==true) (cond (Ad (wrap .i64 ((a:Int) - 1)) a) (As .u8 (c.drop (0+(((wrap .i64 ((a:Int) - 1)).toNat)*1))) fun e=>cond (cond true (e != 10) false) (cond ((ble (a+1) 140737488355328)&&(ble ((a+1)*1) 140737488355328)) (cond ((ble ((a+1)+b.length) 140737488355328)&&(ble (((a+1)+b.length)*1) 140737488355328)) (r0 ((a+1)+b.length) ((take ((a+1)*1) ((c.take (a*1))++[.int .u8 32]))++(Ay b))) none) none) (cond ((ble (a+b.length) 140737488355328)&&(ble ((a+b.length)*1) 140737488355328)) (r0 (a+b.length) ((c.take (a*1))++(Ay b))) none)) none) (cond ((ble (a+b.length) 140737488355328)&&(ble ((a+b.length)*1) 140737488355328)) (r0 (a+b.length) ((c.take (a*1))++(Ay b))) none)))
def Aj:=(Ac (@U9 R)).1
def X8:@Aj R=@U9 R:=(Ac _).2
def Eo:=B4 N 76 [] Azt (fun
|[.optr 100000 0,.str b],[(100000,⟨false,false,false,false,0,[.own 100001 0 a,.bool d],false,none⟩),(100001,⟨false,false,true,false,1,c,false,some (5,0)⟩)]=>some fun _ k=>Aj N b a d c (yP d k)
| _,_=>none) fun _ _=>by split;intro R F;dsimp only;rw[X8];kernel_rfl;trivial
def Lc(r0:Nat->Bool->LA->O R)(b:LA)(a:Nat)(c d:Bool)(k0:Int->Int->Nat->Bool->LA->O R)(j f:Int)(l:Nat)(o:Bool)(m:LA):O R:=(cond (decide (f<j)) (cond (Ad f a) (As .i64 (b.drop (f.toNat*1)) fun p=>cond ((decide (p<(-1073741824)))==false) (cond (cond false true (decide (p>1073741824))) (strconv_Itoa N p fun q=>Aj N q l true m fun r s=>k0 j (wrap .i64 (f+1)) r true s) (strconv_Itoa N p fun t=>Aj N t l o m fun u v=>k0 j (wrap .i64 (f+1)) u o v)) (strconv_Itoa N p fun w=>Aj N w l true m fun x y=>k0 j (wrap .i64 (f+1)) x true y)) none) (r0 l o m))
def Ep(r0:Nat->Bool->LA->O R)(b:LA)(a:Nat)(c d:Bool):Nat->Int->Int->Nat->Bool->LA->O R
|0=>fun _ _ _ _ _=>none
|n+1=>Lc N r0 b a c d (Ep r0 b a c d n)
def Py(N:Nat)(r0:Nat->Bool->LA->O R)(q0:Int->Int->Nat->Bool->LA->O R)(b:LA)(a:Nat)(c d:Bool)(g:Nat)(h:Bool)(i:LA):O R:=(q0 (a:Int) 0 g h i)
def Ae:=(Ac fun N b a c d g h i r0=>Py (R:=R) N r0 (Ep N r0 b a c d N) b a c d g h i).1
def CZ(b a c d g h i r0):(@Ae R N b a c d g h i r0)=(Py N r0 (Ep N r0 b a c d N) b a c d g h i):=by rw[Ae,(Ac _).2]
def FJ:Hints:={H:=hK 1 (hS (hP [0,6,7,8] hL) hL),free:=[100001]}
def KR:O6:=[dU N,Eo N]
def ii(F:KF R):=Iq Tryz.f77 FJ (KR N) [100000,100001] N F
def ij(b:LA)(a:Nat)(c d:Bool)(K:St->O R):=fun j f l o m=>K ⟨[(0,.optr 100000 0),(6,.imm b a 1 c d),(7,iv j),(8,iv f)],[(100000,bN 0 [Bff 0 l,.bool o]),(300000,⟨false,false,true,false,1,m,false,some (5,0)⟩)]⟩
def XJ(F:KF R)(b a c d):∀ n,ij b a c d (Ak (ii N F (pz 20) []) n)=(Ep N (To F) b a c d n):=Ds fun n e=>(Bs (Lc N (To F) b a c d) e:_)
def N7:=B4 N 77 (KR N) FJ (fun
|[.optr 100000 0,.imm b a 1 c d],[(100000,⟨false,false,false,false,0,[.own 100001 0 g,.bool h],false,none⟩),(100001,⟨false,false,true,false,1,i,false,some (5,0)⟩)]=>some fun _ k=>Ae N b a c d g h i (To k)
| _,_=>none) fun _ _=>by split;intro R F;exact(Bs (Py N (To F) · _ _ _ _ _ _ _) ((lW ..).trans (XJ ..)):_).trans (CZ ..).symm;trivial
def KS(N a:Nat)(c:Bool)(b:LA)(r0:Nat->LA->O R):O R:=(cond (decide ((a:Int)<=1048576)) (cond ((ble (a+1) 140737488355328)&&(ble ((a+1)*1) 140737488355328)) (r0 (a+1) ((b.take (a*1))++[.int .u8 10])) none) (r0 a b))
def C9:=(Ac (@KS R)).1
def OL:@C9 R=@KS R:=(Ac _).2
def Um:=B4 N 78 [] Azt (fun
|[.optr 100000 0],[(100000,⟨false,false,false,false,0,[.own 100001 0 a,.bool c],false,none⟩),(100001,⟨false,false,true,false,1,b,false,some (5,0)⟩)]=>some fun _ k=>C9 N a c b (yP c k)
| _,_=>none) fun _ _=>by split;intro R F;dsimp only;rw[OL];kernel_rfl;trivial
def L4(r0:Nat->LA->O R)(c:LA)(b:Nat)(d f a:Bool)(k0:Int->Int->Nat->LA->O R)(j i:Int)(l:Nat)(m:LA):O R:=(cond (decide (i<j)) (cond (Ad i b) (Km (c.drop (i.toNat*1)) fun o=>Aj N o l a m fun p q=>k0 j (wrap .i64 (i+1)) p q) none) (r0 l m))
def Fl(r0:Nat->LA->O R)(c:LA)(b:Nat)(d f a:Bool):Nat->Int->Int->Nat->LA->O R
|0=>fun _ _ _ _=>none
|n+1=>L4 N r0 c b d f a (Fl r0 c b d f a n)
def Sk(N:Nat)(r0:Nat->LA->O R)(q0:Int->Int->Nat->LA->O R)(c:LA)(b:Nat)(d f:Bool)(g:Nat)(a:Bool)(h:LA):O R:=(q0 (b:Int) 0 g h)
def Cn:=(Ac fun N c b d f g a h r0=>Sk (R:=R) N r0 (Fl N r0 c b d f a N) c b d f g a h).1
def FK(c b d f g a h r0):(@Cn R N c b d f g a h r0)=(Sk N r0 (Fl N r0 c b d f a N) c b d f g a h):=by rw[Cn,(Ac _).2]
def KT:Hints:={H:=hK 1 (hS (hP [0,6,7,8] hL) hL),free:=[100001]}
def OM:O6:=[Eo N]
def lU(F:KF R):=Iq Tryz.f79 KT (OM N) [100000,100001] N F
def lV(c:LA)(b:Nat)(d f a:Bool)(K:St->O R):=fun j i l m=>K ⟨[(0,.optr 100000 0),(6,.imm c b 1 d f),(7,iv j),(8,iv i)],[(100000,bN 0 [Bff 0 l,.bool a]),(300000,⟨false,false,true,false,1,m,false,some (5,0)⟩)]⟩
def aP(F:KF R)(c b d f a):∀ n,lV c b d f a (Ak (lU N F (pz 20) []) n)=(Fl N (yP a F) c b d f a n):=Ds fun n e=>(Bs (L4 N (yP a F) c b d f a) e:_)
def Pz:=B4 N 79 (OM N) KT (fun
|[.optr 100000 0,.imm c b 1 d f],[(100000,⟨false,false,false,false,0,[.own 100001 0 g,.bool a],false,none⟩),(100001,⟨false,false,true,false,1,h,false,some (5,0)⟩)]=>some fun _ k=>Cn N c b d f g a h (yP a k)
| _,_=>none) fun _ _=>by split;rename_i c b d f g a h;intro R F;exact(Bs (Sk N (yP a F) · c b d f g a h) ((lW ..).trans (aP ..)):_).trans (FK ..).symm;trivial
def Te(a:LA)(j:Bool)(b:Nat)(d:Bool)(c:LA)(r0:Nat->Bool->LA->O R):O R:=(As .i64 a fun q=>cond ((decide (q<(-1073741824)))==false) (As .i64 a fun r=>cond ((cond false true (decide (r>1073741824)))==false) (As .i64 (a.drop 1) fun s=>cond ((cond false true (decide (s<1)))==false) (As .i64 (a.drop 1) fun t=>cond (cond false true (decide (t>1073741824))) (As .i64 a fun u=>strconv_Itoa N u fun e=>cond (ble (e.length+1) 140737488355328) (As .i64 (a.drop 1) fun v=>strconv_Itoa N v fun l=>cond (ble ((List.length (e++([47]:Lu)))+l.length) 140737488355328) (Aj N ((e++([47]:Lu))++l) b true c fun w x=>r0 w true x) none) none) (As .i64 a fun y=>strconv_Itoa N y fun f=>cond (ble (f.length+1) 140737488355328) (As .i64 (a.drop 1) fun z=>strconv_Itoa N z fun m=>cond (ble ((List.length (f++([47]:Lu)))+m.length) 140737488355328) (Aj N ((f++([47]:Lu))++m) b d c fun aa ab=>r0 aa d ab) none) none)) (As .i64 a fun ac=>strconv_Itoa N ac fun g=>cond (ble (g.length+1) 140737488355328) (As .i64 (a.drop 1) fun ad=>strconv_Itoa N ad fun n=>cond (ble ((List.length (g++([47]:Lu)))+n.length) 140737488355328) (Aj N ((g++([47]:Lu))++n) b true c fun ae af=>r0 ae true af) none) none)) (As .i64 a fun ag=>strconv_Itoa N ag fun h=>cond (ble (h.length+1) 140737488355328) (As .i64 (a.drop 1) fun ah=>strconv_Itoa N ah fun o=>cond (ble ((List.length (h++([47]:Lu)))+o.length) 140737488355328) (Aj N ((h++([47]:Lu))++o) b true c fun ai aj=>r0 ai true aj) none) none)) (As .i64 a fun ak=>strconv_Itoa N ak fun i=>cond (ble (i.length+1) 140737488355328) (As .i64 (a.drop 1) fun al=>strconv_Itoa N al fun p=>cond (ble ((List.length (i++([47]:Lu)))+p.length) 140737488355328) (Aj N ((i++([47]:Lu))++p) b true c fun am an=>r0 am true an) none) none))
def Cc:=(Ac (@Te R)).1
def W8:@Cc R=@Te R:=(Ac _).2
def C_:=B4 N 82 [dU N,Eo N] Bt (fun
|[.optr 100000 0,.pagg a j],[(100000,⟨false,false,false,false,0,[.own 100001 0 b,.bool d],false,none⟩),(100001,⟨false,false,true,false,1,c,false,some (5,0)⟩)]=>some fun _ k=>Cc N a j b d c (To k)
| _,_=>none) fun _ _=>by split;intro R F;dsimp only;rw[W8];kernel_rfl;trivial
def EH(c:LA)(g:Bool)(a:LA)(b:Bool)(e:Nat)(d:Bool)(f:LA)(r0:Nat->Bool->LA->O R):O R:=(Km a fun o=>Bh 3 (c.drop 2) fun p q=>As .i64 (a.drop 1) fun h=>cond (Ad h q) (Km (p.drop (h.toNat*3)) fun r=>Bh 3 (c.drop 2) fun s t=>As .i64 (a.drop 2) fun i=>cond (Ad i t) (Km (s.drop (i.toNat*3)) fun u=>Cn N [.str ([108,105,110,101]:Lu),.str o,.str r,.str u,.str ([120]:Lu)] 5 false true e d f fun v w=>cond (ble 2 ((a.drop 3).length)) (cond ((!b)||(A0 ((a.drop 3).take 2))) (Cc N ((a.drop 3).take 2) false v d w fun x j y=>Aj N ([115,104,105,102,116]:Lu) x j y fun z aa=>cond (ble 2 ((a.drop 5).length)) (cond ((!b)||(A0 ((a.drop 5).take 2))) (Cc N ((a.drop 5).take 2) false z j aa fun ab ac ad=>cond (ble 2 ((a.drop 7).length)) (cond ((!b)||(A0 ((a.drop 7).take 2))) (Cc N ((a.drop 7).take 2) false ab ac ad fun ae l af=>Aj N ([108,105,109,105,116]:Lu) ae l af fun ag ah=>As .i64 (a.drop 9) fun ai=>As .i64 (a.drop 10) fun aj=>Ae N [.int .i64 ai,.int .i64 aj] 2 false true ag l ah fun ak m al=>Aj N ([97,119,97,121]:Lu) ak m al fun am an=>Bh 1 (a.drop 11) fun ao ap=>Ae N ao ap false b am m an fun aq n ar=>C9 N aq n ar fun au av=>r0 au n av) none) none) none) none) none) none) none) none)
def W9:=(Ac (@EH R)).1
def KU:@W9 R=@EH R:=(Ac _).2
def ro:=B4 N 80 [Pz N,C_ N,Eo N,N7 N,Um N] Bt (fun
|[.optr 100000 0,.pagg c g,.pagg a b],[(100000,⟨false,false,false,false,0,[.own 100001 0 e,.bool d],false,none⟩),(100001,⟨false,false,true,false,1,f,false,some (5,0)⟩)]=>some fun _ k=>W9 N c g a b e d f (To k)
| _,_=>none) fun _ _=>by split;intro R F;dsimp only;rw[KU];kernel_rfl;trivial
def N8(r0:Nat->Bool->LA->O R)(c:LA)(d:Nat)(b:Bool)(a:LA)(k0:Int->Int->Nat->Bool->LA->O R)(p f:Int)(q:Nat)(o:Bool)(r:LA):O R:=(cond (decide (f<p)) (cond (Ad f d) (cond (ble 2 ((c.drop (f.toNat*2)).length)) (cond ((!b)||(A0 ((c.drop (f.toNat*2)).take 2))) (cond ((beq (((c.drop (f.toNat*2)).take 2).length) 2)&&((ble 2 2)&&(!false))) (As .i64 (setCells [Bfg,Bfg] 0 ((c.drop (f.toNat*2)).take 2)) fun aj=>As .i64 ((setCells [Bfg,Bfg] 0 ((c.drop (f.toNat*2)).take 2)).drop 1) fun ak=>Ae N [.int .i64 aj,.int .i64 ak] 2 false true q o r fun al am an=>k0 p (wrap .i64 (f+1)) al am an) none) none) none) none) (Aj N ([110,111,108,111,97,100]:Lu) q o r fun ao ap=>As .i64 (a.drop 5) fun aq=>Ae N [.int .i64 aq] 1 false true ao o ap fun ar v au=>Aj N ([114,97,109,112]:Lu) ar v au fun av aw=>As .i64 (a.drop 6) fun ax=>As .i64 (a.drop 7) fun ay=>Ae N [.int .i64 ax,.int .i64 ay] 2 false true av v aw fun az w ba=>Aj N ([115,116,97,114,116]:Lu) az w ba fun bb bc=>As .i64 (a.drop 8) fun bd=>Ae N [.int .i64 bd] 1 false true bb w bc fun be x bf=>Aj N ([115,116,111,112]:Lu) be x bf fun bg bh=>As .i64 (a.drop 9) fun bi=>Ae N [.int .i64 bi] 1 false true bg x bh fun bj y bk=>Aj N ([116,105,109,101,115]:Lu) bj y bk fun bl bm=>As .i64 (a.drop 10) fun bn=>As .i64 (a.drop 11) fun bo=>As .i64 (a.drop 12) fun bp=>Ae N [.int .i64 bn,.int .i64 bo,.int .i64 bp] 3 false true bl y bm fun bq z br=>Aj N ([99,111,115,116]:Lu) bq z br fun bs bt=>As .i64 (a.drop 13) fun bu=>As .i64 (a.drop 14) fun bv=>As .i64 (a.drop 15) fun bw=>Ae N [.int .i64 bu,.int .i64 bv,.int .i64 bw] 3 false true bs z bt fun bx aa bz=>Aj N ([114,101,115,101,114,118,101]:Lu) bx aa bz fun ca cb=>As .i64 (a.drop 16) fun cc=>As .i64 (a.drop 17) fun cd=>Ae N [.int .i64 cc,.int .i64 cd] 2 false true ca aa cb fun ce ab cf=>Aj N ([97,119,97,121]:Lu) ce ab cf fun cg ch=>Bh 1 (a.drop 18) fun ci cj=>Ae N ci cj false b cg ab ch fun ck h cl=>Aj N ([115,116,97,116,101]:Lu) ck h cl fun s t=>As .i64 (a.drop 19) fun u=>cond (u==0) (Aj N ([111,102,102]:Lu) s h t fun cm cn=>As .i64 (a.drop 20) fun co=>As .i64 (a.drop 21) fun cp=>Ae N [.int .i64 co,.int .i64 cp] 2 false true cm h cn fun cq ac cr=>C9 N cq ac cr fun cs ct=>r0 cs ac ct) (cond (u==1) (Aj N ([115,116,97,114,116,105,110,103]:Lu) s h t fun cu cv=>As .i64 (a.drop 20) fun cw=>As .i64 (a.drop 21) fun cx=>Ae N [.int .i64 cw,.int .i64 cx] 2 false true cu h cv fun cy ad cz=>C9 N cy ad cz fun da db=>r0 da ad db) (cond (u==2) (Aj N ([111,110]:Lu) s h t fun dc dd=>As .i64 (a.drop 20) fun de=>As .i64 (a.drop 21) fun df=>Ae N [.int .i64 de,.int .i64 df] 2 false true dc h dd fun dg ae dh=>C9 N dg ae dh fun di dj=>r0 di ae dj) (As .i64 (a.drop 20) fun dk=>As .i64 (a.drop 21) fun dl=>Ae N [.int .i64 dk,.int .i64 dl] 2 false true s h t fun dm af dn=>C9 N dm af dn fun dp dq=>r0 dp af dq)))))
def Ge(r0:Nat->Bool->LA->O R)(c:LA)(d:Nat)(b:Bool)(a:LA):Nat->Int->Int->Nat->Bool->LA->O R
|0=>fun _ _ _ _ _=>none
|n+1=>N8 N r0 c d b a (Ge r0 c d b a n)
def Uo(r0:Nat->Bool->LA->O R)(q0:LA->Nat->Int->Int->Nat->Bool->LA->O R)(i:LA)(m:Bool)(a:LA)(b:Bool)(j:Nat)(g:Bool)(l:LA):O R:=(Km a fun dr=>Bh 3 (i.drop 2) fun ds dt=>As .i64 (a.drop 1) fun ag=>cond (Ad ag dt) (Km (ds.drop (ag.toNat*3)) fun du=>Cn N [.str ([117,110,105,116]:Lu),.str dr,.str du,.str ([109,105,110]:Lu)] 4 false true j g l fun dv dw=>As .i64 (a.drop 2) fun dx=>Ae N [.int .i64 dx] 1 false true dv g dw fun dy ah dz=>Aj N ([109,97,120]:Lu) dy ah dz fun ea eb=>As .i64 (a.drop 3) fun ec=>Ae N [.int .i64 ec] 1 false true ea ah eb fun ed ai ee=>Aj N ([115,101,103,109,101,110,116,115]:Lu) ed ai ee fun ef eg=>Bh 2 (a.drop 4) fun c d=>q0 c d (d:Int) 0 ef ai eg) none)
def Rl:=(Ac fun N i m a b j g l r0=>Uo (R:=R) N r0 (fun c d=>Ge N r0 c d b a N) i m a b j g l).1
def KV(i m a b j g l r0):(@Rl R N i m a b j g l r0)=(Uo N r0 (fun c d=>Ge N r0 c d b a N) i m a b j g l):=by rw[Rl,(Ac _).2]
def ON:Hints:={H:=hK 6 (hS (hK 1 (hS (hP [0,5,35,36,37] hL) hL)) hL)}
def TD:O6:=[Pz N,N7 N,Eo N,Um N]
def oq(F:KF R):=Iq Tryz.f81 ON (TD N) [100000,100001] N F
def ot(c:LA)(d:Nat)(b:Bool)(a:LA)(K:St->O R):=fun p f q o r=>K ⟨[(0,.optr 100000 0),(5,op 0),(35,.imm c d 2 false b),(36,iv p),(37,iv f)],[(100000,bN 0 [Bff 1 q,.bool o]),(300000,bP b 0 a),(300001,⟨false,false,true,false,1,r,false,some (5,0)⟩)]⟩
def eZ(F:KF R)(c d b a):∀ n,ot c d b a (Ak (oq N F (pz 349508) []) n)=(Ge N (To F) c d b a n):=Ds fun n e=>(Bs (N8 N (To F) c d b a) e:_)
def rp:=B4 N 81 (TD N) ON (fun
|[.optr 100000 0,.pagg i m,.pagg a b],[(100000,⟨false,false,false,false,0,[.own 100001 0 j,.bool g],false,none⟩),(100001,⟨false,false,true,false,1,l,false,some (5,0)⟩)]=>some fun _ k=>Rl N i m a b j g l (To k)
| _,_=>none) fun _ _=>by split;intro R F;exact(Bs (Uo N (To F) · _ _ _ _ _ _ _) (MR fun c d=>(lW ..).trans (eZ ..)):_).trans (KV ..).symm;trivial
def Ld(r0:Nat->Bool->LA->O R)(g:LA)(j:Nat)(a c:Bool)(b:LA)(k2:Int->Int->Nat->Bool->LA->O R)(v l:Int)(w:Nat)(p:Bool)(x:LA):O R:=(cond (decide (l<v)) (cond (Ad l j) (cond (ble 3 ((g.drop (l.toNat*3)).length)) (cond ((!a)||(A0 ((g.drop (l.toNat*3)).take 3))) (cond ((beq (((g.drop (l.toNat*3)).take 3).length) 3)&&((ble 3 3)&&(!false))) (Bh 22 (b.drop 4) fun ab ac=>As .i64 (setCells [Bfg,Bfg,Bfg] 0 ((g.drop (l.toNat*3)).take 3)) fun z=>cond (Ad z ac) (Km (ab.drop (z.toNat*22)) fun ad=>Aj N ad w p x fun ae af=>As .i64 ((setCells [Bfg,Bfg,Bfg] 0 ((g.drop (l.toNat*3)).take 3)).drop 1) fun ag=>As .i64 ((setCells [Bfg,Bfg,Bfg] 0 ((g.drop (l.toNat*3)).take 3)).drop 2) fun ah=>Ae N [.int .i64 ag,.int .i64 ah] 2 false true ae p af fun ai aj ak=>k2 v (wrap .i64 (l+1)) ai aj ak) none) none) none) none) none) (C9 N w p x fun al am=>r0 al p am))
def Gk(r0:Nat->Bool->LA->O R)(g:LA)(j:Nat)(a c:Bool)(b:LA):Nat->Int->Int->Nat->Bool->LA->O R
|0=>fun _ _ _ _ _=>none
|n+1=>Ld N r0 g j a c b (Gk r0 g j a c b n)
def Rm(N:Nat)(r0:Nat->Bool->LA->O R)(d c:Bool)(b:LA)(a:Bool)(f:LA)(q2:LA->Nat->Int->Int->Nat->Bool->LA->O R)(r:Nat)(s:LA):O R:=(Bh 3 (f.drop 3) fun g j=>q2 g j (j:Int) 0 r d s)
def L5(r0:Nat->Bool->LA->O R)(d c:Bool)(b:LA)(a:Bool)(f:LA)(r:Nat)(s:LA):O R:=Rm N r0 d c b a f (fun g j=>Gk N r0 g j a c b N) r s
def Le(r0:Nat->Bool->LA->O R)(i:LA)(h:Nat)(a d c:Bool)(b f:LA)(k0:Int->Int->Nat->LA->O R)(q1:Nat->LA->O R)(y q:Int)(t:Nat)(u:LA):O R:=(cond (decide (q<y)) (cond (Ad q h) (As .i64 (i.drop (q.toNat*1)) fun aa=>Bh 12 (b.drop 3) fun an ao=>cond (Ad aa ao) (Km (an.drop (aa.toNat*12)) fun ap=>Aj N ap t d u fun aq ar=>k0 y (wrap .i64 (q+1)) aq ar) none) none) (RL (f.drop 2) fun au=>cond au (Aj N ([99,111,114,114,101,99,116,105,118,101]:Lu) t d u fun av aw=>q1 av aw) (q1 t u)))
def Er(r0:Nat->Bool->LA->O R)(i:LA)(h:Nat)(a d c:Bool)(b f:LA):Nat->Int->Int->Nat->LA->O R
|0=>fun _ _ _ _=>none
|n+1=>Le N r0 i h a d c b f (Er r0 i h a d c b f n) (L5 N r0 d c b a f)
def P0(r0:Nat->Bool->LA->O R)(q0:LA->Nat->Int->Int->Nat->LA->O R)(b:LA)(c:Bool)(f:LA)(a:Bool)(m:Nat)(d:Bool)(o:LA):O R:=(Km f fun ax=>Cn N [.str ([111,117,116,97,103,101]:Lu),.str ax,.str ([108,105,110,101,115]:Lu)] 3 false true m d o fun ay az=>Bh 1 (f.drop 1) fun i h=>q0 i h (h:Int) 0 ay az)
def Mn:=(Ac fun N b c f a m d o r0=>P0 (R:=R) N r0 (fun i h=>Er N r0 i h a d c b f N) b c f a m d o).1
def C'(b c f a m d o r0):(@Mn R N b c f a m d o r0)=(P0 N r0 (fun i h=>Er N r0 i h a d c b f N) b c f a m d o):=by rw[Mn,(Ac _).2]
def FL:Hints:={H:=hK 2 (hS (hK 1 (hS (hP [0,4,5,16,17,18] hL) hL)) (hJ [0,4,5] hL (hS (hK 1 (hS (hP [0,4,36,37,38] hL) hL)) hL)))}
def KW:O6:=[Pz N,Eo N,N7 N,Um N]
def Tf(F:KF R):=Iq Tryz.f83 FL (KW N) [100000,100001] N F
def ik(g:LA)(j:Nat)(a c:Bool)(b:LA)(K:St->O R):=fun v l w p x=>K ⟨[(0,.optr 100000 0),(4,op 0),(36,.imm g j 3 false a),(37,iv v),(38,iv l)],[(100000,bN 0 [Bff 1 w,.bool p]),(300000,bP c 0 b),(300001,⟨false,false,true,false,1,x,false,some (5,0)⟩)]⟩
def io(d c:Bool)(b:LA)(a:Bool)(f:LA)(K:St->O R):=fun r s=>K ⟨[(0,.optr 100000 0),(4,op 0),(5,op 1)],[(100000,bN 0 [Bff 2 r,.bool d]),(300000,bP c 0 b),(300001,bP a 0 f),(300002,⟨false,false,true,false,1,s,false,some (5,0)⟩)]⟩
def ip(i:LA)(h:Nat)(a d c:Bool)(b f:LA)(K:St->O R):=fun y q t u=>K ⟨[(0,.optr 100000 0),(4,op 0),(5,op 1),(16,.imm i h 1 false a),(17,iv y),(18,iv q)],[(100000,bN 0 [Bff 2 t,.bool d]),(300000,bP c 0 b),(300001,bP a 0 f),(300002,⟨false,false,true,false,1,u,false,some (5,0)⟩)]⟩
def XK(F:KF R)(g j a c b):∀ n,ik g j a c b (Ak (Tf N F (pz 21828) []) n)=(Gk N (To F) g j a c b n):=Ds fun n e=>(Bs (Ld N (To F) g j a c b) e:_)
def XL(F:KF R)(d c b a f):io d c b a f (Bo (Tf N F (pz 341) []))=(L5 N (To F) d c b a f):=(Bs (Rm N (To F) d c b a f) (MR fun g j=>(lW ..).trans (XK ..)):_)
def XM(F:KF R)(i h a d c b f):∀ n,ip i h a d c b f (Ak (Tf N F (pz 1348) []) n)=(Er N (To F) i h a d c b f n):=Ds fun n e=>(Xs (Le N (To F) i h a d c b f) e ((jW ..).trans (XL ..)):_)
def lX:=B4 N 83 (KW N) FL (fun
|[.optr 100000 0,.pagg b c,.pagg f a],[(100000,⟨false,false,false,false,0,[.own 100001 0 m,.bool d],false,none⟩),(100001,⟨false,false,true,false,1,o,false,some (5,0)⟩)]=>some fun _ k=>Mn N b c f a m d o (To k)
| _,_=>none) fun _ _=>by split;intro R F;exact(Bs (P0 N (To F) · _ _ _ _ _ _ _) (MR fun i h=>(lW ..).trans (XM ..)):_).trans (C' ..).symm;trivial
end
end Gx
