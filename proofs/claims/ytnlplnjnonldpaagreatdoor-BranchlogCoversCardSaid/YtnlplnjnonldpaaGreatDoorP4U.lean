/- A part of the proof; each theorem says what it holds. -/
import Derived.Test.YtnlplnjnonldpaaGreatDoorRows
import Derived.ChangeSame
import Derived.Test.YtnlplnjnonldpaaGreatDoorP3U
set_option linter.unusedVariables false
set_option linter.defProp false
set_option linter.unusedSimpArgs false
open Nat (ble beq)
open List (take drop replicate)
open Go.IntKind (wrap)
namespace Gx.Bl
open Go Go.Proofs Gx.Cf
section
variable {R:Type}
structure EntD where
 i:Int
 v:RatD
structure CutD where
 kind:Int
 hour:Int
 units:Sl Int
 least:Int
 unit:Int
 len:Int
structure NodeD where
 kind:Int
 unit:Int
 hour:Int
 other:Int
 y:Sl EntD
structure LogD where
 uses:Sl (Int×Int)
 cuts:Sl CutD
 nodes:Sl NodeD
def EntD.av (e:EntD):LA:=.int .i64 e.i::e.v.av
def Qf (u:Int×Int):LA:=[.int .i64 u.1,.int .i64 u.2]
def CutD.av (c:CutD):LA:=[.int .i64 c.kind,.int .i64 c.hour,c.units.av 1 V3,.int .i64 c.least,.int .i64 c.unit,.int .i64 c.len]
def NodeD.av (n:NodeD):LA:=[.int .i64 n.kind,.int .i64 n.unit,.int .i64 n.hour,.int .i64 n.other,n.y.av 4 EntD.av]
def LogD.av (l:LogD):LA:=[l.uses.av 2 Qf,l.cuts.av 6 CutD.av,l.nodes.av 5 NodeD.av]
theorem Kc (e:EntD):e.av.length=4:=rfl
theorem DC (u:Int×Int):(Qf u).length=2:=rfl
theorem Gp (c:CutD):c.av.length=6:=rfl
theorem Ci (n:NodeD):n.av.length=5:=rfl
def Aft (M:Nat) (e:EntD):Prop:=e.v.ok∧e.v.m≤M
def u9 (M B:Nat) (n:NodeD):Prop:=n.y.l.length≤B∧∀ e ∈ n.y.l,Aft M e
def xP (B:Nat) (c:CutD):Prop:=c.units.l.length≤B
theorem H7 {α:Type} {e:α→LA} {sz:Nat} (b:∀ a,(e a).length=sz) {l:List α} {j:Nat} (h:j<l.length):drop (Int.toNat (j:Int)*sz) (l.flatMap e)=e l[j]++(l.drop (j+1)).flatMap e:=by
 rw[Aku,Ar b l j h]
theorem Acp {s:Sl Int} {r:LA} {f:LA→Nat→O R}:Ba 1 (s.av 1 V3::r) f=f (Ah s.l) s.l.length:=by rw[Cy,C6]
end
end Gx.Bl
namespace Gx
open Go Go.Proofs Go.RowKit Go.ChangeShapes
theorem rZ {n:Int} (h:(Lit.int .i64 n).wf=true):-9223372036854775808≤n∧n≤9223372036854775807:=by
 simp only[Lit.wf,Ak1,decide_eq_true_eq,show IntKind.i64.min=-9223372036854775808 from rfl,show IntKind.i64.max=9223372036854775807 from rfl] at h;omega
section
variable {W:World} {H:Type} {enc:TypeId×Value→H} {β:B5} {h:Ap}
theorem e_ {q:Int→Prop}:∀ m:List { n:Int // q n },m.flatMap (fun n=>[AV.int .i64 n.1])=Cf.Ah (m.map (·.1))
 | []=>rfl
 | a::r=>by rw[All,e_ r];rfl
theorem DD {a:Option Addr} {len cap:Nat} {d:DataW H} {p:List MemPlace} (b:DataW.Trod enc Tryz.prog W 0 (fun _=>true) true 22 (.slice a len cap) d p) :
  ∃ l:List Int,l.length≤maxLen∧Rep (fun _ k=>k<W.heap.size) β h W (.imm (Cf.Ah l) l.length 1 false false) (.slice a len cap):=by
 obtain⟨l,j,e⟩:=Adi (β:=β) (h:=h) Tryz.underlying22 (by kernel_rfl) (yr Tryz.underlying3 (by kernel_rfl)) b
 rw[e_] at e
 exact⟨l.map (·.1),by rw[Ana];exact j,by rw[Ana];exact e⟩
end
open Cf
end Gx
namespace Gx.Cf
open Go Go.Proofs
section
variable {R:Type}
theorem ze {N:Nat} (hN:4096≤N) {c:CaseD} (g:CY c):Small c N:=by
 obtain⟨H,e,bs,ls,us,ss,ts,os,b,og,_,rfl⟩:=g
 exact ow hN b og
theorem X_ {N:Nat} {v n:Int} (b:1≤n) (e:n≤4611686018427387904):∃ r:Int,0≤r∧r<n∧∀ K:Int→O R,AD N v n K=K r:=by
 obtain⟨a1,a2,a3⟩:=uL v n b e
 refine⟨_,a2,a3,fun K=>?_⟩
 rw[RQ];unfold gI
 rw[a1,cf]
theorem N6 {ok:Bool} {w:Int×Int×Int} {e:{ e:Int // e≠0 }} (h:ok=true):nd none ok w e=none:=by rw[h];rfl
theorem Xv {α:Type} {f:Nat→α→Ca→Ca}:∀ (l:List α) (j:Nat),(∀ i (h:i<l.length),f (j+i) l[i] none=none)→A6 f l j none=none
 | [],_,_=>rfl
 | a::r,j,h=>by
  rw[A6]
  have h0:=h 0 (by simp)
  simp only[Alt,Anv] at h0
  rw[h0]
  exact Xv r (j+1) (fun i hi=>by have:=h (i+1) (by simpa using hi);rw[show j+1+i=j+(i+1) by omega];simpa using this)
theorem r6:∀ i,i<16→∀ j,j<16→Ajk.getD i 0=Ajk.getD j 0→i=j:=by decide
theorem SG:∀ i,i<16→Jv [98,Ajk.getD i 0]=true∧Jv [108,Ajk.getD i 0]=true∧Jv [117,Ajk.getD i 0]=true∧Jv [111,Ajk.getD i 0]=true:=by decide
theorem DE {names:List Lu} {k:Int} {i:Nat} {s:Lu} (b:Jv s=true) (e:∀ x ∈ names.take i,x≠s):H6 (names.take i) k i s none=none:=by
 unfold H6
 rw[N6 b,N6]
 rw[Ams]
 intro x j
 have:=e x j
 simpa using this
theorem X' {α β:Type} {f:α→β} {l:List α} {i:Nat} {x:β} (h:x ∈ (l.map f).take i):∃ j,∃ (b:j<l.length),j<i∧x=f l[j]:=by
 obtain⟨j,b,rfl⟩:=Alr h
 have e:j<i∧j<l.length:=by simp at b;omega
 exact⟨j,e.2,e.1,by simp⟩
theorem YA {H:Nat} {l:List Int} {lo hi:Int} {w:Int×Int×Int} (b:l.length=H) (e:∀ x ∈ l,lo≤x∧x≤hi):QF (H:Int) l lo hi w none=none:=by
 unfold QF
 rw[N6 (by simp[b]),N6]
 rw[Ams];intro x j;exact Ea (e x j)
theorem yT {H:Nat} {l:List Int} {w:Int×Int×Int} (hH:1≤H∧H≤3) (b:l.length≤1) (e:∀ x ∈ l,0≤x∧x<(H:Int)):LU (H:Int) l w none=none:=by
 unfold LU
 rw[L3 (by omega),N6,N6]
 ·match l,b with
  | [],_=>exact NQ
  | [a],_=>exact V4 a
 ·rw[Ams];intro x j;have:=e x j;exact Ea (by omega)
structure OutV (nl nu:Nat) (x:OutD):Prop where
 ll:x.lines.l.length=1∨x.lines.l.length=2
 lr:∀ y ∈ x.lines.l,0≤y∧y<(nl:Int)
 la:CP x.lines.l=true
 ml:x.moves.l.length≤16
 mc:((x.moves.l.length:Int)==0||x.corr)=true
 mr:∀ m ∈ x.moves.l,0≤m.unit∧m.unit<(nu:Int)
 ma:CP (x.moves.l.map (·.unit))=true
 mi:x.moves.l.all nW=true
theorem lO {c:CaseD} {b:Int} (h:0≤b∧b<(c.buses.l.length:Int)):HU c b=true:=by
 unfold HU;rw[decide_eq_true h.1,decide_eq_true h.2];rfl
theorem Adw {c:CaseD} {H:Nat} {z:List Int} {bs:List BusD} {ls:List LineD} {us:List UnitD} {ss:List StoreD} {ts:List TieD} {os:List OutD} (eH:c.hours=(H:Int)) (eR:c.reserve.l=z) (eB:c.buses.l=bs) (eL:c.lines.l=ls) (eU:c.units.l=us) (eS:c.stores.l=ss) (eT:c.ties.l=ts) (eO:c.outs.l=os)
  (b:BaseG H z bs ls us ss ts) (I:os.length≤4) (K:∀ x ∈ os,OutV ls.length us.length x)
  (hn:∀ i (h:i<os.length),Jv os[i].name=true∧∀ j (s:j<os.length),j<i→os[j].name≠os[i].name):CW c=none:=by
 have hh:=b.h;have bl:=b.bl;have ll:=b.ll;have ul:=b.ul;have sl:=b.sl;have tl:=b.tl
 have L:LV c none=none:=by
  unfold LV
  simp only[eH,eR,eB,eL,eU,eS,eT,eO]
  rw[N6 (Ea (by omega)),YA b.rl (fun x k=>by have:=b.rr x k;omega),N6 (Ea (by omega)),N6 (decide_eq_true (by omega)),N6 (decide_eq_true (by omega)),N6 (decide_eq_true (by omega)),N6 (decide_eq_true (by omega)),N6 (decide_eq_true (by omega))]
 have M:A6 (nU c) bs 0 none=none:=by
  refine Xv _ _ fun i hi=>?_
  have g:=b.bg i hi
  unfold nU
  simp only[eH,eB,eL,eU,eS,eT,eO,Akz]
  rw[DE (by rw[g.name];exact(SG i (by omega)).1) (by
   intro x k
   obtain⟨j,s,q,rfl⟩:=X' k
   rw[(b.bg j s).name,g.name]
   intro e;simp at e;have:=r6 j (by omega) i (by omega) (by simpa using e);omega),YA g.dl (fun x k=>by have:=g.dr x k;omega),N6 (Ea (by have:=g.shed;omega))]
 have O:A6 (CQ c) ls 0 none=none:=by
  refine Xv _ _ fun i hi=>?_
  have g:=b.lg i hi
  unfold CQ
  simp only[eH,eB,eL,eU,eS,eT,eO,Akz]
  rw[DE (by rw[g.g.name];exact(SG i (by omega)).2.1) (by
   intro x k
   obtain⟨j,s,q,rfl⟩:=X' k
   rw[(b.lg j s).g.name,g.g.name]
   intro e;simp at e;have:=r6 j (by omega) i (by omega) (by simpa using e);omega)]
  have A:=g.fr;have v:=g.tx;have G:=g.ne
  rw[N6 (lO (by rw[eB];omega)),N6 (lO (by rw[eB];omega)),N6 (by simpa using fun e=>G e.symm),N6 g.g.re,N6 g.g.smin,N6 g.g.smax,N6 g.g.lim,N6 g.g.em,yT hh g.g.aw g.g.awr]
 have S:A6 (HW c) us 0 none=none:=by
  refine Xv _ _ fun i hi=>?_
  have g:=b.ug i hi
  unfold HW rQ
  simp only[eH,eB,eL,eU,eS,eT,eO,Akz]
  have A:=g.bus
  have e1:H6 ((us.map (·.name)).take i) 3 (i:Int) us[i].name none=none:=DE (by rw[g.name];exact(SG i (by omega)).2.2.1) (by
   intro x k
   obtain⟨j,s,q,rfl⟩:=X' k
   rw[(b.ug j s).name,g.name]
   intro e;simp at e;have:=r6 j (by omega) i (by omega) (by simpa using e);omega)
  rw[e1,N6 (lO (by rw[eB];omega)),N6 g.min,N6 g.max,N6 (decide_eq_true (by have:=g.sl;omega)),N6 g.sok,N6 g.sord,N6 g.ssum,N6 g.noLoad,N6 g.rampUp,N6 g.rampDown,N6 g.startRamp,N6 g.stopRamp,N6 g.upTime,N6 g.downTime,N6 g.startTime,N6 g.hotCost,N6 g.coldCost,N6 g.hotHours,N6 g.reserve,N6 g.reservePrice,yT hh g.aw g.awr,N6 g.state,N6 g.starting,N6 g.hours,N6 g.started]
  have v:=g.output
  cases k:us[i].state==2 with
  | true=>rw[k] at v;exact N6 v
  | false=>rw[k] at v;exact N6 v
 have C:A6 (Ud c) ss 0 none=none:=by
  refine Xv _ _ fun i hi=>?_
  have g:=b.sg _ (Ak3 hi)
  have u:i=0:=by omega
  unfold Ud G4
  simp only[eH,eB,eL,eU,eS,eT,eO,Akz]
  have A:=g.bus;have v:=g.cap;have G:=g.ini;have V:=g.fin;have Y:=g.ch;have h6:=g.dis;have h7:=g.eff
  have e1:H6 ((ss.map (·.name)).take i) 4 (i:Int) ss[i].name none=none:=DE (by rw[g.name];decide) (by subst u;simp)
  rw[e1,N6 (lO (by rw[eB];omega)),N6 (Ea (by omega)),N6 (Ea (by omega)),N6 (Ea (by omega)),N6 (Ea (by omega)),N6 (Ea (by omega)),N6]
  rw[Ea (by omega),Ea (by omega)];simp;omega
 have D:A6 (nV c) ts 0 none=none:=by
  refine Xv _ _ fun i hi=>?_
  have g:=b.tg _ (Ak3 hi)
  have u:i=0:=by omega
  unfold nV
  simp only[eH,eB,eL,eU,eS,eT,eO,Akz]
  have A:=g.bus
  have e1:H6 ((ts.map (·.name)).take i) 5 (i:Int) ts[i].name none=none:=DE (by rw[g.name];decide) (by subst u;simp)
  rw[e1,N6 (lO (by rw[eB];omega)),YA g.il (fun x k=>by have:=g.ir x k;omega),YA g.el (fun x k=>by have:=g.er x k;omega),YA g.pl (fun x k=>by have:=g.pr x k;omega)]
 have F:A6 (RX c) os 0 none=none:=by
  refine Xv _ _ fun i hi=>?_
  have g:=K _ (Ak3 hi)
  obtain⟨n1,n2⟩:=hn i hi
  unfold RX RW
  simp only[eH,eB,eL,eU,eS,eT,eO,Akz]
  have e1:H6 ((os.map (·.name)).take i) 6 (i:Int) os[i].name none=none:=DE n1 (by
   intro x k
   obtain⟨j,s,q,rfl⟩:=X' k
   exact n2 j s q)
  rw[e1,N6 (by have:=g.ll;simp;omega),N6,N6 g.la,N6 g.mc,N6 (decide_eq_true (by have:=g.ml;omega)),N6,N6 g.ma,N6 g.mi]
  ·rw[Ams];intro m T;have:=g.mr m T;unfold uF;rw[eU];simp;omega
  ·rw[Ams];intro y U;have:=g.lr y U;simp;omega
 unfold CW
 simp only[eB,eL,eU,eS,eT,eO]
 rw[L,M,O,S,C,D,F]
theorem Afu {f:Bool} {H:Nat} {e:List Int} {bs:List BusD} {ls:List LineD} {us:List UnitD} {ss:List StoreD} {ts:List TieD} {os:List OutD} (b:BaseG H e bs ls us ss ts) (k:os.length≤4) (q:∀ x ∈ os,OutV ls.length us.length x)
  (hn:∀ i (h:i<os.length),Jv os[i].name=true∧∀ j (s:j<os.length),j<i→os[j].name≠os[i].name):CW (lC f H e bs ls us ss ts os)=none :=
 Adw rfl rfl rfl rfl rfl rfl rfl rfl b k q hn
end
end Gx.Cf
namespace Gx.Cf
open Go Go.Proofs
section
theorem pI {c:CaseD} (h:c.outs.l=[]):∀ m j,Jw c m j none=none
 | 0,_=>rfl
 | m+1,j=>by rw[Jw,h];exact pI h m (j+1)
theorem zf {c:CaseD} (g:CY c):D9 c=none:=by
 obtain⟨H,e,bs,ls,us,ss,ts,os,b,og,k,rfl⟩:=g
 rcases k with rfl | k
 ·unfold D9
  rw[Afu b (by simp) (by simp) (by simp)]
  exact pI rfl _ _
 ·have e1:CW (lC false H e bs ls us ss ts os)=CW (lC true H e bs ls us ss ts os):=rfl
  have q:∀ m j p,Jw (lC false H e bs ls us ss ts os) m j p=Jw (lC true H e bs ls us ss ts os) m j p:=by
   intro m
   induction m with
   | zero=>intro j p;rfl
   | succ m s =>
    intro j p
    rw[Jw,Jw]
    refine(s _ _).trans ?_
    rfl
  unfold D9 at k ⊢
  rw[e1,q]
  exact k
structure Made (c:CaseD):Prop where
 h:1≤c.hours∧c.hours≤3
 b:1≤c.buses.l.length∧c.buses.l.length≤100
 u:1≤c.units.l.length∧c.units.l.length≤100
 l:c.lines.l.length≤100
theorem Acq {c:CaseD} (g:CY c):Made c:=by
 obtain⟨H,e,bs,ls,us,ss,ts,os,b,og,q,rfl⟩:=g
 have s:=b.h;have j:=b.bl;have k:=b.ul;have u:=b.ll
 exact⟨⟨by show(1:Int)≤(H:Int);omega,by show(H:Int)≤3;omega⟩,⟨j.1,by show bs.length≤100;omega⟩,⟨k.1,by show us.length≤100;omega⟩,by show ls.length≤100;omega⟩
end
end Gx.Cf
namespace Gx.Bl
open Go Go.Proofs Gx.Cf
section
variable {R:Type}
theorem Afv {z:Int} {r:LA} {f:Int→O R}:Ao .i64 (.int .i64 z::r) f=f z:=Aw
theorem Ae0 (a:Int) (b:Nat):qm (mkRat a b)≤max (Bg a.natAbs).length (Bg b).length+1:=by
 have h:=Aez ⟨decide (a<0),.of (Bg a.natAbs) false false,.of (Bg b) false false⟩ ⟨Az _,Az _⟩
 have hq:RatD.q ⟨decide (a<0),.of (Bg a.natAbs) false false,.of (Bg b) false false⟩=mkRat a b:=by
  show mkRat (Et (decide (a<0)) (.of (Bg a.natAbs) false false)) (val (Bg b))=_
  rw[XZ,Bo]
 rw[hq] at h
 exact h
structure CaseG (N:Nat) (c:CaseD):Prop where
 s:Small c N
 n:4096≤N
 ok:D9 c=none
 h:1≤c.hours∧c.hours≤3
 u:1≤c.units.l.length∧c.units.l.length≤100
 o:c.outs.l.length≤100
theorem zg {N:Nat} {c:CaseD} (g:CaseG N c) (d:Bool) (h:Int):∃ L:List Int,L.length≤1000000∧∀ K:Nat→LA→O R,Xl N c.av d h K=K L.length (Ah L):=by
 have b:=g.s.top.2.1
 have start:∀ K:Nat→LA→O R,Xl N c.av d h K=cond ((cond false true (decide (h<0)))==false) (cond (cond false true (decide (h≥c.hours))) (K 0 []) (Hw N c.av d h fun i l=>K i l)) (K 0 []):=fun K=>by
  rw[LO];unfold LN
  rw[Cc,ct,Be,Xr g.s g.n,g.ok]
  show cond true (cond true (cond _ (Ao .i64 c.av _) _) _) none=_
  rw[ct,ct,Fb,ct]
 by_cases j:h<0
 ·exact⟨[],by simp,fun K=>by rw[start,show((cond false true (decide (h<0)))==false)=false by simp[j],cf];rfl⟩
 ·by_cases e:h≥c.hours
  ·exact⟨[],by simp,fun K=>by rw[start,show((cond false true (decide (h<0)))==false)=true by simp;omega,ct,decide_eq_true e];rfl⟩
  ·refine⟨Aq c h,?_,fun K=>?_⟩
   ·have:=T4 h c.lines.l 0
    unfold Aq;omega
   ·rw[start,show((cond false true (decide (h<0)))==false)=true by simp;omega,ct,decide_eq_false e,eA g.s];rfl
theorem GH {N:Nat} {c:CaseD} (g:CaseG N c) {b d:Nat} {f:Bool} {L:List Int} (hL:L.length≤1000000) (k:b<c.outs.l.length):∀ (m j fuel F:Nat) (G:LA),j+m=L.length→m<fuel→F≤j →
  ∃ (F':Nat) (G':LA),∀ K:Nat→LA→O R,Dz N K (b:Int) L.length f c.av (Ah L) fuel F (L.length:Int) (j:Int) G=K F' G'
 | 0,j,fuel+1,F,G,u,_,_=>by
  refine⟨F,G,fun K=>?_⟩
  rw[Dz];unfold N4
  rw[G3 (by omega),cf]
 | m+1,j,fuel+1,F,G,u,v,hF=>by
  have h:j<L.length:=by omega
  have ol:=g.s.oli _ (Ak3 k)
  have pre:∀ K:Nat→LA→O R,Dz N K (b:Int) L.length f c.av (Ah L) (fuel+1) F (L.length:Int) (j:Int) G=cond ((c.outs.l[b]).lines.l.contains L[j]) (Dz N K (b:Int) L.length f c.av (Ah L) fuel (F+1) (L.length:Int) ((j+1:Nat):Int) (G.take (F*1)++[.int .i64 L[j]])) (Dz N K (b:Int) L.length f c.av (Ah L) fuel F (L.length:Int) ((j+1:Nat):Int) G):=fun K=>by
   rw[Dz];unfold N4
   rw[F7 h,ct,Ac h,ct,Aku,Ak6,Akz,CM h,Ms,Ac k,ct,H7 Cb k]
   show Ba 1 ((c.outs.l[b]).lines.av 1 V3::_) _=_
   rw[Acp,V5 rfl ol,wS (by omega),show(ble (F+1) 140737488355328&&ble ((F+1)*8) 140737488355328)=true by simp;omega,ct]
  cases q:(c.outs.l[b]).lines.l.contains L[j]
  ·obtain⟨F',G',e⟩:=GH g (d:=d) (f:=f) hL k m (j+1) fuel F G (by omega) (by omega) (by omega)
   exact⟨F',G',fun K=>by rw[pre,q,cf,e]⟩
  ·obtain⟨F',G',e⟩:=GH g (d:=d) (f:=f) hL k m (j+1) fuel (F+1) (G.take (F*1)++[.int .i64 L[j]]) (by omega) (by omega) (by omega)
   exact⟨F',G',fun K=>by rw[pre,q,ct,e]⟩
theorem xQ {N:Nat} {c:CaseD} (hN:1000001<N) (g:CaseG N c) (d:Bool) (h:Int) {b:Nat} (j:b<c.outs.l.length):∃ r:Bool,∀ K:Bool→O R,Zg N c.av d h (b:Int) K=K r:=by
 obtain⟨L,l1,l2⟩:=zg (R:=R) g d h
 obtain⟨F,G,e⟩:=GH (R:=R) (d:=0) (f:=d) g l1 j L.length 0 N 0 [] (by omega) (by omega) (by omega)
 refine⟨decide ((F:Int)>0),fun K=>?_⟩
 rw[HR];unfold FT
 rw[Cc,ct,Be,HQ];unfold Vy
 rw[show(decide ((b:Int)<0)==false)=true by rw[decide_eq_false (by omega)];rfl,ct,Ms,show(cond false true (decide ((b:Int)≥(c.outs.l.length:Int))):Bool)=false from decide_eq_false (by omega),cf]
 unfold P9 Ub
 rw[Cc,ct,Be,l2]
 exact e _
theorem lP {N:Nat} {c:CaseD} (hN:1000001<N) (g:CaseG N c) {raw:List Int} {a b d:Bool} {hh:Int}:∀ (m j fuel k:Nat) (U:List (Int×Int)),j+m=c.outs.l.length→m<fuel→k≤10000+j→U.length≤k →
  ∃ (U':List (Int×Int)) (q:Nat),U'.length≤q∧q=k+m∧∀ (K0:Nat→Int→Int→LA→O R) (K:Nat→LA→O R),De N K0 K (Ah raw) raw.length a b d c.av fuel U.length (k:Int) hh (j:Int) (U.flatMap Qf)=K0 U'.length (q:Int) (wrap .i64 (hh+1)) (U'.flatMap Qf)
 | 0,j,fuel+1,k,U,v,_,_,hU=>by
  refine⟨U,k,hU,rfl,fun K0 K=>?_⟩
  rw[De];unfold Zh
  rw[Ms,G3 (by omega),cf]
 | m+1,j,fuel+1,k,U,v,y,z,hU=>by
  have h:j<c.outs.l.length:=by omega
  have A:=g.o
  obtain⟨r,hr⟩:=xQ (R:=R) hN g d hh h
  have go:∀ (V:List (Int×Int)),V.length≤k+1→(∀ (K0:Nat→Int→Int→LA→O R) (K:Nat→LA→O R),De N K0 K (Ah raw) raw.length a b d c.av (fuel+1) U.length (k:Int) hh (j:Int) (U.flatMap Qf)=De N K0 K (Ah raw) raw.length a b d c.av fuel V.length ((k+1:Nat):Int) hh ((j+1:Nat):Int) (V.flatMap Qf)) →
    ∃ (U':List (Int×Int)) (q:Nat),U'.length≤q∧q=k+(m+1)∧∀ (K0:Nat→Int→Int→LA→O R) (K:Nat→LA→O R),De N K0 K (Ah raw) raw.length a b d c.av (fuel+1) U.length (k:Int) hh (j:Int) (U.flatMap Qf)=K0 U'.length (q:Int) (wrap .i64 (hh+1)) (U'.flatMap Qf):=by
   intro V hV e
   obtain⟨U',q,e1,C,e3⟩:=lP hN g (raw:=raw) (a:=a) (b:=b) (d:=d) (hh:=hh) m (j+1) fuel (k+1) V (by omega) (by omega) (by omega) hV
   exact⟨U',q,e1,by omega,fun K0 K=>by rw[e,e3]⟩
  have pre:∀ (K0:Nat→Int→Int→LA→O R) (K:Nat→LA→O R),De N K0 K (Ah raw) raw.length a b d c.av (fuel+1) U.length (k:Int) hh (j:Int) (U.flatMap Qf)=(cond (r==true) (cond ((cond true (decide ((k:Int)<(raw.length:Int))) false)==true) (cond (Af (k:Int) raw.length) (Ao .i64 ((Ah raw).drop ((Int.toNat (k:Int))*1)) fun w=>cond (cond true ((Int.tmod w 2)==0) false) (De N K0 K (Ah raw) raw.length a b d c.av fuel (U.length+1) ((k+1:Nat):Int) hh ((j+1:Nat):Int) ((U++[(hh,(j:Int))]).flatMap Qf)) (De N K0 K (Ah raw) raw.length a b d c.av fuel U.length ((k+1:Nat):Int) hh ((j+1:Nat):Int) (U.flatMap Qf))) none) (De N K0 K (Ah raw) raw.length a b d c.av fuel U.length ((k+1:Nat):Int) hh ((j+1:Nat):Int) (U.flatMap Qf))) (De N K0 K (Ah raw) raw.length a b d c.av fuel U.length ((k+1:Nat):Int) hh ((j+1:Nat):Int) (U.flatMap Qf))):=fun K0 K=>by
   rw[De];unfold Zh
   have ef:take (U.length*2) (U.flatMap Qf)++[.int .i64 hh,.int .i64 (j:Int)]=(U++[(hh,(j:Int))]).flatMap Qf:=by
    rw[Akt (by rw[CX DC];exact Akw _),Al5];rfl
   rw[Ms,F7 h,ct,Cc,ct,Be,hr,wS (by omega),wS (by omega),ef,show(ble (U.length+1) 140737488355328&&ble ((U.length+1)*16) 140737488355328)=true by simp;omega,ct]
  cases r
  ·exact go U (by omega) fun K0 K=>by rw[pre];rfl
  ·by_cases s:k<raw.length
   ·cases u:Int.tmod raw[k] 2==0
    ·exact go U (by omega) fun K0 K=>by
      rw[pre,show((true:Bool)==true)=true from rfl,ct,show((cond true (decide ((k:Int)<(raw.length:Int))) false)==true)=true by simp;omega,ct,Ac s,ct,Aku,Ak6,CM s,u];rfl
    ·exact go (U++[(hh,(j:Int))]) (by rw[Akx,Amm];omega) fun K0 K=>by
      rw[pre,show((true:Bool)==true)=true from rfl,ct,show((cond true (decide ((k:Int)<(raw.length:Int))) false)==true)=true by simp;omega,ct,Ac s,ct,Aku,Ak6,CM s,u,Akx];rfl
   ·exact go U (by omega) fun K0 K=>by
     rw[pre,show((true:Bool)==true)=true from rfl,ct,show((cond true (decide ((k:Int)<(raw.length:Int))) false)==true)=false by simp;omega,cf]
theorem Adx {N:Nat} {c:CaseD} (hN:1000001<N) (g:CaseG N c) {raw:List Int} {a b d:Bool}:∃ U:List (Int×Int),U.length≤1000∧∀ K:Nat→LA→O R,WW N c.av d (Ah raw) raw.length a b K=K U.length (U.flatMap Qf):=by
 have v:=g.o
 have hh:=g.h
 have loop:∀ (m q fuel k:Nat) (U:List (Int×Int)),(q:Int)+m=c.hours→m<fuel→k≤100*q→U.length≤k→∃ U':List (Int×Int),U'.length≤1000∧∀ K:Nat→LA→O R,Ju N K (Ah raw) raw.length a b d c.av fuel U.length (k:Int) (q:Int) (U.flatMap Qf)=K U'.length (U'.flatMap Qf):=by
  intro m
  induction m with
  | zero =>
   intro q fuel k U hq e j hU
   cases fuel with
   | zero=>omega
   | succ fuel =>
    refine⟨U,by omega,fun K=>?_⟩
    rw[Ju];unfold Zi
    rw[Fb,show decide ((q:Int)<c.hours)=false from decide_eq_false (by omega),cf]
  | succ m s =>
   intro q fuel k U hq e j hU
   cases fuel with
   | zero=>omega
   | succ fuel =>
    obtain⟨U1,u,e1,y,e3⟩:=lP (R:=R) hN g (raw:=raw) (a:=a) (b:=b) (d:=d) (hh:=(q:Int)) c.outs.l.length 0 N k U (by omega) (by omega) (by omega) hU
    obtain⟨U2,f1,f2⟩:=s (q+1) fuel u U1 (by omega) (by omega) (by omega) e1
    refine⟨U2,f1,fun K=>?_⟩
    rw[Ju];unfold Zi
    rw[Fb,show decide ((q:Int)<c.hours)=true from decide_eq_true (by omega),ct]
    have:=e3 (Ju N K (Ah raw) raw.length a b d c.av fuel) K
    refine Apl this ?_
    rw[wS (by omega)]
    exact f2 K
 obtain⟨U,u1,u2⟩:=loop c.hours.toNat 0 N 0 [] (by omega) (by omega) (by omega) (by simp)
 refine⟨U,u1,fun K=>?_⟩
 rw[dt];unfold WV
 exact u2 K
theorem lQ {N:Nat} {c:CaseD} (g:CaseG N c) {raw:List Int} (v:raw.length≤9223372036854775807) {gg d:Bool} {r i:Int} {f:Nat} {l:LA} (y:f≤100):∀ (m j fuel k:Nat) (q:List Int),j+m=c.units.l.length→m<fuel→k≤raw.length→q.length≤j→(0<m∨q≠[]) →
  ∃ (s:List Int) (z:Int) (b:Nat),s.length≤100∧b≤raw.length∧∀ (K0:Nat→Int→LA→Int→O R) (K:Nat→LA→O R),En N K0 K f i gg c.av l (Ah raw) raw.length d r fuel (j:Int) (k:Int) q.length (Ah q)=K0 (f+1) (wrap .i64 (i - 1)) (l.take (f*6)++(CutD.av ⟨0,r,.of s false false,wrap .i64 (1+z),0,0⟩)) (b:Int)
 | 0,j,fuel+1,k,q,I,_,A,hq,h0=>by
  have L:=g.u
  have e:0<q.length:=by
   rcases h0 with h | h
   ·omega
   ·exact Apa.2 h
  obtain⟨z,b,z1,z2,z3,z4⟩:=nx (R:=R) (N:=N) (t:=false) (o:=d) v (q.length:Int) (by omega) (by omega) k A
  have eav:CutD.av ⟨0,r,.of q false false,wrap .i64 (1+z),0,0⟩=[.int .i64 0,.int .i64 r,.imm (Ah q) q.length 1 false false,.int .i64 (wrap .i64 (1+z)),.int .i64 0,.int .i64 0]:=by
   show([.int .i64 0,.int .i64 r,.imm (q.flatMap V3) q.length 1 false false,.int .i64 (wrap .i64 (1+z)),.int .i64 0,.int .i64 0]:LA)=_
   rw[C6]
  refine⟨q,z,b,by omega,z3,fun K0 K=>?_⟩
  rw[eav,En];unfold Lv
  rw[Cu,G3 (by omega),cf,z4,show(ble (f+1) 140737488355328&&ble ((f+1)*64) 140737488355328)=true by simp;omega,ct,Ak6,Akt (show(Ah q).length≤q.length by rw[Cz];exact Akw _)]
 | m+1,j,fuel+1,k,q,I,S,A,hq,h0=>by
  have L:=g.u
  have h:j<c.units.l.length:=by omega
  obtain⟨x,F,x1,x2,x3,x4⟩:=nx (R:=R) (N:=N) (t:=false) (o:=d) v 2 (by omega) (by omega) k A
  have rm:(ble (q.length+1) 140737488355328&&ble ((q.length+1)*8) 140737488355328)=true:=by simp;omega
  have Adg:take (q.length*1) (Ah q)++[.int .i64 (j:Int)]=Ah (q++[(j:Int)]):=by
   rw[Ak6,Akt (by rw[Cz];exact Akw _),←Zl];rfl
  have take:∀ (V:List Int),V.length≤j+1→(0<m∨V≠[])→(∀ (K0:Nat→Int→LA→Int→O R) (K:Nat→LA→O R),En N K0 K f i gg c.av l (Ah raw) raw.length d r (fuel+1) (j:Int) (k:Int) q.length (Ah q)=En N K0 K f i gg c.av l (Ah raw) raw.length d r fuel ((j+1:Nat):Int) (F:Int) V.length (Ah V)) →
    ∃ (s:List Int) (z:Int) (b:Nat),s.length≤100∧b≤raw.length∧∀ (K0:Nat→Int→LA→Int→O R) (K:Nat→LA→O R),En N K0 K f i gg c.av l (Ah raw) raw.length d r (fuel+1) (j:Int) (k:Int) q.length (Ah q)=K0 (f+1) (wrap .i64 (i - 1)) (l.take (f*6)++(CutD.av ⟨0,r,.of s false false,wrap .i64 (1+z),0,0⟩)) (b:Int):=by
   intro V v1 v2 v3
   obtain⟨s,z,b,e1,M,e3⟩:=lQ g v (gg:=gg) (d:=d) (r:=r) (i:=i) (f:=f) (l:=l) y m (j+1) fuel F V (by omega) (by omega) x3 v1 v2
   exact⟨s,z,b,e1,M,fun K0 K=>by rw[v3,e3]⟩
  by_cases G:x=1
  ·refine take (q++[(j:Int)]) (by rw[Akx,Amm];omega) (.inr (by simp)) fun K0 K=>?_
   rw[En];unfold Lv
   rw[Cu,F7 h,ct,x4,G,show(((1:Int)==1)==false)=false from rfl,cf,rm,ct,Adg,wS (by omega),Akx];rfl
  have e1:((x==1)==false)=true:=by simpa using G
  by_cases e:q=[]
  ·subst e
   by_cases C:j+1=c.units.l.length
   ·refine take ([]++[(j:Int)]) (by simp) (.inr (by simp)) fun K0 K=>?_
    rw[En];unfold Lv
    rw[Cu,F7 h,ct,x4,e1,ct,show(((([]:List Int).length:Nat):Int)==0)=true from rfl,show((true:Bool)==true)=true from rfl,ct,Cu]
    have D:wrap .i64 ((c.units.l.length:Int) - 1)=(j:Int):=by rw[i64 (by omega)];omega
    rw[D,show(cond false true (cond true ((j:Int)==(j:Int)) false):Bool)=true by simp,ct,rm,ct,Adg,wS (by omega)];rfl
   ·refine take [] (by simp) (.inl (by omega)) fun K0 K=>?_
    rw[En];unfold Lv
    rw[Cu,F7 h,ct,x4,e1,ct,show(((([]:List Int).length:Nat):Int)==0)=true from rfl,show((true:Bool)==true)=true from rfl,ct,Cu]
    have D:wrap .i64 ((c.units.l.length:Int) - 1)=((c.units.l.length - 1:Nat):Int):=by rw[i64 (by omega)];omega
    rw[D,show(cond false true (cond true ((j:Int)==((c.units.l.length - 1:Nat):Int)) false):Bool)=false by
     show((j:Int)==((c.units.l.length - 1:Nat):Int))=false
     rw[beq_eq_false_iff_ne];omega,cf,wS (by omega)]
  ·refine take q (by omega) (.inr e) fun K0 K=>?_
   have:0<q.length:=Apa.2 e
   rw[En];unfold Lv
   rw[Cu,F7 h,ct,x4,e1,ct,show(((q.length:Int)==0)==true)=false by
    have:((q.length:Int)==0)=false:=by rw[beq_eq_false_iff_ne];omega
    rw[this];rfl,cf,wS (by omega)]
theorem pJ {N:Nat} {c:CaseD} (g:CaseG N c) {raw:List Int} (b:raw.length≤9223372036854775807) {gg d:Bool}:∀ (m fuel k:Nat) (C:List CutD),m<fuel→k≤raw.length→m≤10→C.length+m≤10→(∀ x ∈ C,xP 100 x) →
  ∃ (C':List CutD),C'.length≤10∧(∀ x ∈ C',xP 100 x)∧∀ K:Nat→LA→O R,Eo N K gg c.av (Ah raw) raw.length d fuel C.length (m:Int) (C.flatMap CutD.av) (k:Int)=K C'.length (C'.flatMap CutD.av)
 | 0,fuel+1,k,C,_,G,_,hC,D=>by
  refine⟨C,by omega,D,fun K=>?_⟩
  rw[Eo];unfold Ty
  rw[show decide (((0:Nat):Int)>0)=false from rfl,cf]
 | m+1,fuel+1,k,C,hf,G,hm,hC,D=>by
  have hh:=g.h;have hu:=g.u;have hn:=g.n
  obtain⟨r,U,r1,r2,V,I⟩:=nx (R:=R) (N:=N) (t:=false) (o:=d) b c.hours (by omega) (by omega) k G
  obtain⟨s,L,s1,s2,M,S⟩:=nx (R:=R) (N:=N) (t:=false) (o:=d) b 2 (by omega) (by omega) U V
  have T:wrap .i64 (((m+1:Nat):Int) - 1)=(m:Int):=by rw[i64 (by omega)];omega
  have tk:take (C.length*6) (C.flatMap CutD.av)=C.flatMap CutD.av:=Akt (by rw[CX Gp];exact Akw _)
  have fin:∀ (x:CutD) (j:Nat),xP 100 x→j≤raw.length→(∀ K:Nat→LA→O R,Eo N K gg c.av (Ah raw) raw.length d (fuel+1) C.length ((m+1:Nat):Int) (C.flatMap CutD.av) (k:Int)=Eo N K gg c.av (Ah raw) raw.length d fuel (C.length+1) (m:Int) (C.flatMap CutD.av++x.av) (j:Int)) →
    ∃ (C':List CutD),C'.length≤10∧(∀ x ∈ C',xP 100 x)∧∀ K:Nat→LA→O R,Eo N K gg c.av (Ah raw) raw.length d (fuel+1) C.length ((m+1:Nat):Int) (C.flatMap CutD.av) (k:Int)=K C'.length (C'.flatMap CutD.av):=by
   intro x j X F e
   obtain⟨C',c1,c2,c3⟩:=pJ g b (gg:=gg) (d:=d) m fuel j (C++[x]) (by omega) F (by omega) (by rw[Akx,Amm];omega) (fun y A=>by
    rcases Ak2.1 A with A | A
    ·exact D y A
    ·rw[Am9] at A;rw[A];exact X)
   refine⟨C',c1,c2,fun K=>?_⟩
   have:=c3 K
   rw[Akx,Al5] at this
   rw[e]
   simpa using this
  have rm:(ble (C.length+1) 140737488355328&&ble ((C.length+1)*64) 140737488355328)=true:=by simp;omega
  by_cases hs:s=0
  ·obtain⟨u,Y,u1,u2,u3,u4⟩:=nx (R:=R) (N:=N) (t:=false) (o:=d) b (c.units.l.length:Int) (by omega) (by omega) L M
   obtain⟨v,k4,v1,v2,v3,v4⟩:=nx (R:=R) (N:=N) (t:=false) (o:=d) b (r+1) (by omega) (by omega) Y u3
   have wr:wrap .i64 (r+1)=r+1:=i64 (by omega)
   refine fin ⟨1,r,.of [] false false,0,u,v⟩ k4 (by unfold xP;simp[Sl.l]) v3 fun K=>?_
   rw[Eo];unfold Ty
   rw[show decide (((m+1:Nat):Int)>0)=true from decide_eq_true (by omega),ct,Fb,I,S,hs,show((0:Int)==0)=true from rfl,ct,Cu,u4,wr,v4,rm,ct,T,tk]
   rfl
  ·obtain⟨q',z,j,e1,e2,e3⟩:=lQ (R:=R) g b (gg:=gg) (d:=d) (r:=r) (i:=((m+1:Nat):Int)) (f:=C.length) (l:=C.flatMap CutD.av) (by omega) c.units.l.length 0 N L [] (by omega) (by omega) M (by simp) (.inl (by omega))
   refine fin ⟨0,r,.of q' false false,wrap .i64 (1+z),0,0⟩ j e1 e2 fun K=>?_
   rw[Eo];unfold Ty
   rw[show decide (((m+1:Nat):Int)>0)=true from decide_eq_true (by omega),ct,Fb,I,S,show(s==0)=false by simpa using hs,cf]
   have:=e3 (Eo N K gg c.av (Ah raw) raw.length d fuel) K
   rw[T,tk] at this
   exact this
theorem Ady {N:Nat} {c:CaseD} (g:CaseG N c) {raw:List Int} (b:raw.length≤9223372036854775807) {gg d t:Bool}:∃ (C:List CutD),C.length≤10∧(∀ x ∈ C,xP 100 x)∧∀ K:Nat→LA→O R,WY N c.av gg (Ah raw) raw.length t d K=K C.length (C.flatMap CutD.av):=by
 have hn:=g.n
 obtain⟨v,k,v1,v2,v3,v4⟩:=nx (R:=R) (N:=N) (t:=false) (o:=d) b 4 (by omega) (by omega) 0 (by omega)
 obtain⟨n,rfl⟩:∃ n:Nat,v=n:=⟨v.toNat,by omega⟩
 obtain⟨C,c1,c2,c3⟩:=pJ (R:=R) g b (gg:=gg) (d:=d) n N k [] (by omega) v3 (by omega) (by simp;omega) (by simp)
 refine⟨C,c1,c2,fun K=>?_⟩
 rw[du];unfold WX
 rw[FO];unfold WP
 exact(v4 _).trans (c3 K)
end
end Gx.Bl
namespace Gx.Bl
open Go Go.Proofs Gx.Cf
section
variable {R:Type}
abbrev RT (R:Type):=Nat→Nat→Nat→LA→LA→LA→Option R
theorem xR {N:Nat} (hN:4000≤N) {raw:List Int} (e:raw.length≤9223372036854775807) {a b:Bool} {k:Nat} (z:k≤raw.length):∃ (v:RatD) (j:Nat),(v.ok∧v.m≤4)∧j≤raw.length∧∀ K:LA→Int→O R,N5 N (Ah raw) raw.length a b (k:Int) K=K v.av (j:Int):=by
 obtain⟨x,A,x1,x2,x3,x4⟩:=nx (R:=R) (N:=N) (t:=a) (o:=b) e 12 (by omega) (by omega) k z
 obtain⟨y,s,y1,y2,y3,y4⟩:=nx (R:=R) (N:=N) (t:=a) (o:=b) e 3 (by omega) (by omega) A x3
 have small:∀ (p:Int) (q:Nat),p.natAbs<4294967296→q<4294967296→((Ac4 (mkRat p q)).ok∧(Ac4 (mkRat p q)).m≤4):=fun p q D hq=>by
  refine⟨Acn _,?_⟩
  have F:=Ae0 p q
  have G:(Bg p.natAbs).length≤1:=MD (by omega)
  have I:(Bg q).length≤1:=MD (by omega)
  rw[Aex];omega
 have u:wrap .i64 (x - 6)=x - 6:=i64 (by omega)
 have C:wrap .i64 (x - 6+1)=x - 6+1:=i64 (by omega)
 have w3:wrap .i64 (1+y)=1+y:=i64 (by omega)
 by_cases h:x - 6≥0
 ·refine⟨Ac4 (mkRat (x - 6+1) (1+y).natAbs),s,small _ _ (by omega) (by omega),y3,fun K=>?_⟩
  rw[M5];unfold Mq
  rw[x4,u,decide_eq_true h,ct,y4,C,w3,u7 (by omega) (by omega) hN];rfl
 ·refine⟨Ac4 (mkRat (x - 6) (1+y).natAbs),s,small _ _ (by omega) (by omega),y3,fun K=>?_⟩
  rw[M5];unfold Mq
  rw[x4,u,decide_eq_false h,cf,y4,w3,u7 (by omega) (by omega) hN];rfl
section tree
variable {N:Nat} {c:CaseD} {raw:List Int} {f d:Bool} {gg i:Nat} {l m:LA}
def DF (N:Nat) (c:CaseD) (raw:List Int) (f d:Bool) (gg i:Nat) (l m:LA) (P:List NodeD) (X:(Int→Int→Nat→LA→O R)→RT R→O R):Prop :=
 ∃ (q':Int) (k':Nat) (n:NodeD),u9 4 1000 n∧k'≤raw.length∧∀ (S:Int→Int→Nat→LA→O R) (K:RT R),X S K=S q' (k':Int) (P.length+1) ((P++[n]).flatMap NodeD.av)
theorem yU {P:List NodeD} (hP:P.length≤100) {an ad ap aq ar:Int} {k:Nat} (b:k≤raw.length) {E:List EntD} (hE:E.length≤1000∧∀ e ∈ E,Aft 4 e):DF (R:=R) N c raw f d gg i l m P (fun S K=>Oe N S K f c.av (Ah raw) raw.length d gg i l m an (k:Int) P.length ad ap aq ar E.length (P.flatMap NodeD.av) (E.flatMap EntD.av)):=by
 have rm:(ble (P.length+1) 140737488355328&&ble ((P.length+1)*56) 140737488355328)=true:=by simp;omega
 have e1:take (E.length*4) (E.flatMap EntD.av)=E.flatMap EntD.av:=Akt (by rw[CX Kc];exact Akw _)
 have j:take (P.length*5) (P.flatMap NodeD.av)=P.flatMap NodeD.av:=Akt (by rw[CX Ci];exact Akw _)
 have e3:P.flatMap NodeD.av++[.int .i64 ad,.int .i64 ap,.int .i64 aq,.int .i64 ar,.imm (E.flatMap EntD.av) E.length 4 false false]=(P++[(⟨ad,ap,aq,ar,.of E false false⟩:NodeD)]).flatMap NodeD.av:=by
  rw[Al5];rfl
 by_cases h:ad=0
 ·refine⟨wrap .i64 ((wrap .i64 (an - 1))+3),k,⟨ad,ap,aq,ar,.of E false false⟩,⟨hE.1,hE.2⟩,b,fun S K=>?_⟩
  unfold Oe
  dsimp only
  rw[show(ad==0)=true by simpa using h,ct,rm,ct,e1,j,e3]
 ·refine⟨wrap .i64 (an - 1),k,⟨ad,ap,aq,ar,.of E false false⟩,⟨hE.1,hE.2⟩,b,fun S K=>?_⟩
  unfold Oe
  dsimp only
  rw[show(ad==0)=false by simpa using h,cf,rm,ct,e1,j,e3]
theorem yV (hN:4000≤N) (s:raw.length≤9223372036854775807) {P:List NodeD} (hP:P.length≤100) {ae ai:Int}:∀ (af fuel k:Nat) (y:Int) (E:List EntD),af<fuel→k≤raw.length→E.length+af≤1000→(∀ e ∈ E,Aft 4 e) →
  DF (R:=R) N c raw f d gg i l m P (fun S K=>Ro N S K f c.av (Ah raw) raw.length d gg i l m fuel ae y (af:Int) (k:Int) P.length ai E.length (P.flatMap NodeD.av) (E.flatMap EntD.av))
 | 0,fuel+1,k,y,E,_,u,hE,A=>by
  obtain⟨C,D,n,n1,n2,n3⟩:=yU (R:=R) (N:=N) (c:=c) (raw:=raw) (f:=f) (d:=d) (gg:=gg) (i:=i) (l:=l) (m:=m) hP (an:=ae) (ad:=ai) (ap:=0) (aq:=0) (ar:=0) u (E:=E) ⟨by omega,A⟩
  refine⟨C,D,n,n1,n2,fun S K=>?_⟩
  dsimp only
  rw[Ro];unfold Zj
  rw[show decide (((0:Nat):Int)>0)=false from rfl,cf]
  exact n3 S K
 | af+1,fuel+1,k,y,E,I,u,hE,A=>by
  obtain⟨x,L,x1,x2,x3,x4⟩:=nx (R:=R) (N:=N) (t:=false) (o:=d) s 9 (by omega) (by omega) k u
  obtain⟨v,F,v1,v2,v3⟩:=xR (R:=R) hN s (a:=false) (b:=d) x3
  obtain⟨C,D,n,n1,n2,n3⟩:=yV hN s hP (ae:=ae) (ai:=ai) af fuel F (wrap .i64 (y+(wrap .i64 (1+x)))) (E++[⟨wrap .i64 (y+(wrap .i64 (1+x))),v⟩]) (by omega) v2 (by rw[Akx,Amm];omega) (fun e j=>by
   rcases Ak2.1 j with j | j
   ·exact A e j
   ·rw[Am9] at j;rw[j];exact v1)
  refine⟨C,D,n,n1,n2,fun S K=>?_⟩
  have G:wrap .i64 (((af+1:Nat):Int) - 1)=(af:Int):=by rw[i64 (by omega)];omega
  have e1:take (E.length*4) (E.flatMap EntD.av)=E.flatMap EntD.av:=Akt (by rw[CX Kc];exact Akw _)
  dsimp only
  rw[Ro];unfold Zj
  rw[show decide (((af+1:Nat):Int)>0)=true from decide_eq_true (by omega),ct,x4,v3,show((beq v.av.length 3)&&(ble 4 4))=true from rfl,ct]
  have es:∀ z:Int,setCells [(.int .i64 z),(.bool false),.nsl,.nsl] 1 v.av=EntD.av ⟨z,v⟩:=fun z=>rfl
  rw[es,show((beq (EntD.av ⟨wrap .i64 (y+wrap .i64 (1+x)),v⟩).length 4)&&(ble 4 4))=true from rfl,ct,show(ble (E.length+1) 140737488355328&&ble ((E.length+1)*64) 140737488355328)=true by simp;omega,ct,G,e1]
  have:=n3 S K
  rw[Akx,Al5] at this
  refine Apl ?_ this
  congr 1
theorem Adz (hN:4000≤N) (g:CaseG N c) (j:raw.length≤9223372036854775807) {P:List NodeD} (hP:P.length≤100) {z u:Int} {ba:Bool} {k:Nat} (s:k≤raw.length):DF (R:=R) N c raw f d gg i l m P (fun S K=>Lw N S K f c.av (Ah raw) raw.length d (k:Int) gg i l m z ba P.length u (P.flatMap NodeD.av)):=by
 have hh:=g.h;have L:=g.u
 have A:∀ (ap aq ar:Int) (k:Nat),k≤raw.length→DF (R:=R) N c raw f d gg i l m P (fun S K=>Oe N S K f c.av (Ah raw) raw.length d gg i l m z (k:Int) P.length u ap aq ar 0 (P.flatMap NodeD.av) []):=fun ap aq ar k s=>yU hP s (E:=[]) ⟨by simp,by simp⟩
 cases ba
 ·obtain⟨x,v,x1,x2,x3,x4⟩:=nx (R:=R) (N:=N) (t:=false) (o:=d) j 4 (by omega) (by omega) k s
  obtain⟨n,rfl⟩:∃ n:Nat,x=n:=⟨x.toNat,by omega⟩
  obtain⟨b,e,nn,n1,n2,n3⟩:=yV (R:=R) (c:=c) (f:=f) (d:=d) (gg:=gg) (i:=i) (l:=l) (m:=m) hN j hP (ae:=z) (ai:=u) n N v (-1) [] (by omega) x3 (by simp;omega) (by simp)
  refine⟨b,e,nn,n1,n2,fun S K=>?_⟩
  dsimp only
  unfold Lw Ox
  rw[cf,x4]
  exact n3 S K
 ·obtain⟨x,v,x1,x2,x3,x4⟩:=nx (R:=R) (N:=N) (t:=false) (o:=d) j (c.units.l.length:Int) (by omega) (by omega) k s
  by_cases C:u=3
  ·obtain⟨b,e,nn,n1,n2,n3⟩:=A x 0 0 v x3
   refine⟨b,e,nn,n1,n2,fun S K=>?_⟩
   dsimp only
   unfold Lw Ox
   rw[ct,Cu,x4,C,show((3:Int) != 3)=false from rfl,cf,show((3:Int)==4)=false from rfl,cf]
   rw[C] at n3
   exact n3 S K
  ·obtain⟨y,F,y1,y2,y3,y4⟩:=nx (R:=R) (N:=N) (t:=false) (o:=d) j c.hours (by omega) (by omega) v x3
   by_cases D:u=4
   ·obtain⟨w,G,M,O,w3,I⟩:=nx (R:=R) (N:=N) (t:=false) (o:=d) j (c.units.l.length:Int) (by omega) (by omega) F y3
    obtain⟨b,e,nn,n1,n2,n3⟩:=A x y w G w3
    refine⟨b,e,nn,n1,n2,fun S K=>?_⟩
    dsimp only
    unfold Lw Ox
    rw[ct,Cu,x4,D,show((4:Int) != 3)=true from rfl,ct,Fb,y4,show((4:Int)==4)=true from rfl,ct,Cu,I]
    rw[D] at n3
    exact n3 S K
   ·obtain⟨b,e,nn,n1,n2,n3⟩:=A x y 0 F y3
    refine⟨b,e,nn,n1,n2,fun S K=>?_⟩
    dsimp only
    unfold Lw Ox
    rw[ct,Cu,x4,show(u != 3)=true by simpa using C,ct,Fb,y4,show(u==4)=false by simpa using D,cf]
    exact n3 S K
theorem Ad0 (hN:4000≤N) (g:CaseG N c) (A:raw.length≤9223372036854775807) {P:List NodeD} (hP:P.length≤100) {al:Int} {k:Nat} (C:k≤raw.length):DF (R:=R) N c raw f d gg i l m P (fun S K=>Lx N S K f c.av (Ah raw) raw.length d gg i l m al (k:Int) P.length (P.flatMap NodeD.av)):=by
 obtain⟨x,b,x1,x2,x3,x4⟩:=nx (R:=R) (N:=N) (t:=false) (o:=d) A 7 (by omega) (by omega) k C
 obtain⟨n,rfl⟩:∃ n:Nat,x=n:=⟨x.toNat,by omega⟩
 have hn:n<7:=by omega
 have D:∀ v:Int,DF (R:=R) N c raw f d gg i l m P (fun S K=>Rp N S K f c.av (Ah raw) raw.length d (b:Int) gg i l m al P.length v (P.flatMap NodeD.av)):=fun v=>by
  have:∃ ba:Bool,∀ (S:Int→Int→Nat→LA→O R) (K:RT R),Rp N S K f c.av (Ah raw) raw.length d (b:Int) gg i l m al P.length v (P.flatMap NodeD.av)=Lw N S K f c.av (Ah raw) raw.length d (b:Int) gg i l m al ba P.length v (P.flatMap NodeD.av):=by
   unfold Rp LR
   cases h0:(v==0)
   ·cases I:(v==3)
    ·exact⟨v==4,fun S K=>rfl⟩
    ·exact⟨true,fun S K=>rfl⟩
   ·exact⟨true,fun S K=>rfl⟩
  obtain⟨ba,e⟩:=this
  obtain⟨j,s,nn,n1,n2,n3⟩:=Adz (R:=R) (f:=f) (d:=d) (gg:=gg) (i:=i) (l:=l) (m:=m) hN g A hP (z:=al) (u:=v) (ba:=ba) x3
  exact⟨j,s,nn,n1,n2,fun S K=>by dsimp only;rw[e];exact n3 S K⟩
 have pre:∃ v:Int,∀ (S:Int→Int→Nat→LA→O R) (K:RT R),Lx N S K f c.av (Ah raw) raw.length d gg i l m al (k:Int) P.length (P.flatMap NodeD.av)=Rp N S K f c.av (Ah raw) raw.length d (b:Int) gg i l m al P.length v (P.flatMap NodeD.av):=by
  have rd:∃ w:Int,∀ F:Int→O R,Ao .i64 (drop (0+((Int.toNat (n:Int))*1)) [(.int .i64 1),(.int .i64 0),(.int .i64 2),(.int .i64 0),(.int .i64 3),(.int .i64 4),(.int .i64 1)]) F=F w:=by
   rw[Aku,Ak6,Akz]
   rcases n with _ | _ | _ | _ | _ | _ | _ | n
   ·exact⟨_,fun F=>Afv⟩
   ·exact⟨_,fun F=>Afv⟩
   ·exact⟨_,fun F=>Afv⟩
   ·exact⟨_,fun F=>Afv⟩
   ·exact⟨_,fun F=>Afv⟩
   ·exact⟨_,fun F=>Afv⟩
   ·exact⟨_,fun F=>Afv⟩
   ·omega
  obtain⟨w,y⟩:=rd
  by_cases G:P.length>15
  ·by_cases h0:w=0
   ·refine⟨1,fun S K=>?_⟩
    unfold Lx Tz
    rw[x4,Ac hn,ct,y,show(decide ((P.length:Int)>15)==true)=true by simp;omega,ct,h0];rfl
   ·refine⟨w,fun S K=>?_⟩
    unfold Lx Tz
    rw[x4,Ac hn,ct,y,show(decide ((P.length:Int)>15)==true)=true by simp;omega,ct,show(w==0)=false by simpa using h0];rfl
  ·refine⟨w,fun S K=>?_⟩
   unfold Lx Tz
   rw[x4,Ac hn,ct,y,show(decide ((P.length:Int)>15)==true)=false by simp;omega,cf]
 obtain⟨v,e⟩:=pre
 obtain⟨j,s,nn,n1,n2,n3⟩:=D v
 exact⟨j,s,nn,n1,n2,fun S K=>by dsimp only;rw[e];exact n3 S K⟩
end tree
theorem zh {N:Nat} {c:CaseD} (hN:4000≤N) (g:CaseG N c) {raw:List Int} (j:raw.length≤9223372036854775807) {f d:Bool} {U:List (Int×Int)} {C:List CutD}:∀ (m fuel k:Nat) (q:Int) (P:List NodeD),P.length+m=30→m<fuel→k≤raw.length→(∀ n ∈ P,u9 4 1000 n) →
  ∃ P':List NodeD,P'.length≤30∧(∀ n ∈ P',u9 4 1000 n)∧∀ K:RT R,H0 N K f c.av (Ah raw) raw.length d U.length C.length (U.flatMap Qf) (C.flatMap CutD.av) fuel q (k:Int) P.length (P.flatMap NodeD.av)=K U.length C.length P'.length (U.flatMap Qf) (C.flatMap CutD.av) (P'.flatMap NodeD.av):=by
 intro m
 induction m with
 | zero =>
  intro fuel k q P s u e hP
  cases fuel with
  | zero=>omega
  | succ fuel =>
   refine⟨P,by omega,hP,fun K=>?_⟩
   rw[H0];unfold T0
   rw[show(cond true (decide ((P.length:Int)<30)) false:Bool)=false from decide_eq_false (by omega)]
   cases decide (q>0)<;>rfl
 | succ m v =>
  intro fuel k q P s u e hP
  cases fuel with
  | zero=>omega
  | succ fuel =>
   by_cases hq:q>0
   ·obtain⟨y,z,n,n1,n2,n3⟩:=Ad0 (R:=R) (f:=f) (d:=d) (gg:=U.length) (i:=C.length) (l:=U.flatMap Qf) (m:=C.flatMap CutD.av) hN g j (P:=P) (by omega) (al:=q) e
    obtain⟨P',A,D,F⟩:=v fuel z y (P++[n]) (by rw[Akx,Amm];omega) (by omega) n2 (fun x b=>by
     rcases Ak2.1 b with b | b
     ·exact hP x b
     ·rw[Am9] at b;rw[b];exact n1)
    refine⟨P',A,D,fun K=>?_⟩
    rw[H0];unfold T0
    rw[decide_eq_true hq,show((true:Bool)==true)=true from rfl,ct,show(cond true (decide ((P.length:Int)<30)) false:Bool)=true from decide_eq_true (by omega),ct]
    refine Apl (n3 (H0 N K f c.av (Ah raw) raw.length d U.length C.length (U.flatMap Qf) (C.flatMap CutD.av) fuel) K) ?_
    have:=F K
    rw[Akx] at this
    exact this
   ·refine⟨P,by omega,hP,fun K=>?_⟩
    rw[H0];unfold T0
    rw[decide_eq_false hq];rfl
theorem yW {N:Nat} {c:CaseD} (hN:1000001<N) (g:CaseG N c) {raw:List Int} (e:raw.length≤9223372036854775807) {f d t:Bool}:∃ (U:List (Int×Int)) (C:List CutD) (P:List NodeD),U.length≤1000∧C.length≤10∧(∀ x ∈ C,xP 100 x)∧P.length≤30∧(∀ n ∈ P,u9 4 1000 n)∧∀ K:RT R,NO N c.av f (Ah raw) raw.length t d K=K U.length C.length P.length (U.flatMap Qf) (C.flatMap CutD.av) (P.flatMap NodeD.av):=by
 obtain⟨U,u1,u2⟩:=Adx (R:=R) hN g (raw:=raw) (a:=false) (b:=d) (d:=f)
 obtain⟨C,c1,c2,c3⟩:=Ady (R:=R) g e (gg:=f) (d:=d) (t:=false)
 obtain⟨P,j,k,q⟩:=zh (R:=R) (by omega) g e (f:=f) (d:=d) (U:=U) (C:=C) 30 N 0 1 [] rfl (by omega) (by omega) (by simp)
 refine⟨U,C,P,u1,c1,c2,j,k,fun K=>?_⟩
 rw[dv];unfold W_
 rw[FO];unfold WP
 rw[Cc,ct,Be,u2,ct,c3]
 exact q K
theorem pK {N:Nat} (hN:4096≤N) {c:CaseD} (g:CY c):CaseG N c:=by
 have m:=Acq g
 refine⟨ze hN g,hN,zf g,m.h,m.u,?_⟩
 obtain⟨H,e,bs,ls,us,ss,ts,os,b,og,j,rfl⟩:=g
 have:=og.l
 show os.length≤100
 omega
end
end Gx.Bl
namespace Gx.Bl
open Go Go.Proofs Gx.Cf
section
variable {R:Type}
def zq (e:EntD):Bool:=decide (0≤e.i)&&(decide (e.i<16384)&&(e.v.q.num.sign != 0))
def n_ (l:List EntD):Bool:=CP (l.map (·.i))&&l.all zq
section
variable {N:Nat} {l:List EntD} {t o:Bool}
theorem bE {j:Nat} (h:j<l.length) {f:Int→O R}:Ao .i64 (drop ((Int.toNat (j:Int))*4) (l.flatMap EntD.av)) f=f (l[j]).i:=by
 rw[H7 Kc h];rfl
theorem Acr {j:Nat} (h:j<l.length):take 4 (drop ((Int.toNat (j:Int))*4) (l.flatMap EntD.av))=(l[j]).av:=by
 rw[H7 Kc h];rfl
theorem Ad1 {j:Nat} (h:j<l.length):ble 4 (drop ((Int.toNat (j:Int))*4) (l.flatMap EntD.av)).length=true:=by
 rw[H7 Kc h,Akx,Kc];simp
theorem Acs {j:Nat} (h:j<l.length) (b:l.length≤j+1):CP ((l.drop j).map (·.i))=true:=by
 rw[Bb h,Bn (by omega)];exact V4 _
theorem Acu {j:Nat} (h:j+1<l.length):CP ((l.drop j).map (·.i))=(decide ((l[j]'(by omega)).i<(l[j+1]).i)&&CP ((l.drop (j+1)).map (·.i))):=by
 rw[Bb (show j<l.length by omega),Bb h,Ak9,Ak9,O2]
theorem pL {K:Bool→O R} (hs:l.length<1000000000):∀ (m j fuel:Nat),j+1+m=l.length→m<fuel →
  Cj N K (l.flatMap EntD.av) l.length t o fuel ((j+1:Nat):Int)=K (CP ((l.drop j).map (·.i)))
 | 0,j,fuel+1,e,_=>by
  rw[Cj];unfold Fa
  rw[G3 (by omega),cf,Acs (by omega) (by omega)]
 | m+1,j,fuel+1,e,k=>by
  rw[Cj];unfold Fa
  have h:j+1<l.length:=by omega
  rw[F7 h,ct,Cf.LT (by omega),Ac (show j<l.length by omega),ct,bE (show j<l.length by omega),Ac h,ct,bE h,wS (by omega),pL hs m (j+1) fuel (by omega) (by omega),Acu h]
  by_cases b:(l[j]'(by omega)).i<(l[j+1]).i
  ·rw[decide_eq_false (by omega),cf,decide_eq_true b,Anb]
  ·rw[decide_eq_true (by omega),ct,decide_eq_false b,Ao2]
theorem zi {K:Bool→O R} (hs:l.length<1000000000) (hN:l.length+1<N):Ig N (l.flatMap EntD.av) l.length t o K=K (CP (l.map (·.i))):=by
 rw[Tk];unfold Ko
 rcases b:l with _ | ⟨a,r⟩
 ·obtain⟨n,rfl⟩:∃ n,N=n+1:=⟨N - 1,by omega⟩
  rw[Cj];unfold Fa
  rfl
 ·rw[←b]
  have:=pL (R:=R) (N:=N) (l:=l) (t:=t) (o:=o) (K:=K) hs (l.length - 1) 0 N (by rw[b];simp;omega) (by omega)
  simpa using this
theorem lR {K:Bool→O R} (hs:l.length<1000000000) (b:∀ e ∈ l,e.v.ok∧e.v.m≤1000) (hN:1000000≤N):∀ (m j fuel:Nat),j+m=l.length→m<fuel →
  Fl N K 16384 (l.flatMap EntD.av) l.length t o fuel (l.length:Int) (j:Int)=K ((l.drop j).all zq)
 | 0,j,fuel+1,D,_=>by
  rw[Fl];unfold Mj
  rw[G3 (by omega),cf,Bn (by omega)];rfl
 | m+1,j,fuel+1,D,G=>by
  rw[Fl];unfold Mj
  have h:j<l.length:=by omega
  have u:=b _ (Ak3 h)
  have y:∀ F:Int→O R,Ao .i64 (l[j]).av F=F (l[j]).i:=fun F=>rfl
  rw[F7 h,ct,Ac h,ct,Ad1 h,ct,Acr h,show((beq 0 0)&&((beq ((l[j]).av.length) 4)&&(beq 4 4)))=true from rfl,ct,y,y,
   show ble 3 (drop 1 (l[j]).av).length=true from rfl,ct,show take 3 (drop 1 (l[j]).av)=(l[j]).v.av from rfl,xN u.1 ⟨by have:=u.2;omega,by have:=u.2;omega⟩,wS (by omega),lR hs b hN m (j+1) fuel (by omega) (by omega),Bb h,Ale]
  generalize (l.drop (j+1)).all zq=z
  unfold zq
  generalize (l[j]).v.q.num.sign=s
  by_cases A:(l[j]).i<0
  ·rw[decide_eq_true A,decide_eq_false (show ¬ 0≤(l[j]).i by omega)];rfl
  ·rw[decide_eq_false A,decide_eq_true (show 0≤(l[j]).i by omega)]
   by_cases C:(l[j]).i<16384
   ·rw[decide_eq_false (show ¬ (l[j]).i≥16384 by omega),decide_eq_true C]
    show cond (cond false true (s==0)) (K false) (K z)=K ((s != 0)&&z)
    cases k:s==0 with
    | true=>rw[show(s != 0)=false by simp[bne,k]];rfl
    | false=>rw[show(s != 0)=true by simp[bne,k]];rfl
   ·rw[decide_eq_true (show(l[j]).i≥16384 by omega),decide_eq_false C];rfl
theorem xS {K:Bool→O R} (hs:l.length<1000000) (b:∀ e ∈ l,e.v.ok∧e.v.m≤1000) (hN:10000000≤N):Pq N (l.flatMap EntD.av) l.length t o 16384 K=K (n_ l):=by
 rw[BW];unfold Sg
 rw[zi (by omega) (by omega)]
 unfold n_
 have:=lR (R:=R) (N:=N) (l:=l) (t:=t) (o:=o) (K:=K) (by omega) b (by omega) l.length 0 N (by omega) (by omega)
 rw[Ak7] at this
 cases CP (l.map (·.i)) with
 | true=>exact this
 | false=>rfl
def Ah3:Option Int→Int→Bool
 | none,_=>true
 | some a,b=>decide (a<b)
def vr:Option Int→List EntD→Bool
 | _,[]=>true
 | p,e::r=>zq e&&(Ah3 p e.i&&vr (some e.i) r)
theorem r7 (p:Option Int) (e:EntD) (r:List EntD):vr p (e::r)=(zq e&&(Ah3 p e.i&&vr (some e.i) r)):=by cases p<;>rfl
theorem Afw (p:Option Int):vr p []=true:=by cases p<;>rfl
theorem yX:∀ (l:List EntD) (a:Int),vr (some a) l=(CP (a::l.map (·.i))&&l.all zq)
 | [],a=>by rw[vr,Anh,V4];rfl
 | e::r,a=>by
  rw[r7,yX r e.i,show Ah3 (some a) e.i=decide (a<e.i) from rfl,Ak9,O2,Ale]
  generalize zq e=x;generalize CP (e.i::r.map (·.i))=y;generalize r.all zq=z;generalize decide (a<e.i)=u
  cases x<;>cases y<;>cases z<;>cases u<;>rfl
theorem Ad2 (l:List EntD):vr none l=n_ l:=by
 cases l with
 | nil=>rw[vr,n_,Anh,NQ];rfl
 | cons e r =>
  rw[r7,yX,n_,Ak9,Ale]
  generalize zq e=x;generalize CP (e.i::r.map (·.i))=y;generalize r.all zq=z;rw[show Ah3 none e.i=true from rfl]
  cases x<;>cases y<;>cases z<;>rfl
def pM (l:List EntD):Nat→Option Int
 | 0=>none
 | j+1=>(l[j]?).map (·.i)
theorem pN {K:Bool→O R} (hs:l.length<1000000) (b:∀ e ∈ l,e.v.ok∧e.v.m≤1000) (hN:1000000≤N):∀ (m j fuel:Nat),j+m=l.length→m<fuel →
  Hy N K (l.flatMap EntD.av) l.length t o fuel (j:Int)=K (vr (pM l j) (l.drop j))
 | 0,j,fuel+1,F,_=>by
  rw[Hy];unfold P3
  rw[G3 (by omega),cf,Bn (by omega),Afw]
 | m+1,j,fuel+1,F,I=>by
  rw[Hy];unfold P3
  have h:j<l.length:=by omega
  have u:=b _ (Ak3 h)
  have l3:ble 3 (drop 1 (drop ((Int.toNat (j:Int))*4) (l.flatMap EntD.av))).length=true:=by
   rw[H7 Kc h,Am0,Akx,Kc];simp
  have t3:take 3 (drop 1 (drop ((Int.toNat (j:Int))*4) (l.flatMap EntD.av)))=(l[j]).v.av:=by rw[H7 Kc h];rfl
  have G:pM l (j+1)=some (l[j]).i:=by rw[pM,Aky h];rfl
  rw[F7 h,ct,Ac h,ct,bE h,ct,bE h,l3,ct,t3,u6 u.1 ⟨by have:=u.2;omega,by have:=u.2;omega⟩,wS (by omega),pN hs b hN m (j+1) fuel (by omega) (by omega),Bb h,r7,G]
  generalize vr (some (l[j]).i) (l.drop (j+1))=z
  unfold zq
  generalize (l[j]).v.q.num.sign=s
  have sg:cond (cond false true (s==0)) (K false) (K z)=K ((s != 0)&&z):=by
   cases k:s==0 with
   | true=>rw[show(s != 0)=false by simp[bne,k]];rfl
   | false=>rw[show(s != 0)=true by simp[bne,k]];rfl
  by_cases A:(l[j]).i<0
  ·rw[decide_eq_true A,decide_eq_false (show ¬ 0≤(l[j]).i by omega)];rfl
  ·rw[decide_eq_false A,decide_eq_true (show 0≤(l[j]).i by omega)]
   by_cases C:(l[j]).i<16384
   ·rw[decide_eq_false (show ¬ (l[j]).i≥16384 by omega),decide_eq_true C]
    rcases j with _ | j
    ·show cond (cond false true (s==0)) (K false) (K z)=K ((true&&(true&&(s != 0)))&&(true&&z))
     rw[sg];simp
    ·have h':j<l.length:=by omega
     have y:pM l (j+1)=some (l[j]).i:=by rw[pM,Aky h'];rfl
     rw[decide_eq_true (show(((j+1:Nat):Int))>0 by omega),Cf.LT (by omega),y,show Ah3 (some (l[j]).i) (l[j+1]).i=decide ((l[j]).i<(l[j+1]).i) from rfl]
     show cond (Af (j:Int) l.length) (Ao .i64 (drop ((Int.toNat (j:Int))*4) (l.flatMap EntD.av)) _) none=_
     rw[Ac h',ct,bE h']
     rw[ct,bE h]
     by_cases D:(l[j]).i<(l[j+1]).i
     ·rw[decide_eq_false (show ¬ (l[j]).i≥(l[j+1]).i by omega),decide_eq_true D]
      show cond (cond false true (s==0)) (K false) (K z)=_
      rw[sg];simp
     ·rw[decide_eq_true (show(l[j]).i≥(l[j+1]).i by omega),decide_eq_false D]
      show K false=_
      simp
   ·rw[decide_eq_true (show(l[j]).i≥16384 by omega),decide_eq_false C];rfl
theorem zj {K:Bool→O R} (hs:l.length<1000000) (b:∀ e ∈ l,e.v.ok∧e.v.m≤1000) (hN:10000000≤N):Xi N (l.flatMap EntD.av) l.length t o K=K (n_ l):=by
 rw[LC];unfold Y7
 have:=pN (R:=R) (N:=N) (l:=l) (t:=t) (o:=o) (K:=K) hs b (by omega) l.length 0 N (by omega) (by omega)
 rw[Ak7,show pM l 0=none from rfl,Ad2] at this
 exact this
end
def N' (v n:Int):Bool:=decide (0≤v)&&decide (v<n)
def zr (c:CaseD) (n:NodeD):Bool :=
 cond (n.kind==0) (N' n.unit c.units.l.length&&(N' n.hour c.hours&&((n.other==0)&&decide (n.y.l.length=0))))
 (cond ((n.kind==1)||(n.kind==2)) ((n.unit==0)&&((n.hour==0)&&((n.other==0)&&n_ n.y.l)))
 (cond (n.kind==3) (N' n.unit c.units.l.length&&((n.hour==0)&&((n.other==0)&&decide (n.y.l.length=0))))
 (cond (n.kind==4) (N' n.unit c.units.l.length&&(N' n.hour c.hours&&(N' n.other c.units.l.length&&decide (n.y.l.length=0)))) false)))
structure NodeB (n:NodeD):Prop where
 y:n.y.l.length<1000000
 e:∀ e ∈ n.y.l,e.v.ok∧e.v.m≤1000
section
variable {N:Nat} {c:CaseD} {n:NodeD} {t o:Bool}
theorem zk {F:LA→Nat→O R}:Ba 4 (drop 4 n.av) F=F (n.y.l.flatMap EntD.av) n.y.l.length:=by
 show Ba 4 (n.y.av 4 EntD.av::[]) F=_
 rw[Cy]
theorem SH {b:Bool} {v m:Int} {K:Bool→O R}:Pp N b v m K=K (cond b (N' v m) (v==0)):=by
 rw[VM];unfold aC N'
 cases b with
 | false=>rfl
 | true =>
  by_cases h:0≤v
  ·rw[decide_eq_true (show v≥0 from h)];rfl
  ·rw[decide_eq_false (show ¬ v≥0 from h)];rfl
def Acv (k:Int):Option (Bool×Bool×Bool×Bool):=cond (k==0) (some (true,true,false,false)) (cond ((k==1)||(k==2)) (some (false,false,false,true)) (cond (k==3) (some (true,false,false,false)) (cond (k==4) (some (true,true,true,false)) none)))
def lS (f:Bool×Bool×Bool×Bool):LA:=[.bool f.1,.bool f.2.1,.bool f.2.2.1,.bool f.2.2.2]
theorem zl {k:Int} {K:LA→Bool→O R}:Wb N k K=match Acv k with | some f=>K (lS f) true | none=>K (lS (false,false,false,false)) false:=by
 rw[PW];unfold EU Vp Acv
 cases k==0 with
 | true=>rfl
 | false=>cases k==1 with
  | true=>rfl
  | false=>cases k==2 with
   | true=>rfl
   | false=>cases k==3 with
    | true=>rfl
    | false=>cases k==4<;>rfl
theorem lT {l:List EntD} (h:l.length=0):n_ l=true:=by rw[Amj h];rfl
theorem Ad3 {f:Bool×Bool×Bool×Bool} {K:Bool→O R} (b:NodeB n) (hN:10000000≤N):Cs N K t c.av o n.av (lS f) =
  K (cond f.1 (N' n.unit c.units.l.length) (n.unit==0)&&(cond f.2.1 (N' n.hour c.hours) (n.hour==0)&&(cond f.2.2.1 (N' n.other c.units.l.length) (n.other==0)&&n_ n.y.l))):=by
 unfold Cs
 rw[Cu]
 show Pp N f.1 n.unit _ _=_
 rw[SH]
 cases cond f.1 (N' n.unit c.units.l.length) (n.unit==0) with
 | false=>rfl
 | true =>
  show Ao .i64 c.av (fun m=>Pp N f.2.1 n.hour m _)=_
  rw[Fb,SH]
  cases cond f.2.1 (N' n.hour c.hours) (n.hour==0) with
  | false=>rfl
  | true =>
   show Pp N f.2.2.1 n.other _ _=_
   rw[SH]
   cases cond f.2.2.1 (N' n.other c.units.l.length) (n.other==0) with
   | false=>rfl
   | true =>
    rw[show((cond true true false)==true)=true from rfl,ct,zk,xS b.y b.e hN];rfl
theorem Ad4 {K:Bool→O R} (b:NodeB n) (hN:10000000≤N):Ni N c.av t n.av o K=K (zr c n):=by
 rw[Yy];unfold Pr
 show Wb N n.kind _=_
 rw[zl]
 have tl:=fun f=>Ad3 (R:=R) (t:=t) (o:=o) (c:=c) (f:=f) (K:=K) b hN
 have noy:∀ F:O R,Ba 4 (drop 4 n.av) (fun _ y=>cond (cond false true (cond true (decide ((y:Int)>0)) false)) (K false) F)=cond (decide (n.y.l.length=0)) F (K false):=fun F=>by
  rw[zk]
  by_cases h:n.y.l.length=0
  ·rw[decide_eq_true h,decide_eq_false (show ¬ (n.y.l.length:Int)>0 by omega)];rfl
  ·rw[decide_eq_false h,decide_eq_true (show(n.y.l.length:Int)>0 by omega)];rfl
 unfold Acv zr
 cases n.kind==0 with
 | true =>
  show Ba 4 (drop 4 n.av) (fun _ y=>cond (cond false true (cond true (decide ((y:Int)>0)) false)) (K false) (Cs N K t c.av o n.av (lS (true,true,false,false))))=_
  rw[noy,tl]
  by_cases h:n.y.l.length=0
  ·rw[decide_eq_true h,lT h];rfl
  ·rw[decide_eq_false h];simp
 | false=>cases e:(n.kind==1)||(n.kind==2) with
  | true =>
   show Cs N K t c.av o n.av (lS (false,false,false,true))=_
   rw[tl];rfl
  | false=>cases n.kind==3 with
   | true =>
    show Ba 4 (drop 4 n.av) (fun _ y=>cond (cond false true (cond true (decide ((y:Int)>0)) false)) (K false) (Cs N K t c.av o n.av (lS (true,false,false,false))))=_
    rw[noy,tl]
    by_cases h:n.y.l.length=0
    ·rw[decide_eq_true h,lT h];rfl
    ·rw[decide_eq_false h];simp
   | false=>cases n.kind==4 with
    | true =>
     show Ba 4 (drop 4 n.av) (fun _ y=>cond (cond false true (cond true (decide ((y:Int)>0)) false)) (K false) (Cs N K t c.av o n.av (lS (true,true,true,false))))=_
     rw[noy,tl]
     by_cases h:n.y.l.length=0
     ·rw[decide_eq_true h,lT h];rfl
     ·rw[decide_eq_false h];simp
    | false=>rfl
theorem Acw {l:Nat}:cond true ((l:Int)==0) false=decide (l=0):=by
 by_cases h:l=0
 ·rw[decide_eq_true h,h];rfl
 ·rw[decide_eq_false h,show((l:Int)==0)=false by rw[beq_eq_false_iff_ne];omega];rfl
theorem xT {K:Bool→O R} (u:NodeB n) (hN:10000000≤N):LD N c.av t n.av o K=K (zr c n):=by
 have main:∀ e f:Bool,e=N' n.unit c.units.l.length→f=N' n.hour c.hours→Hj N K t c.av o n.av e f=K (zr c n):=by
  rintro e f z A
  unfold Hj FK zr
  rw[←z,←A]
  show cond (n.kind==0) _ _=_
  cases n.kind==0 with
  | true =>
   cases e<;>cases f<;>try rfl
   show cond ((cond true (n.other==0) false)==true) (Ba 4 (drop 4 n.av) _) _=_
   rw[zk,Acw]
   cases n.other==0<;>rfl
  | false =>
   have s:(h:((n.kind==1)||(n.kind==2))=true)→∀ b:Bool,b=true→Lp N K e f n.kind t c.av o n.av b=K ((n.unit==0)&&((n.hour==0)&&((n.other==0)&&n_ n.y.l))):=by
    rintro _ b rfl
    unfold Lp
    show cond ((n.unit==0)==true) _ _=_
    cases n.unit==0 with
    | false=>rfl
    | true =>
     show cond ((cond true (n.hour==0) false)==true) _ _=_
     cases n.hour==0 with
     | false=>rfl
     | true =>
      show cond ((cond true (n.other==0) false)==true) _ _=_
      cases n.other==0 with
      | false=>rfl
      | true =>
       rw[show((cond true true false)==true)=true from rfl,ct,zk,zj u.y u.e hN];rfl
   show cond (n.kind==1) (Lp N K e f n.kind t c.av o n.av (n.kind==1)) (Lp N K e f n.kind t c.av o n.av (n.kind==2))=_
   cases q:n.kind==1 with
   | true=>exact s (by rw[q];rfl) true rfl
   | false=>cases k:n.kind==2 with
    | true=>exact s (by rw[k];simp) true rfl
    | false =>
     unfold Lp
     show cond (n.kind==3) _ _=_
     cases n.kind==3 with
     | true =>
      cases e with
      | false=>rfl
      | true =>
       show cond ((cond true (n.hour==0) false)==true) _ _=_
       cases n.hour==0 with
       | false=>rfl
       | true =>
        show cond ((cond true (n.other==0) false)==true) (Ba 4 (drop 4 n.av) _) _=_
        rw[zk,Acw]
        cases n.other==0<;>rfl
     | false =>
      show cond (n.kind==4) _ _=_
      cases n.kind==4 with
      | false=>rfl
      | true =>
       cases e with
       | false=>rfl
       | true=>cases f with
        | false=>rfl
        | true =>
         show cond ((cond true (decide (n.other≥0)) false)==true) (Ba 22 (drop 4 c.av) fun _ w=>cond ((cond true (decide (n.other<(w:Int))) false)==true) (Ba 4 (drop 4 n.av) _) _) _=_
         rw[Cu,zk,Acw]
         unfold N'
         by_cases v:0≤n.other
         ·rw[decide_eq_true (show n.other≥0 from v)]
          cases decide (n.other<(c.units.l.length:Int))<;>rfl
         ·rw[decide_eq_false (show ¬ n.other≥0 from v)];rfl
 rw[WE];unfold NI
 show cond ((decide (n.unit≥0))==true) (Ba 22 (drop 4 c.av) fun _ j=>cond ((decide (n.hour≥0))==true) (Ao .i64 c.av fun ad=>Hj N K t c.av o n.av (cond true (decide (n.unit<(j:Int))) false) (cond true (decide (n.hour<ad)) false)) (Hj N K t c.av o n.av (cond true (decide (n.unit<(j:Int))) false) false))
  (cond ((decide (n.hour≥0))==true) (Ao .i64 c.av fun ag=>Hj N K t c.av o n.av false (cond true (decide (n.hour<ag)) false)) (Hj N K t c.av o n.av false false))=_
 rw[Cu,Fb,Fb]
 unfold N' at main
 by_cases q:0≤n.unit
 ·rw[decide_eq_true (show n.unit≥0 from q)]
  by_cases k:0≤n.hour
  ·rw[decide_eq_true (show n.hour≥0 from k)]
   exact main _ _ (by rw[decide_eq_true q];rfl) (by rw[decide_eq_true k];rfl)
  ·rw[decide_eq_false (show ¬ n.hour≥0 from k)]
   exact main _ _ (by rw[decide_eq_true q];rfl) (by rw[decide_eq_false k];rfl)
 ·rw[decide_eq_false (show ¬ n.unit≥0 from q)]
  by_cases k:0≤n.hour
  ·rw[decide_eq_true (show n.hour≥0 from k)]
   exact main _ _ (by rw[decide_eq_false q];rfl) (by rw[decide_eq_true k];rfl)
  ·rw[decide_eq_false (show ¬ n.hour≥0 from k)]
   exact main _ _ (by rw[decide_eq_false q];rfl) (by rw[decide_eq_false k];rfl)
end
end
end Gx.Bl
namespace Gx.Bl
open Go Go.Proofs Gx.Cf Go.Proofs.Bw
def Kl:Nat→List Nd→Option (List Nd)
 | 0,l=>some l
 | _+1,[]=>none
 | m+1,n::l=>Kl (m+cond (n.1==0) 3 0) l
theorem Rw (l:List Nd):Kl 0 l=some l:=by cases l<;>rfl
theorem lU:∀ (l:List Nd) (a b:Nat),Kl (a+b) l=(Kl a l).bind (Kl b)
 | l,0,b=>by rw[Akz,Rw];rfl
 | [],a+1,b=>by rw[show a+1+b=(a+b)+1 by omega];rfl
 | n::l,a+1,b=>by
  rw[show a+1+b=(a+b)+1 by omega,Kl,Kl,show a+b+cond (n.1==0) 3 0=(a+cond (n.1==0) 3 0)+b by omega]
  exact lU l _ b
theorem GI:∀ (l:List Nd) (o:Nat),Ei o l=decide (Kl o l=some [])
 | [],0=>by simp[Ei,Kl]
 | n::l,0=>by simp[Ei,Kl]
 | [],o+1=>by simp[Ei,Kl]
 | n::l,o+1=>by rw[Ei,Kl];exact GI l _
theorem MG:∀ (l:List Nd) (m:Nat) (r:List Nd),Kl m l=some r→∃ k,k≤l.length∧r=l.drop k
 | l,0,r,h=>by rw[Rw] at h;cases h;exact⟨0,by omega,rfl⟩
 | [],m+1,r,h=>by cases h
 | n::l,m+1,r,h=>by
  rw[Kl] at h
  obtain⟨k,b,rfl⟩:=MG l _ r h
  exact⟨k+1,by simp;omega,rfl⟩
def Bx (n:NodeD):Nd:=(n.kind,n.unit,n.hour)
def L7 (L:List Nd) (m a:Nat):Int:=match Kl m (L.drop a) with
 | some r=>((L.length - r.length:Nat):Int)
 | none=>-1
theorem bF {L:List Nd} {m a:Nat} {r:List Nd} (h:Kl m (L.drop a)=some r) (j:a≤L.length):∃ b,a≤b∧b≤L.length∧r=L.drop b∧L7 L m a=(b:Int):=by
 obtain⟨k,e,rfl⟩:=MG _ _ _ h
 rw[Am0] at e
 refine⟨a+k,by omega,by omega,by rw[An9],?_⟩
 unfold L7;rw[h]
 simp only[Am0];omega
theorem pO {f:Int→Option Int} {L:List Nd} (lo:Nat) (s:∀ a:Nat,lo≤a→a≤L.length→f (a:Int)=some (L7 L 1 a)):∀ (m a:Nat),lo≤a→a≤L.length→tj f m (a:Int)=some (L7 L m a)
 | 0,a,h0,j=>by
  unfold tj L7;rw[Rw];simp only[Am0];congr 1;omega
 | m+1,a,h0,j=>by
  unfold tj
  rw[decide_eq_false (by omega),cond_false,s a h0 j]
  have e:Kl (m+1) (L.drop a)=(Kl 1 (L.drop a)).bind (Kl m):=by rw[Aou,lU]
  cases hr:Kl 1 (L.drop a) with
  | none =>
   have e1:L7 L 1 a=-1:=by unfold L7;rw[hr]
   have u:L7 L (m+1) a=-1:=by unfold L7;rw[e,hr];rfl
   rw[e1,u,Alj]
   cases m with
   | zero=>rfl
   | succ m=>unfold tj;rfl
  | some r =>
   obtain⟨b,v,k,rfl,q⟩:=bF hr j
   rw[q,Alj,pO lo s m b (by omega) k]
   unfold L7;rw[e,hr];rfl
section
variable {R:Type} {N:Nat} {l:List NodeD}
theorem r8 {j:Nat} (h:j<l.length) {f:Int→O R}:Ao .i64 (drop ((Int.toNat (j:Int))*5) (l.flatMap NodeD.av)) f=f (l[j]).kind:=by
 rw[H7 Ci h];rfl
theorem DG {j:Nat} (h:j<l.length):take 5 (drop ((Int.toNat (j:Int))*5) (l.flatMap NodeD.av))=(l[j]).av:=by
 rw[H7 Ci h];rfl
theorem MH {j:Nat} (h:j<l.length):ble 5 (drop ((Int.toNat (j:Int))*5) (l.flatMap NodeD.av)).length=true:=by
 rw[H7 Ci h,Akx,Ci];simp
theorem pP (q:l.length≤1000000):∀ (d a:Nat),l.length - a<d→a≤l.length→fU d (l.flatMap NodeD.av) l.length (a:Int)=some (L7 (l.map Bx) 1 a)
 | 0,a,h,_=>by omega
 | d+1,a,h,u=>by
  rw[fU,decide_eq_false (show ¬ (a:Int)<0 by omega)]
  by_cases e:a<l.length
  ·rw[decide_eq_false (show ¬ (l.length:Int)≤(a:Int) by omega),Bool.or_false,cond_false,r8 e,wS (by omega)]
   have j:(l.map Bx).drop a=Bx l[a]::(l.map Bx).drop (a+1):=by rw[Aln (by simpa using e)];simp
   cases k:(l[a]).kind != 0 with
   | true =>
    rw[cond_true]
    unfold L7
    rw[j,Kl,show((Bx l[a]).1==0)=false by show((l[a]).kind==0)=false;simpa[bne] using k]
    show _=some (match Kl 0 _ with | some r=>_ | none=>_)
    rw[Rw]
    simp only[Am0,Ana]
    congr 1;omega
   | false =>
    rw[cond_false,pO (L:=l.map Bx) (a+1) (fun b v s=>?_) 3 (a+1) (Akw _) (by simp;omega)]
    ·unfold L7
     rw[j,Kl,show((Bx l[a]).1==0)=true by show((l[a]).kind==0)=true;simpa[bne] using k]
     rfl
    ·exact pP q d b (by omega) (by simpa using s)
  ·rw[decide_eq_true (show(l.length:Int)≤(a:Int) by omega),Ama,cond_true]
   unfold L7
   rw[Amf (by simp;omega)];rfl
theorem u_ {t o:Bool} {a:Nat} {K:Int→O R} (b:l.length≤1000000) (hN:1000000<N) (e:a≤l.length):VT N (l.flatMap NodeD.av) l.length t o (a:Int) K=K (L7 (l.map Bx) 1 a):=by
 rw[Yz];unfold VS eZ
 rw[pP b N a (by omega) e];rfl
end
noncomputable def Nr (c:CaseD) (x:LogD):Int:=cond (A8 (D9 c) != 0) (A8 (D9 c)) (cond (decide (x.cuts.l.length≤256)&&decide (x.nodes.l.length≤4096)) (cond (x.nodes.l.all (zr c)&&Ei 1 (x.nodes.l.map Bx)) 0 73) 8)
structure LogB (x:LogD):Prop where
 n:x.nodes.l.length≤100000
 b:∀ n ∈ x.nodes.l,NodeB n
section
variable {R:Type} {N:Nat} {c:CaseD} {x:LogD} {t o:Bool}
theorem yY {F:LA→Nat→O R}:Ba 6 (drop 1 x.av) F=F (x.cuts.l.flatMap CutD.av) x.cuts.l.length:=by
 show Ba 6 (x.cuts.av 6 CutD.av::_) F=_
 rw[Cy]
theorem Eh {F:LA→Nat→O R}:Ba 5 (drop 2 x.av) F=F (x.nodes.l.flatMap NodeD.av) x.nodes.l.length:=by
 show Ba 5 (x.nodes.av 5 NodeD.av::_) F=_
 rw[Cy]
theorem Ae1:((beq ((w3 (D9 c)).length) 3)&&((ble 3 3)&&(!false)))=true:=by cases D9 c<;>rfl
theorem lV {K:Int→O R} {l:List NodeD} (e:l.length≤100000) (b:∀ n ∈ l,NodeB n) (hN:10000000≤N):∀ (m j fuel p:Nat),j+m=l.length→m<fuel→p≤1+2*j →
  Ot N K (l.flatMap NodeD.av) l.length t o c.av fuel (p:Int) (l.length:Int) (j:Int)=K (cond ((l.drop j).all (zr c)&&Ei p ((l.drop j).map Bx)) 0 73)
 | 0,j,fuel+1,p,k,_,q=>by
  rw[Ot];unfold Vq
  rw[G3 (by omega),cf,Bn (by omega)]
  cases p with
  | zero=>rfl
  | succ p=>rw[show(((p+1:Nat):Int) != 0)=true by simp;omega];rfl
 | m+1,j,fuel+1,p,k,u,q=>by
  rw[Ot];unfold Vq
  have h:j<l.length:=by omega
  have s:=b _ (Ak3 h)
  rw[F7 h,ct,Ac h,ct,MH h,ct,DG h,show((beq 0 0)&&((beq ((l[j]).av.length) 5)&&(beq 5 5)))=true from rfl,ct,Bb h,Ale,Ak9]
  cases p with
  | zero=>rw[show Ei 0 (Bx l[j]::List.map Bx (drop (j+1) l))=false from rfl,Bool.and_false];rfl
  | succ p =>
   rw[show((((p+1:Nat):Int)==0)==false)=true by rw[show((((p+1:Nat):Int))==0)=false by rw[beq_eq_false_iff_ne];omega];rfl,ct,Cc,ct,show ble 5 (l[j]).av.length=true from rfl,ct,Be,show take 5 (l[j]).av=(l[j]).av from rfl,Ad4 s hN]
   cases zr c l[j] with
   | false=>rfl
   | true =>
    show Ao .i64 (l[j]).av _=_
    show cond ((l[j]).kind==0) _ _=_
    rw[show wrap .i64 (((p+1:Nat):Int) - 1)=(p:Int) by rw[Gx.i64 (by omega)];omega,show wrap .i64 ((p:Int)+3)=((p+3:Nat):Int) by rw[Gx.i64 (by omega)];omega,wS (by omega),Ei,Anb]
    show cond ((l[j]).kind==0) _ _=K (cond (_&&Ei (p+cond ((l[j]).kind==0) 3 0) _) 0 73)
    cases (l[j]).kind==0 with
    | true=>exact lV e b hN m (j+1) fuel (p+3) (by omega) (by omega) (by omega)
    | false=>exact lV e b hN m (j+1) fuel p (by omega) (by omega) (by omega)
theorem GJ {K:Int→O R} (hs:Small c N) (e:LogB x) (hN:10000000≤N):Ps N c.av t x.av o K=K (Nr c x):=by
 rw[VN];unfold NF Nr
 rw[Cc,ct,Be,n9 hs,Ae1,ct]
 cases A8 (D9 c) != 0 with
 | true=>rfl
 | false =>
  rw[cf,cond_false,yY,Eh]
  by_cases j:x.cuts.l.length≤256
  ·rw[decide_eq_false (show ¬ (x.cuts.l.length:Int)>256 by omega),decide_eq_true j]
   by_cases k:x.nodes.l.length≤4096
   ·rw[decide_eq_false (show ¬ (x.nodes.l.length:Int)>4096 by omega),decide_eq_true k]
    show Tl N K t c.av o x.av=_
    unfold Tl EX
    rw[Eh]
    have:=lV (R:=R) (K:=K) (c:=c) (t:=o) (o:=t) (l:=x.nodes.l) e.n e.b hN x.nodes.l.length 0 N 1 (by omega) (by have:=e.n;omega) (by omega)
    rw[Ak7] at this
    exact this
   ·rw[decide_eq_true (show(x.nodes.l.length:Int)>4096 by omega),decide_eq_false k];rfl
  ·rw[decide_eq_true (show(x.cuts.l.length:Int)>256 by omega),decide_eq_false j];rfl
theorem pQ {K:Int→O R} (k:LogB x) (hN:10000000≤N):∀ (m j fuel:Nat),j+m=x.nodes.l.length→m<fuel →
  Ml N K t c.av o x.av fuel (j:Int)=K (cond ((x.nodes.l.drop j).all (zr c)&&Ei 1 (x.nodes.l.map Bx)) 0 73)
 | 0,j,fuel+1,v,_=>by
  rw[Ml];unfold Sy
  rw[Eh,G3 (by omega),cf,Eh,Eh,show x.nodes.l.drop j=[] from Bn (by omega)]
  show _=K (cond (Ei 1 (x.nodes.l.map Bx)) 0 73)
  by_cases h0:x.nodes.l.length=0
  ·rw[h0,Amj h0];rfl
  ·rw[show(((x.nodes.l.length:Int)==0)==false)=true by rw[show((x.nodes.l.length:Int)==0)=false by rw[beq_eq_false_iff_ne];omega];rfl,ct]
   have e:=u_ (R:=R) (N:=N) (l:=x.nodes.l) (t:=false) (o:=o) (a:=0) (K:=fun q=>Ba 5 (x.av.drop 2) fun _ r=>cond (cond false true (q != (r:Int))) (K 73) (K 0)) (by have:=k.n;omega) (by omega) (by omega)
   refine e.trans ?_
   rw[Eh,GI]
   by_cases s:Kl 1 (x.nodes.l.map Bx)=some []
   ·rw[decide_eq_true s,show L7 (x.nodes.l.map Bx) 1 0=(x.nodes.l.length:Int) by unfold L7;rw[Ak7,s];simp]
    simp
   ·rw[decide_eq_false s]
    have:L7 (x.nodes.l.map Bx) 1 0≠(x.nodes.l.length:Int):=by
     cases hr:Kl 1 ((x.nodes.l.map Bx).drop 0) with
     | none=>unfold L7;rw[hr];show(-1:Int)≠_;omega
     | some r =>
      obtain⟨b,_,y,rfl,u⟩:=bF hr (by omega)
      rw[u]
      intro e
      have:b=x.nodes.l.length:=by omega
      rw[Ak7] at hr
      exact s (by rw[hr,this,Amf (by simp)])
    rw[show(L7 (x.nodes.l.map Bx) 1 0 != (x.nodes.l.length:Int))=true by simpa[bne_iff_ne] using this]
    rfl
 | m+1,j,fuel+1,v,A=>by
  rw[Ml];unfold Sy
  have h:j<x.nodes.l.length:=by omega
  have z:=k.b _ (Ak3 h)
  have hn:=k.n
  rw[Eh,F7 h,ct,Cc,ct,Eh,Ac h,ct,MH h,ct,DG h,Be,xT z hN,wS (by omega),pQ k hN m (j+1) fuel (by omega) (by omega),Bb h,Ale]
  cases zr c x.nodes.l[j]<;>rfl
theorem Zr {K:Int→O R} (hs:Small c N) (b:LogB x) (hN:10000000≤N):Mm N c.av t x.av o K=K (Nr c x):=by
 rw[P_];unfold FL Nr
 rw[Cc,ct,Be,Xr hs (by omega),Ae1,ct]
 cases A8 (D9 c) != 0 with
 | true=>rfl
 | false =>
  rw[cf,cond_false,yY,Eh]
  by_cases e:x.cuts.l.length≤256
  ·rw[decide_eq_false (show ¬ (x.cuts.l.length:Int)>256 by omega),decide_eq_true e]
   by_cases j:x.nodes.l.length≤4096
   ·rw[decide_eq_false (show ¬ (x.nodes.l.length:Int)>4096 by omega),decide_eq_true j]
    show P4 N K t c.av o x.av=_
    unfold P4 AC
    have:=pQ (R:=R) (K:=K) (c:=c) (t:=t) (o:=o) b hN x.nodes.l.length 0 N (by omega) (by have:=b.n;omega)
    rw[Ak7] at this
    exact this
   ·rw[decide_eq_true (show(x.nodes.l.length:Int)>4096 by omega),decide_eq_false j];rfl
  ·rw[decide_eq_true (show(x.cuts.l.length:Int)>256 by omega),decide_eq_false e];rfl
end
end Gx.Bl
namespace Gx.Bl
open Go Go.Proofs Gx.Cf Go.Proofs.Bw
theorem lX:∀ (l:List Nd) (s1 s2:List (List Nd)) (r:List Nd),Kl s1.length l=some r→(l.take (l.length - r.length)).foldl Ok (s1++s2)=s2
 | l,[],s2,r,h=>by
  rw[Alz,Rw] at h;cases h
  simp
 | [],q::s1,s2,r,h=>by cases h
 | n::l,q::s1,s2,r,h=>by
  rw[Ak8,Kl] at h
  obtain⟨k,j,hr⟩:=MG _ _ _ h
  have s:r.length≤l.length:=by rw[hr,Am0];omega
  rw[Ak8,show l.length+1 - r.length=(l.length - r.length)+1 by omega,Amv,Amx]
  by_cases h0:n.1=0
  ·have e:Ok (q::s1++s2) n=((q++[(n.2.1,n.2.2,0)])::(q++[(n.2.1,n.2.2,1)])::(q++[(n.2.1,n.2.2,2)])::s1)++s2:=by simp[Ok,h0]
   rw[e]
   exact lX l _ s2 r (by simpa[h0] using h)
  ·have e:Ok (q::s1++s2) n=s1++s2:=by simp[Ok,h0]
   rw[e]
   refine lX l s1 s2 r ?_
   have b:(n.1==0)=false:=by simp[h0]
   rw[b] at h;exact h
theorem Acx {L:List Nd} {a b:Nat} {q:List Nd} {st:List (List Nd)} (hs:Yd L a=q::st) (j:a≤b) (s:b≤L.length) (hr:Kl 1 (L.drop a)=some (L.drop b)):Yd L b=st:=by
 have h:=lX (L.drop a) [q] st (L.drop b) hr
 have e:(L.drop a).length - (L.drop b).length=b - a:=by simp;omega
 rw[e] at h
 unfold Yd at hs ⊢
 have k:L.take b=L.take a++(L.drop a).take (b - a):=by rw[←List.take_add];congr 1;omega
 rw[k,List.foldl_append,hs]
 exact h
theorem Ad5 (p:List Nd):(p.flatMap fA).take (p.length*3)=p.flatMap fA:=by rw[Akt];rw[wC];exact Akw _
section
variable {R:Type} {N:Nat} {x:LogD} {o:Bool}
theorem pR {K0:Nat→Int→LA→O R} {K:Nat→LA→O R} (L:x.nodes.l.length≤100000) (hN:1000000<N) {want a:Nat} {p:List Nd} {st:List (List Nd)} {un hr:Int} {ncell:LA} (A:∀ F:Int→O R,Ao .i64 (ncell.drop 1) F=F un) (C:∀ F:Int→O R,Ao .i64 (ncell.drop 2) F=F hr) (M:p.length≤a) (S:a≤100000) :
  ∀ (m g b fuel:Nat),g+m=3→m<fuel→a<b→b≤want→b≤x.nodes.l.length→Yd (x.nodes.l.map Bx) b=kids p (0,un,hr) st g→(want:Int)<L7 (x.nodes.l.map Bx) m b →
  ∃ (s:Nat) (f:Nd) (st':List (List Nd)),a<s∧s≤want∧s≤x.nodes.l.length∧Yd (x.nodes.l.map Bx) s=(p++[f])::st'∧(want:Int)<L7 (x.nodes.l.map Bx) 1 s ∧
   Hk N K0 K (want:Int) o x.av fuel p.length (a:Int) (b:Int) (g:Int) (p.flatMap fA) ncell=K0 (p++[f]).length (s:Int) ((p++[f]).flatMap fA)
 | 0,g,b,fuel,T,_,u,v,k,hs,j=>by
  unfold L7 at j;rw[Rw] at j
  simp only[Am0,Ana] at j;omega
 | m+1,g,b,fuel+1,T,X,u,v,k,hs,j=>by
  have y:g<3:=by omega
  have D:=hs.trans (oT p (0,un,hr) st g y)
  have go:Hk N K0 K (want:Int) o x.av (fuel+1) p.length (a:Int) (b:Int) (g:Int) (p.flatMap fA) ncell =
    cond (decide ((want:Int)<L7 (x.nodes.l.map Bx) 1 b)) (K0 (p.length+1) (b:Int) (p.flatMap fA++[.int .i64 un,.int .i64 hr,.int .i64 g])) (Hk N K0 K (want:Int) o x.av fuel p.length (a:Int) (L7 (x.nodes.l.map Bx) 1 b) ((g+1:Nat):Int) (p.flatMap fA) ncell):=by
   rw[Hk];unfold FM
   rw[decide_eq_true (show(g:Int)≤2 by omega),ct,Eh,u_ (by omega) hN k,wS (by omega),A,C,Ad5,show((ble (p.length+1) 140737488355328)&&(ble ((p.length+1)*24) 140737488355328))=true by simp;omega,ct]
  by_cases hq:(want:Int)<L7 (x.nodes.l.map Bx) 1 b
  ·refine⟨b,(un,hr,(g:Int)),kids p (0,un,hr) st (g+1),u,v,k,D,hq,?_⟩
   rw[go,decide_eq_true hq]
   show K0 _ _ _=_
   rw[Akx,Al5];rfl
  ·rw[go,decide_eq_false hq]
   show ∃ s f st',_∧_∧_∧_∧_∧Hk N K0 K (want:Int) o x.av fuel p.length (a:Int) (L7 (x.nodes.l.map Bx) 1 b) ((g+1:Nat):Int) (p.flatMap fA) ncell=_
   have e:Kl (m+1) ((x.nodes.l.map Bx).drop b)=(Kl 1 ((x.nodes.l.map Bx).drop b)).bind (Kl m):=by rw[Aou,lU]
   cases q:Kl 1 ((x.nodes.l.map Bx).drop b) with
   | none=>unfold L7 at j;rw[e,q] at j;simp at j;omega
   | some r =>
    obtain⟨G,U,I,rfl,V⟩:=bF q (by simpa using k)
    rw[V] at hq ⊢
    have z:(want:Int)<L7 (x.nodes.l.map Bx) m G:=by unfold L7 at j ⊢;rw[e,q] at j;exact j
    exact pR L hN A C M S m (g+1) G fuel (by omega) (by omega) (by omega) (by omega) (by simpa using I) (Acx D U I q) z
theorem zm {K:Nat→LA→O R} (y:x.nodes.l.length≤100000) (hN:1000000<N) {want:Nat} (T:want<x.nodes.l.length):∀ (d a fuel:Nat) (p:List Nd) (st:List (List Nd)),want - a≤d→d<fuel→a≤want→Yd (x.nodes.l.map Bx) a=p::st→p.length≤a→(want:Int)<L7 (x.nodes.l.map Bx) 1 a →
  Hl N K (want:Int) o x.av fuel p.length (a:Int) (p.flatMap fA)=K ((Yd (x.nodes.l.map Bx) want).headD []).length (((Yd (x.nodes.l.map Bx) want).headD []).flatMap fA):=by
 intro d
 induction d with
 | zero =>
  intro a fuel p st z A C hs u j
  obtain rfl:a=want:=by omega
  obtain⟨f,rfl⟩:∃ f,fuel=f+1:=⟨fuel - 1,by omega⟩
  rw[Hl];unfold Vw
  rw[show((a:Int) != (a:Int))=false by simp,cf,hs];rfl
 | succ d D =>
  intro a fuel p st z A C hs u j
  obtain⟨f,rfl⟩:∃ f,fuel=f+1:=⟨fuel - 1,by omega⟩
  rw[Hl];unfold Vw
  by_cases hq:a=want
  ·subst hq
   rw[show((a:Int) != (a:Int))=false by simp,cf,hs];rfl
  ·have h:a<x.nodes.l.length:=by omega
   rw[show((a:Int) != (want:Int))=true by simp;omega,ct,Eh,Ac h,ct,MH h,ct,DG h,show((beq 0 0)&&((beq ((x.nodes.l[a]).av.length) 5)&&(beq 5 5)))=true from rfl,ct,wS (by omega)]
   have v:(x.nodes.l.map Bx).drop a=Bx x.nodes.l[a]::(x.nodes.l.map Bx).drop (a+1):=by rw[Aln (by simpa using h)];simp
   have F:(x.nodes.l.map Bx)[a]?=some (Bx x.nodes.l[a]):=by simp[h]
   have e:(x.nodes.l[a]).kind=0:=by
    false_or_by_contra
    have k:((Bx x.nodes.l[a]).1==0)=false:=by show((x.nodes.l[a]).kind==0)=false;simpa using ‹¬ _›
    unfold L7 at j
    rw[v,Kl,k] at j
    change (want:Int)<(match Kl 0 _ with | some r=>_ | none=>_) at j
    rw[Rw] at j
    simp only[Am0,Ana] at j;omega
   have k:((Bx x.nodes.l[a]).1==0)=true:=by show((x.nodes.l[a]).kind==0)=true;simp[e]
   have q:Yd (x.nodes.l.map Bx) (a+1)=kids p (0,(x.nodes.l[a]).unit,(x.nodes.l[a]).hour) st 0:=by
    rw[UI F,hs]
    show Ok (p::st) ((x.nodes.l[a]).kind,_,_)=_
    simp[Ok,e,kids,Bx]
   have s:(want:Int)<L7 (x.nodes.l.map Bx) 3 (a+1):=by
    unfold L7 at j ⊢
    rw[v,Kl,k] at j
    exact j
   obtain⟨G,fx,st',U,I,V,L,M,S⟩:=pR (R:=R) (N:=N) (x:=x) (o:=o) (K0:=Hl N K (want:Int) o x.av f) (K:=K) (want:=want) (a:=a) (p:=p) (st:=st) (un:=(x.nodes.l[a]).unit) (hr:=(x.nodes.l[a]).hour) (ncell:=(x.nodes.l[a]).av) y hN (fun _=>rfl) (fun _=>rfl) u (by omega) 3 0 (a+1) N (by omega) (by omega) (by omega) (by omega) (by omega) q s
   refine S.trans ?_
   exact D G f _ st' (by omega) (by omega) I L (by simp;omega) M
theorem zn {K:Nat→LA→O R} (e:x.nodes.l.length≤100000) (hN:1000000<N) {want:Nat} (j:want<x.nodes.l.length) (b:Ei 1 (x.nodes.l.map Bx)=true) :
  CE N x.av o (want:Int) K=K ((Yd (x.nodes.l.map Bx) want).headD []).length (((Yd (x.nodes.l.map Bx) want).headD []).flatMap fA):=by
 rw[WH];unfold NJ
 rw[GI,decide_eq_true_eq] at b
 refine zm e hN j want 0 N [] [] (by omega) (by omega) (by omega) rfl (by simp) ?_
 unfold L7
 rw[Ak7,b];simp;omega
theorem ud:∀ l:List NodeD,tM l.length (l.flatMap NodeD.av)=some (l.map Bx)
 | []=>rfl
 | n::l=>by
  show tM (l.length+1) (.int .i64 n.kind::.int .i64 n.unit::.int .i64 n.hour::.int .i64 n.other::n.y.av 4 EntD.av::l.flatMap NodeD.av)=_
  rw[tM,ud l]
  obtain⟨q,hq⟩:∃ q,rj 4 (n.y.av 4 EntD.av)=some q:=by cases n.y<;>exact⟨_,rfl⟩
  rw[hq];rfl
end
noncomputable def lY (c:CaseD) (x:LogD) (w:Int):Int:=cond (Nr c x != 0) (Nr c x) (cond (decide (0≤w)&&decide (w<x.nodes.l.length)) 0 12)
noncomputable def YB (c:CaseD) (x:LogD) (w:Int):List Nd:=cond (lY c x w==0) ((Yd (x.nodes.l.map Bx) w.toNat).headD []) []
theorem bG {c:CaseD} {x:LogD} (h:Nr c x=0):Ei 1 (x.nodes.l.map Bx)=true∧x.nodes.l.length≤4096∧x.nodes.l.all (zr c)=true∧A8 (D9 c)=0:=by
 unfold Nr at h
 cases b:A8 (D9 c) != 0 with
 | true=>rw[b,cond_true] at h;rw[h] at b;simp at b
 | false =>
  rw[b,cond_false] at h
  have e1:A8 (D9 c)=0:=by simpa[bne] using b
  cases e:decide (x.cuts.l.length≤256)&&decide (x.nodes.l.length≤4096) with
  | false=>rw[e] at h;simp at h
  | true =>
   rw[e,cond_true] at h
   cases j:x.nodes.l.all (zr c)&&Ei 1 (x.nodes.l.map Bx) with
   | false=>rw[j] at h;simp at h
   | true =>
    simp only[Ak1,decide_eq_true_eq] at e j
    exact⟨j.2,e.2,j.1,e1⟩
section
variable {R:Type} {N:Nat} {c:CaseD} {x:LogD} {t o:Bool}
theorem lZ {w:Int} {K:Nat→Int→LA→O R} (hs:Small c N) (q:LogB x) (hN:10000000≤N):KS N c.av t x.av o w K=K (YB c x w).length (lY c x w) ((YB c x w).flatMap fA):=by
 rw[VO];unfold aF
 rw[Cc,ct,show ble 3 x.av.length=true from rfl,ct,Be,show take 3 x.av=x.av from rfl,GJ hs q hN]
 unfold YB lY
 cases k:Nr c x != 0 with
 | true =>
  rw[ct,cond_true,show(Nr c x==0)=false by simpa[bne] using k];rfl
 | false =>
  have h0:Nr c x=0:=by simpa[bne] using k
  obtain⟨s,u,v⟩:=bG h0
  rw[cf,cond_false,Eh]
  by_cases b:0≤w
  ·rw[decide_eq_false (show ¬ w<0 by omega),decide_eq_true b]
   by_cases j:w<x.nodes.l.length
   ·rw[decide_eq_false (show ¬ w≥(x.nodes.l.length:Int) by omega),decide_eq_true j]
    rw[show(false==false)=true from rfl,ct,show(cond false true false:Bool)=false from rfl,cf,Eh,Ye];unfold JV
    rw[ud]
    show cond _ _ none=_
    rw[show(Ei 1 (x.nodes.l.map Bx)&&(ble x.nodes.l.length 1000000&&(decide ((0:Int)=0)&&(beq 0 0&&(decide (0≤w)&&decide (w<(x.nodes.l.length:Int)))))))=true by simp[s,b,j];omega,ct]
    have e:Bw.seen (x.nodes.l.map Bx) w x.nodes.l.length=(Yd (x.nodes.l.map Bx) w.toNat).headD []:=by unfold Bw.seen;rw[if_pos ⟨b,j⟩]
    rw[e];rfl
   ·rw[decide_eq_true (show w≥(x.nodes.l.length:Int) by omega),decide_eq_false j];rfl
  ·rw[decide_eq_true (show w<0 by omega),decide_eq_false b];rfl
theorem ue {w:Int} {K:Nat→Int→LA→O R} (hs:Small c N) (j:LogB x) (hN:10000000≤N):NK N c.av t x.av o w K=K (YB c x w).length (lY c x w) ((YB c x w).flatMap fA):=by
 rw[QA];unfold RN
 rw[Cc,ct,show ble 3 x.av.length=true from rfl,ct,Be,show take 3 x.av=x.av from rfl,Zr hs j hN]
 unfold YB lY
 cases k:Nr c x != 0 with
 | true =>
  rw[ct,cond_true,show(Nr c x==0)=false by simpa[bne] using k];rfl
 | false =>
  have h0:Nr c x=0:=by simpa[bne] using k
  obtain⟨q,s,u⟩:=bG h0
  rw[cf,cond_false,Eh]
  by_cases b:0≤w
  ·rw[decide_eq_false (show ¬ w<0 by omega),decide_eq_true b]
   by_cases e:w<x.nodes.l.length
   ·rw[decide_eq_false (show ¬ w≥(x.nodes.l.length:Int) by omega),decide_eq_true e]
    obtain⟨v,rfl⟩:∃ v:Nat,w=(v:Int):=⟨w.toNat,by omega⟩
    show cond true (CE N x.av o (v:Int) _) none=_
    rw[ct,zn j.n (by omega) (by omega) q];rfl
   ·rw[decide_eq_true (show w≥(x.nodes.l.length:Int) by omega),decide_eq_false e];rfl
  ·rw[decide_eq_true (show w<0 by omega),decide_eq_false b];rfl
end
end Gx.Bl
namespace Gx.Bl
open Go Go.Proofs Gx.Cf Go.Proofs.Bw
def NZ:List NodeD→Nat→List Int
 | [],_=>[]
 | n::r,j=>cond (n.kind != 0) ((j:Int)::NZ r (j+1)) (NZ r (j+1))
noncomputable def Ac5 (c:CaseD) (x:LogD):List Int:=cond (Nr c x==0) (NZ x.nodes.l 0) []
section
variable {R:Type} {N:Nat} {c:CaseD} {x:LogD} {t o:Bool}
theorem bH (A:List Int):(Ah A).take (A.length*1)=Ah A:=by rw[Akt];simp[Ah,V3]
theorem pS (A:List Int) (j:Int):Ah A++[.int .i64 j]=Ah (A++[j]):=by simp[Ah,V3]
theorem MI {K:Nat→Int→LA→O R} {l:List NodeD} (b:l.length≤100000):∀ (m j fuel:Nat) (A:List Int),j+m=l.length→m<fuel→A.length≤j →
  Jp N K (l.flatMap NodeD.av) l.length o fuel A.length (l.length:Int) (j:Int) (Ah A)=K (A++NZ (l.drop j) j).length 0 (Ah (A++NZ (l.drop j) j))
 | 0,j,fuel+1,A,e,_,hA=>by
  rw[Jp];unfold Sz
  rw[G3 (by omega),cf,show l.drop j=[] from Bn (by omega),NZ,Alf]
 | m+1,j,fuel+1,A,e,k,hA=>by
  rw[Jp];unfold Sz
  have h:j<l.length:=by omega
  rw[F7 h,ct,Ac h,ct,MH h,ct,DG h,show((beq 0 0)&&((beq ((l[j]).av.length) 5)&&(beq 5 5)))=true from rfl,ct,show l.drop j=l[j]::l.drop (j+1) from Bb h,NZ]
  show cond ((l[j]).kind != 0) _ _=_
  rw[wS (by omega),bH,pS,show((ble (A.length+1) 140737488355328)&&(ble ((A.length+1)*8) 140737488355328))=true by simp;omega,ct]
  cases (l[j]).kind != 0 with
  | true =>
   have:=MI (K:=K) b m (j+1) fuel (A++[(j:Int)]) (by omega) (by omega) (by simp;omega)
   rw[Ami] at this
   simpa using this
  | false=>exact MI b m (j+1) fuel A (by omega) (by omega) (by omega)
theorem ee {K:Nat→Int→LA→O R} (hs:Small c N) (b:LogB x) (hN:10000000≤N):Wd N c.av t x.av o K=K (Ac5 c x).length (Nr c x) (Ah (Ac5 c x)):=by
 rw[QB];unfold FN
 rw[Cc,ct,show ble 3 x.av.length=true from rfl,ct,Be,show take 3 x.av=x.av from rfl,GJ hs b hN]
 unfold Ac5
 cases e:Nr c x != 0 with
 | true=>rw[ct,show(Nr c x==0)=false by simpa[bne] using e];rfl
 | false =>
  have h0:Nr c x=0:=by simpa[bne] using e
  rw[cf,Eh,h0]
  exact MI b.n x.nodes.l.length 0 N [] (by omega) (by have:=b.n;omega) (by simp)
theorem GK {K:Nat→Int→LA→O R} (b:x.nodes.l.length≤100000):∀ (m j fuel:Nat) (A:List Int),j+m=x.nodes.l.length→m<fuel→A.length≤j →
  Hz N K o x.av fuel A.length (j:Int) (Ah A)=K (A++NZ (x.nodes.l.drop j) j).length 0 (Ah (A++NZ (x.nodes.l.drop j) j))
 | 0,j,fuel+1,A,e,_,hA=>by
  rw[Hz];unfold P5
  rw[Eh,G3 (by omega),cf,show x.nodes.l.drop j=[] from Bn (by omega),NZ,Alf]
 | m+1,j,fuel+1,A,e,k,hA=>by
  rw[Hz];unfold P5
  have h:j<x.nodes.l.length:=by omega
  rw[Eh,F7 h,ct,Eh,Ac h,ct,r8 h,show x.nodes.l.drop j=x.nodes.l[j]::x.nodes.l.drop (j+1) from Bb h,NZ,wS (by omega),bH,pS,show((ble (A.length+1) 140737488355328)&&(ble ((A.length+1)*8) 140737488355328))=true by simp;omega,ct]
  cases (x.nodes.l[j]).kind != 0 with
  | true =>
   have:=GK (K:=K) b m (j+1) fuel (A++[(j:Int)]) (by omega) (by omega) (by simp;omega)
   rw[Ami] at this
   simpa using this
  | false=>exact GK b m (j+1) fuel A (by omega) (by omega) (by omega)
theorem r9 {K:Nat→Int→LA→O R} (hs:Small c N) (b:LogB x) (hN:10000000≤N):Xj N c.av t x.av o K=K (Ac5 c x).length (Nr c x) (Ah (Ac5 c x)):=by
 rw[LF];unfold Y9
 rw[Cc,ct,show ble 3 x.av.length=true from rfl,ct,Be,show take 3 x.av=x.av from rfl,Zr hs b hN]
 unfold Ac5
 cases e:Nr c x != 0 with
 | true=>rw[ct,show(Nr c x==0)=false by simpa[bne] using e];rfl
 | false =>
  have h0:Nr c x=0:=by simpa[bne] using e
  rw[cf,h0]
  exact GK b.n x.nodes.l.length 0 N [] (by omega) (by have:=b.n;omega) (by simp)
theorem pT {l:List Int} {f g h i:Bool} {K:Bool→O R} (b:l.length≤1000000):∀ (m j fuel:Nat),j+m=l.length→m<fuel→Lq N K (Ah l) l.length f g (Ah l) l.length h i fuel (j:Int)=K true
 | 0,j,fuel+1,e,_=>by
  rw[Lq];unfold Vx
  rw[G3 (by omega),cf]
 | m+1,j,fuel+1,e,k=>by
  rw[Lq];unfold Vx
  have hh:j<l.length:=by omega
  rw[F7 hh,ct,Ac hh,ct,Qc hh,ct,Qc hh,show(l[j] != l[j])=false by simp,cf,wS (by omega)]
  exact pT b m (j+1) fuel (by omega) (by omega)
theorem zo {l:List Int} {g c h f:Bool} {K:Bool→O R} (b:l.length≤1000000) (hN:1000000<N):WM N (Ah l) l.length g c (Ah l) l.length h f K=K true:=by
 rw[WN];unfold aP
 rw[WL];unfold NL
 rw[show((l.length:Int) != (l.length:Int))=false by simp,cf]
 exact pT b l.length 0 N (by omega) (by omega)
theorem gN:∀ (l:List NodeD) (j:Nat),(NZ l j).length≤l.length
 | [],_=>Akw _
 | n::r,j=>by
  have:=gN r (j+1)
  rw[NZ]
  cases n.kind != 0<;>simp<;>omega
theorem YC (f:Nd):(fA f).length=3:=rfl
theorem l7 {p:List Nd} {K:Bool→O R} (b:p.length≤1000000):∀ (m j fuel:Nat),j+m=p.length→m<fuel→G8 N K p.length p.length (p.flatMap fA) (p.flatMap fA) fuel (j:Int)=K true
 | 0,j,fuel+1,k,_=>by
  rw[G8];unfold Mn
  rw[G3 (by omega),cf]
 | m+1,j,fuel+1,k,s=>by
  rw[G8];unfold Mn
  have h:j<p.length:=by omega
  have e:drop (0+(Int.toNat (j:Int))*3) (p.flatMap fA)=fA p[j]++(p.drop (j+1)).flatMap fA:=by rw[Akz];exact H7 YC h
  have q:take 3 (fA p[j]++(p.drop (j+1)).flatMap fA)=fA p[j]:=rfl
  have e3:ble 3 (fA p[j]++(p.drop (j+1)).flatMap fA).length=true:=by rw[Akx,YC];simp
  rw[F7 h,ct,Ac h,ct,e,e3,ct,ct,ct,q,show((ble 1 3)&&((beq ((fA p[j]).length) 3)&&((beq ((fA p[j]).length) 3)&&(true&&(!false)))))=true from rfl,ct,wS (by omega)]
  show cond (!(((p[j]).1==(p[j]).1)&&(((p[j]).2.1==(p[j]).2.1)&&(((p[j]).2.2==(p[j]).2.2)&&true)))) (K false) _=K true
  rw[show(!(((p[j]).1==(p[j]).1)&&(((p[j]).2.1==(p[j]).2.1)&&(((p[j]).2.2==(p[j]).2.2)&&true))))=false by simp,cf]
  exact l7 b m (j+1) fuel (by omega) (by omega)
theorem yZ:∀ (L:List Nd) (i:Nat),i≤L.length→∀ p ∈ Yd L i,p.length≤i
 | L,0,_,p,b=>by
  have:p ∈ ([[]]:List (List Nd)):=b
  rw[Am9] at this;subst this;exact Akw _
 | L,i+1,hi,p,b=>by
  have j:L[i]?=some L[i]:=Aky (by omega)
  rw[UI j] at b
  have e:=yZ L i (by omega)
  revert b e
  cases Yd L i with
  | nil=>intro b;simp[Ok] at b
  | cons q s =>
   intro b e
   have hq:=e q (by simp)
   change p ∈ (if L[i].1=0 then (q++[(L[i].2.1,L[i].2.2,0)])::(q++[(L[i].2.1,L[i].2.2,1)])::(q++[(L[i].2.1,L[i].2.2,2)])::s else s) at b
   split at b
   ·simp only[Alb] at b
    rcases b with rfl | rfl | rfl | b
    ·simp;omega
    ·simp;omega
    ·simp;omega
    ·have:=e p (by simp[b]);omega
   ·have:=e p (by simp[b]);omega
theorem uf (k:x.nodes.l.length≤100000) (w:Int):(YB c x w).length≤100000:=by
 unfold YB
 cases h:lY c x w==0 with
 | false=>exact An2 _
 | true =>
  rw[cond_true]
  have j:w.toNat≤x.nodes.l.length:=by
   unfold lY at h
   cases b:Nr c x != 0 with
   | true=>rw[b,cond_true] at h;simp at h;simp[h] at b
   | false =>
    rw[b,cond_false] at h
    cases e:decide (0≤w)&&decide (w<(x.nodes.l.length:Int)) with
    | false=>rw[e] at h;cases h
    | true=>simp at e;omega
  cases hs:Yd (x.nodes.l.map Bx) w.toNat with
  | nil=>simp
  | cons p st =>
   have:=yZ (x.nodes.l.map Bx) w.toNat (by simpa using j) p (by rw[hs];simp)
   simp;omega
theorem uh {w:Int} {K:Bool→O R} (hs:Small c N) (b:LogB x) (hN:10000000≤N):Hm N c.av t x.av o w K=K true:=by
 rw[CF];unfold S2
 have l3:ble 3 x.av.length=true:=rfl
 have t3:take 3 x.av=x.av:=rfl
 have e:(Ac5 c x).length≤1000000:=by
  unfold Ac5
  have:=gN x.nodes.l 0;have:=b.n
  cases Nr c x==0<;>simp<;>omega
 rw[Cc,ct,l3,ct,Be,t3,lZ hs b hN,ct,ct,ue hs b hN,ct,ct,ee hs b hN,ct,ct,r9 hs b hN,ct,ct,GJ hs b hN,ct,ct,Zr hs b hN]
 rw[show(Nr c x != Nr c x)=false by simp,show(lY c x w != lY c x w)=false by simp,show(((YB c x w).length:Int) != ((YB c x w).length:Int))=false by simp,bH,zo e (by omega)]
 show Ka N K _ _ _ _=_
 unfold Ka Rh
 have:=uf (c:=c) b.n w
 exact l7 (by omega) (YB c x w).length 0 N (by omega) (by omega)
end
end Gx.Bl
namespace Gx.Bl
open Go Go.Proofs Gx.Cf Go.Proofs.Bw
theorem MJ {α:Type} {e:α→LA} {sz:Nat} (b:∀ a,(e a).length=sz):∀ {l:List α} {j k:Nat} {v:AV} {y:α} (h:j<l.length),k<sz→e y=(e l[j]).set k v→(l.flatMap e).set (j*sz+k) v=(l.set j y).flatMap e
 | a::r,0,k,v,y,h,q,s=>by
  rw[Nat.zero_mul,Akz,All,List.set_append_left _ _ (by rw[b];exact q),Aoc,All,s];rfl
 | a::r,j+1,k,v,y,h,q,s=>by
  rw[All,Anz _ _ (by rw[b,Anw];omega),Api,All,b,show(j+1)*sz+k - sz=j*sz+k by rw[Anw];omega]
  have:=MJ b (l:=r) (j:=j) (k:=k) (v:=v) (y:=y) (by simpa using h) q (by simpa using s)
  rw[this]
theorem xU {α:Type}:∀ {l:List α} {j:Nat} {y x:α},x ∈ l.set j y→x ∈ l∨x=y:=by
 intro l j y x b
 rcases Aoe b with h | h
 ·exact .inl h
 ·exact .inr h
theorem ui {α:Type} {e:α→LA} {sz:Nat} (b:∀ a,(e a).length=sz):∀ l:List α,(l.flatMap e).length=l.length*sz
 | []=>by simp
 | a::r=>by rw[All,Akx,b,ui b r,Ak8,Anw];omega
structure NodesOk (P:List NodeD):Prop where
 n:P.length≤1000
 b:∀ n ∈ P,NodeB n
theorem NodesOk.set {P:List NodeD} (h:NodesOk P) (j:Nat) {y:NodeD} (e:NodeB y):NodesOk (P.set j y):=⟨by rw[Am4];exact h.n,fun n hn=>by
 rcases xU hn with k | rfl
 ·exact h.b n k
 ·exact e⟩
section
variable {R:Type} {N:Nat}
theorem Cv {α:Type} {e:α→LA} {sz:Nat} (b:∀ a,(e a).length=sz) (l:List α):(l.flatMap e).take (l.length*sz)=l.flatMap e:=Akt (by rw[ui b];exact Akw _)
theorem YD {P:List NodeD} {j k:Nat} (h:j<P.length) (b:k≤5):drop (0+((Int.toNat (j:Int))*5)+k) (P.flatMap NodeD.av)=(P[j]).av.drop k++(P.drop (j+1)).flatMap NodeD.av:=by
 rw[Akz,←An9,H7 Ci h,Anf (by rw[Ci];exact b)]
theorem Wf {P:List NodeD} {j k:Nat} (h:j<P.length) (b:k<5):((beq 1 1)&&((ble (((0+((Int.toNat (j:Int))*5))+k)+1) ((P.flatMap NodeD.av).length))&&(!false)))=true:=by
 rw[ui Ci,Aku]
 have:(j+1)*5≤P.length*5:=Alg _ h
 simp;omega
theorem y5 {P:List CutD} {j k:Nat} (h:j<P.length) (b:k≤6):drop (0+((Int.toNat (j:Int))*6)+k) (P.flatMap CutD.av)=(P[j]).av.drop k++(P.drop (j+1)).flatMap CutD.av:=by
 rw[Akz,←An9,H7 Gp h,Anf (by rw[Gp];exact b)]
theorem uj {P:List CutD} {j k:Nat} (h:j<P.length) (b:k<6) {L:LA} (hL:L.length=P.length*6):((beq 1 1)&&((ble (((0+((Int.toNat (j:Int))*6))+k)+1) (L.length))&&(!false)))=true:=by
 rw[hL,Aku]
 have:(j+1)*6≤P.length*6:=Alg _ h
 simp;omega
theorem Acy {U:List (Int×Int)} {C:List CutD} {P:List NodeD} {n m e:Int} {ua:LA} {I:Nat→LA→LA→O R} {V:Nat→LA→O R} {Y:O R} (hN:10000≤N) (hC:C.length≤1000) (hP:NodesOk P) (hP1:P.length≤100) (hP2:∀ n ∈ P,n.y.l.length≤1000)
  (h0:∀ (k:Nat) (dc ac:LA) (C':List CutD) (P':List NodeD),P'.length=k→ac.take (k*5)=P'.flatMap NodeD.av→C'.length=C.length→dc.take (C.length*6)=C'.flatMap CutD.av→NodesOk P'→I k dc ac=Y)
  (X:∀ (k:Nat) (ac:LA) (P':List NodeD),P'.length=k→ac.take (k*5)=P'.flatMap NodeD.av→NodesOk P'→V k ac=Y) :
  Zk N U.length C.length P.length n m e ua (C.flatMap CutD.av) (P.flatMap NodeD.av) I V=Y:=by
 have same:I P.length (C.flatMap CutD.av) (P.flatMap NodeD.av)=Y:=h0 _ _ _ C P rfl (Cv Ci P) rfl (Cv Gp C) hP
 rw[HS];unfold FU
 by_cases hz:P.length=0
 ·rw[hz];rw[hz] at same;exact same
 have hPn:=hP.n
 rw[show((P.length:Int)==0)=false by rw[beq_eq_false_iff_ne];omega,cf]
 obtain⟨j',j1,j2,j3⟩:=X_ (R:=R) (N:=N) (v:=m) (n:=(P.length:Int)) (by omega) (by omega)
 obtain⟨j,rfl⟩:∃ j:Nat,j'=(j:Int):=⟨j'.toNat,by omega⟩
 have s:j<P.length:=by omega
 obtain⟨i,i1,i2,i3⟩:=X_ (R:=R) (N:=N) (v:=n) (n:=9) (by omega) (by omega)
 have u:=hP.b _ (Ak3 s)
 have upd:∀ (k:Nat) (v:AV) (y:NodeD),k<5→NodeB y→y.av=(P[j]).av.set k v→I P.length (C.flatMap CutD.av) ((P.flatMap NodeD.av).set ((0+((Int.toNat (j:Int))*5))+k) v)=Y:=fun k v y A hy he=>by
  rw[Akz,Aku,MJ Ci s A he]
  exact h0 _ _ _ C (P.set j y) (by simp) (by have:=Cv Ci (P.set j y);rw[Am4] at this;exact this) rfl (Cv Gp C) (hP.set j hy)
 rw[j3,Ac s,ct,i3]
 by_cases q0:i=0
 ·rw[show(i==0)=true by simp[q0],ct]
  have:=Wf s (show 0<5 by omega)
  rw[Alt] at this
  rw[this,ct]
  exact upd 0 _ ⟨Int.tmod e 6,(P[j]).unit,(P[j]).hour,(P[j]).other,(P[j]).y⟩ (by omega) ⟨u.y,u.e⟩ rfl
 rw[show(i==0)=false by simp[q0],cf]
 by_cases q1:i=1
 ·rw[show(i==1)=true by simp[q1],ct,YD s (by omega)]
  show cond _ _ none=_
  rw[Wf s (by omega),ct]
  exact upd 1 _ ⟨(P[j]).kind,wrap .i64 ((P[j]).unit+Int.tmod e 4),(P[j]).hour,(P[j]).other,(P[j]).y⟩ (by omega) ⟨u.y,u.e⟩ rfl
 rw[show(i==1)=false by simp[q1],cf]
 by_cases q2:i=2
 ·rw[show(i==2)=true by simp[q2],ct,YD s (by omega)]
  show cond _ _ none=_
  rw[Wf s (by omega),ct]
  exact upd 2 _ ⟨(P[j]).kind,(P[j]).unit,wrap .i64 ((P[j]).hour+Int.tmod e 4),(P[j]).other,(P[j]).y⟩ (by omega) ⟨u.y,u.e⟩ rfl
 rw[show(i==2)=false by simp[q2],cf]
 by_cases q3:i=3
 ·rw[show(i==3)=true by simp[q3],ct,YD s (by omega)]
  show cond _ _ none=_
  rw[Wf s (by omega),ct]
  exact upd 3 _ ⟨(P[j]).kind,(P[j]).unit,(P[j]).hour,wrap .i64 ((P[j]).other+Int.tmod e 4),(P[j]).y⟩ (by omega) ⟨u.y,u.e⟩ rfl
 rw[show(i==3)=false by simp[q3],cf]
 by_cases q4:i=4
 ·rw[show(i==4)=true by simp[q4],ct,YD s (by omega)]
  show Ba 4 ((P[j]).y.av 4 EntD.av::_) _=_
  have hy:=u.y
  have g3:-9223372036854775808≤Int.tmod e 3∧Int.tmod e 3≤9223372036854775807:=by
   have a1:=Ant e (show(0:Int)<3 by decide)
   have a2:=Apg e (show(0:Int)<3 by decide)
   omega
  rw[Cy,Akz,show(ble (P[j]).y.l.length 140737488355328&&ble ((P[j]).y.l.length*64) 140737488355328)=true by simp;omega,ct,lN g3 (by omega)]
  obtain⟨rv,L,F⟩:∃ rv:RatD,cq ((Int.tmod e 3:Int):Rat)=rv.av∧rv.ok∧rv.m≤4:=by
   refine⟨Ac4 ((Int.tmod e 3:Int):Rat),rfl,Acn _,?_⟩
   have a1:=Ant e (show(0:Int)<3 by decide)
   have a2:=Apg e (show(0:Int)<3 by decide)
   rw[Aex]
   have e0:((Int.tmod e 3:Int):Rat)=mkRat (Int.tmod e 3) 1:=by simp[Rat.mkRat_one]
   rw[e0]
   have X:=Ae0 (Int.tmod e 3) 1
   have h2:(Bg (Int.tmod e 3).natAbs).length≤1:=MD (by omega)
   have h3:(Bg 1).length≤1:=MD (by omega)
   omega
  rw[L,show((beq (rv.av.length) 3)&&(ble 4 4))=true from rfl,ct]
  have es:∀ z:Int,setCells [(.int .i64 z),(.bool false),.nsl,.nsl] 1 rv.av=EntD.av ⟨z,rv⟩:=fun z=>rfl
  rw[es,show((beq ((EntD.av ⟨Int.tmod e 20,rv⟩).length) 4)&&(ble 4 4))=true from rfl,ct,show(ble ((P[j]).y.l.length+1) 140737488355328&&ble (((P[j]).y.l.length+1)*64) 140737488355328)=true by simp;omega,ct,Wf s (by omega),ct]
  have et:take (((P[j]).y.l.length+1)*4) (take ((P[j]).y.l.length*4) ((P[j]).y.l.flatMap EntD.av)++take 4 (setCells [(.int .i64 0),(.bool false),.nsl,.nsl] 0 (EntD.av ⟨Int.tmod e 20,rv⟩)))=((P[j]).y.l++[(⟨Int.tmod e 20,rv⟩:EntD)]).flatMap EntD.av:=by
   rw[Cv Kc,Al5,show take 4 (setCells [(.int .i64 0),(.bool false),.nsl,.nsl] 0 (EntD.av ⟨Int.tmod e 20,rv⟩))=EntD.av ⟨Int.tmod e 20,rv⟩ from rfl]
   refine(Akt ?_).trans (by simp)
   rw[Akx,ui Kc,Kc];omega
  rw[et]
  refine upd 4 _ ⟨(P[j]).kind,(P[j]).unit,(P[j]).hour,(P[j]).other,.of ((P[j]).y.l++[(⟨Int.tmod e 20,rv⟩:EntD)]) false false⟩ (by omega) ⟨by show((P[j]).y.l++[_]).length<_;rw[Akx,Amm];have:=hP2 _ (Ak3 s);omega,fun K D=>?_⟩ ?_
  ·have D:K ∈ (P[j]).y.l++[(⟨Int.tmod e 20,rv⟩:EntD)]:=D
   rcases Ak2.1 D with h | h
   ·exact u.e K h
   ·rw[Am9] at h;subst h;exact⟨F.1,Amp F.2 (by decide)⟩
  ·show [_,_,_,_,AV.imm (((P[j]).y.l++[_]).flatMap EntD.av) ((P[j]).y.l++[_]).length 4 false false]=_
   rw[Akx];rfl
 rw[show(i==4)=false by simp[q4],cf]
 by_cases q5:i=5
 ·rw[show(i==5)=true by simp[q5],ct,show((decide ((0:Int)≤(0:Int)))&&((decide (0≤(j:Int)))&&((decide ((j:Int)≤(P.length:Int)))&&(decide ((P.length:Int)≤(P.length:Int))))))=true by simp;omega,ct,Aku]
  have M:(P.take j).length=j:=List.length_take_of_le (An6 s)
  refine h0 j _ _ C (P.take j) M ?_ rfl (Cv Gp C) ⟨by rw[M];omega,fun x S=>hP.b x (Ank S)⟩
  have e1:P.flatMap NodeD.av=(P.take j).flatMap NodeD.av++(P.drop j).flatMap NodeD.av:=by rw[←Al5,Ao1]
  have K:((P.take j).flatMap NodeD.av).length=j*5:=by rw[ui Ci,M]
  rw[e1,Ald K]
 rw[show(i==5)=false by simp[q5],cf]
 by_cases q6:i=6
 ·rw[show(i==6)=true by simp[q6],ct,Akz,show(ble P.length 140737488355328&&ble (P.length*56) 140737488355328)=true by simp;omega,ct,ct]
  rw[show ∀ q,0+q=q from Akz,MH s,ct,DG s,show((beq ((P[j]).av.length) 5)&&(ble 5 5))=true from rfl,ct,show(ble (P.length+1) 140737488355328&&ble ((P.length+1)*56) 140737488355328)=true by simp;omega,ct]
  refine X _ _ (P++[P[j]]) (by simp) ?_ ⟨by rw[Akx,Amm];omega,fun x S=>?_⟩
  ·rw[Cv Ci,Cv Ci,show take 5 (setCells [(.int .i64 0),(.int .i64 0),(.int .i64 0),(.int .i64 0),.nsl] 0 (P[j]).av)=(P[j]).av from rfl,Al5,Akt]
   ·simp
   ·rw[Akx,ui Ci,Ci];omega
  ·rcases Ak2.1 S with h | h
   ·exact hP.b x h
   ·rw[Am9] at h;subst h;exact u
 rw[show(i==6)=false by simp[q6],cf]
 by_cases q7:i=7
 ·rw[show(i==7)=true by simp[q7],ct]
  by_cases hc:C.length=0
  ·rw[show decide ((C.length:Int)>0)=false from decide_eq_false (by omega),cf];exact same
  ·rw[show decide ((C.length:Int)>0)=true from decide_eq_true (by omega),ct]
   obtain⟨k',k1,k2,k3⟩:=X_ (R:=R) (N:=N) (v:=m) (n:=(C.length:Int)) (by omega) (by omega)
   obtain⟨k,rfl⟩:∃ k:Nat,k'=(k:Int):=⟨k'.toNat,by omega⟩
   have A:k<C.length:=by omega
   rw[k3,Ac A,ct,y5 A (by omega),y5 A (by omega)]
   show cond _ (cond _ _ none) none=_
   rw[uj A (by omega) (ui Gp C),ct,uj A (by omega) (by rw[Am4];exact ui Gp C),ct]
   have s1:(C.flatMap CutD.av).set ((0+((Int.toNat (k:Int))*6))+4) (.int .i64 (wrap .i64 ((C[k]).unit+Int.tmod e 3)))=(C.set k ⟨(C[k]).kind,(C[k]).hour,(C[k]).units,(C[k]).least,wrap .i64 ((C[k]).unit+Int.tmod e 3),(C[k]).len⟩).flatMap CutD.av:=by
    rw[Akz,Aku];exact MJ Gp A (by omega) rfl
   rw[s1]
   have T:k<(C.set k ⟨(C[k]).kind,(C[k]).hour,(C[k]).units,(C[k]).least,wrap .i64 ((C[k]).unit+Int.tmod e 3),(C[k]).len⟩).length:=by rw[Am4];exact A
   have s2:((C.set k ⟨(C[k]).kind,(C[k]).hour,(C[k]).units,(C[k]).least,wrap .i64 ((C[k]).unit+Int.tmod e 3),(C[k]).len⟩).flatMap CutD.av).set ((0+((Int.toNat (k:Int))*6))+3) (.int .i64 (wrap .i64 ((C[k]).least+Int.tmod (wrap .i64 (Int.tdiv e 3)) 3))) =
     ((C.set k ⟨(C[k]).kind,(C[k]).hour,(C[k]).units,(C[k]).least,wrap .i64 ((C[k]).unit+Int.tmod e 3),(C[k]).len⟩).set k ⟨(C[k]).kind,(C[k]).hour,(C[k]).units,wrap .i64 ((C[k]).least+Int.tmod (wrap .i64 (Int.tdiv e 3)) 3),wrap .i64 ((C[k]).unit+Int.tmod e 3),(C[k]).len⟩).flatMap CutD.av:=by
    rw[Akz,Aku]
    exact MJ Gp T (by omega) (by rw[List.getElem_set_self];rfl)
   rw[s2]
   generalize hC2:((C.set k ⟨(C[k]).kind,(C[k]).hour,(C[k]).units,(C[k]).least,wrap .i64 ((C[k]).unit+Int.tmod e 3),(C[k]).len⟩).set k ⟨(C[k]).kind,(C[k]).hour,(C[k]).units,wrap .i64 ((C[k]).least+Int.tmod (wrap .i64 (Int.tdiv e 3)) 3),wrap .i64 ((C[k]).unit+Int.tmod e 3),(C[k]).len⟩)=C2
   have G:C2.length=C.length:=by rw[←hC2,Am4,Am4]
   exact h0 _ _ _ C2 P rfl (Cv Ci P) G (by
    have:=Cv Gp C2
    rw[G] at this;exact this) hP
 rw[show(i==7)=false by simp[q7],cf]
 exact same
theorem r_ {U:List (Int×Int)} {C:List CutD} {P:List NodeD} (h:NodesOk P):LogB ⟨.of U false true,.of C false true,.of P false true⟩:=⟨Amp h.n (by decide),h.b⟩
theorem l8 {c:CaseD} {U:List (Int×Int)} {C:List CutD} {P:List NodeD} {k:Nat} {jc dc ac:LA} {w:Int} {K:Bool→O R} (hs:Small c N) (hN:10000000≤N) (hP:NodesOk P) (e:P.length=k) {b cc:Nat} (j:U.length=b) (q:C.length=cc)
  (e1:jc.take (b*2)=U.flatMap Qf) (s:dc.take (cc*6)=C.flatMap CutD.av) (e3:ac.take (k*5)=P.flatMap NodeD.av) :
  Hm N c.av false [(.imm (jc.take (b*2)) b 2 false true),(.imm (dc.take (cc*6)) cc 6 false true),(.imm (ac.take (k*5)) k 5 false true)] true w K=K true:=by
 rw[e1,s,e3,←j,←q,←e]
 exact uh (x:=⟨.of U false true,.of C false true,.of P false true⟩) hs (r_ hP) hN
theorem l_ {c:CaseD} {U:List (Int×Int)} {C:List CutD} {P:List NodeD} {d f g h:Int} {K:Bool→O R} (hs:Small c N) (hN:10000000≤N) (hC:C.length≤1000) (hP:NodesOk P) (hP1:P.length≤100) (hP2:∀ n ∈ P,n.y.l.length≤1000):∀ (m j fuel:Nat),j+m=P.length→m<fuel →
  B4 N K d f g h c.av U.length C.length P.length (U.flatMap Qf) (C.flatMap CutD.av) (P.flatMap NodeD.av) fuel (j:Int)=K true
 | 0,j,fuel+1,s,_=>by
  rw[B4];unfold E1
  rw[G3 (by omega),cf,G6];unfold Ph
  show cond true _ _=_
  rw[ct,Cc,ct,Be]
  refine Acy (by omega) hC hP hP1 hP2 (fun k dc ac C' P' b e q u v=>?_) (fun k ac P' b e q=>?_)
  ·rw[l8 hs hN v b rfl q (Cv DC U) u e];rfl
  ·rw[l8 hs hN q b rfl rfl (Cv DC U) (Cv Gp C) e];rfl
 | m+1,j,fuel+1,s,z=>by
  rw[B4];unfold E1
  have hh:j<P.length:=by omega
  have hn:=hP.n
  rw[F7 hh,ct,Cc,ct,Be,l8 hs hN hP rfl rfl rfl (Cv DC U) (Cv Gp C) (Cv Ci P),wS (by omega)]
  exact l_ hs hN hC hP hP1 hP2 m (j+1) fuel (by omega) (by omega)
theorem Acz {a b:List Int} {e f i l:Bool} {K:Bool→O R}:LH N (Ah a) a.length e f (Ah b) b.length i l K=K (decide (a.length≤200)&&decide (b.length≤200)):=by
 rw[WO];unfold aQ
 by_cases j:a.length≤200
 ·rw[show(decide ((a.length:Int)≤200)==true)=true by simp;omega,ct,decide_eq_true j]
  by_cases k:b.length≤200
  ·rw[decide_eq_true (show(b.length:Int)≤200 by omega),decide_eq_true k];rfl
  ·rw[decide_eq_false (show ¬ (b.length:Int)≤200 by omega),decide_eq_false k];rfl
 ·rw[show(decide ((a.length:Int)≤200)==true)=false by simp;omega,cf,decide_eq_false j];rfl
theorem uk {P:List NodeD} (k:P.length≤30) (b:∀ n ∈ P,u9 4 1000 n):NodesOk P:=⟨by omega,fun n hn=>⟨Anu (b n hn).1 (by decide),fun e j=>⟨((b n hn).2 e j).1,Amp ((b n hn).2 e j).2 (by decide)⟩⟩⟩
theorem xV {la lb:List Int} {t1 t2 o1 o2:Bool} {d f g h:Int} {K:Bool→O R} (hN:10000000≤N):Hn N (Ah la) la.length t1 o1 (Ah lb) lb.length t2 o2 d f g h K=K true:=by
 rw[Nm];unfold Gu
 rw[Acz]
 cases j:decide (la.length≤200)&&decide (lb.length≤200) with
 | false=>rfl
 | true =>
  simp only[Ak1,decide_eq_true_eq] at j
  rw[show(!true)=false from rfl,cf]
  obtain⟨c,gc,e⟩:=XG (R:=R) (N:=N) (l:=la) (n:=la.length) (t:=false) (o:=o1) rfl (by omega) (by omega)
  have cg:=pK (N:=N) (by omega) gc
  rw[e,show((beq 0 0)&&((beq (c.av.length) 8)&&(beq 8 8)))=true from rfl,ct,Cc,ct,Be]
  obtain⟨U,C,P,u1,c1,c2,k,b,q⟩:=yW (R:=R) (N:=N) (by omega) cg (raw:=lb) (by omega) (f:=false) (d:=o2) (t:=false)
  rw[q]
  exact l_ cg.s hN (by omega) (uk k b) (by omega) (fun n hn=>(b n hn).1) P.length 0 N (by omega) (by omega)
end
end Gx.Bl
namespace Gx.Bl
open Go Go.Proofs Gx.Cf Go.Proofs.Bw
structure Fit (F:List Nd→Bool):Prop where
 nil:F []=true
 kids:∀ q u h,(F (q++[(u,h,0)])).toNat+(F (q++[(u,h,1)])).toNat+(F (q++[(u,h,2)])).toNat=(F q).toNat
theorem L8 {α:Type} (p:α→Bool) (a:α) (l:List α):(a::l).countP p=(p a).toNat+l.countP p:=by
 rw[List.countP_cons];cases p a<;>simp<;>omega
theorem SI {F:List Nd→Bool} (hF:Fit F) {P:List NodeD}:∀ (m a:Nat),a+m=P.length→Kl (Yd (P.map Bx) a).length ((P.map Bx).drop a)=some [] →
  (NZ (P.drop a) a).countP (fun w=>F ((Yd (P.map Bx) w.toNat).headD []))=(Yd (P.map Bx) a).countP F
 | 0,a,u,h=>by
  rw[show P.drop a=[] from Bn (by omega)]
  rw[Amf (show(P.map Bx).length≤a by simp;omega)] at h
  cases hs:Yd (P.map Bx) a with
  | nil=>rfl
  | cons q s=>rw[hs] at h;cases h
 | m+1,a,u,h=>by
  have j:a<P.length:=by omega
  have v:(P.map Bx)[a]?=some (Bx P[a]):=by simp[j]
  have y:(P.map Bx).drop a=Bx P[a]::(P.map Bx).drop (a+1):=by rw[Aln (by simpa using j)];simp
  rw[y] at h
  rw[show P.drop a=P[a]::P.drop (a+1) from Bb j,NZ]
  have hn:=UI v
  cases hs:Yd (P.map Bx) a with
  | nil=>rw[hs] at h;cases h
  | cons q s =>
   rw[hs,Ak8,Kl] at h
   rw[hs] at hn
   by_cases h0:P[a].kind=0
   ·have b:(Bx P[a]).1=0:=h0
    rw[show((Bx P[a]).1==0)=true by simp[b],cond_true] at h
    have e:Ok (q::s) (Bx P[a])=(q++[(P[a].unit,P[a].hour,0)])::(q++[(P[a].unit,P[a].hour,1)])::(q++[(P[a].unit,P[a].hour,2)])::s:=by simp[Ok,h0,Bx]
    rw[e] at hn
    have k:=SI hF (P:=P) m (a+1) (by omega) (by rw[hn];exact h)
    rw[show(P[a].kind != 0)=false by simp[h0],cond_false,k,hn,L8,L8,L8,L8]
    have:=hF.kids q P[a].unit P[a].hour
    omega
   ·have b:¬ (Bx P[a]).1=0:=h0
    rw[show((Bx P[a]).1==0)=false by simpa using b,cond_false] at h
    have e:Ok (q::s) (Bx P[a])=s:=by simp[Ok,b]
    rw[e] at hn
    have k:=SI hF (P:=P) m (a+1) (by omega) (by rw[hn];exact h)
    rw[show(P[a].kind != 0)=true by simp[h0],cond_true,L8,k,hn,L8]
    congr 2
    show F ((Yd (P.map Bx) (a:Int).toNat).headD [])=F q
    rw[Aku,hs];rfl
theorem Ac0 {F:List Nd→Bool} (hF:Fit F) {P:List NodeD} (b:Ei 1 (P.map Bx)=true):(NZ P 0).countP (fun w=>F ((Yd (P.map Bx) w.toNat).headD []))=1:=by
 rw[GI,decide_eq_true_eq] at b
 have h:=SI hF P.length 0 (by omega) b
 refine h.trans ?_
 rw[show Yd (P.map Bx) 0=[[]] from rfl,L8,hF.nil];rfl
def um (c:CaseD) (V:Int→Int) (f:Nd):Bool:=V (wrap .i64 (wrap .i64 (f.1*c.hours)+f.2.1))==f.2.2
theorem Ad6 {c:CaseD} {V:Int→Int} (hV:∀ a,0≤V a∧V a<3):Fit (fun p=>p.all (um c V)):=⟨rfl,fun q u h=>by
 simp only[List.all_append,Ale,Al3,Alm]
 have e:∀ k:Int,um c V (u,h,k)=(V (wrap .i64 (wrap .i64 (u*c.hours)+h))==k):=fun k=>rfl
 rw[e,e,e]
 have:=hV (wrap .i64 (wrap .i64 (u*c.hours)+h))
 generalize V (wrap .i64 (wrap .i64 (u*c.hours)+h))=v at *
 have:v=0∨v=1∨v=2:=by omega
 rcases this with rfl | rfl | rfl<;>cases q.all (um c V)<;>rfl⟩
theorem Ac1:∀ (l:List NodeD) (j:Nat),∀ w ∈ NZ l j,∃ k:Nat,w=((j+k:Nat):Int)∧k<l.length
 | [],_,w,h=>by cases h
 | n::r,j,w,h=>by
  rw[NZ] at h
  have b:w=(j:Int)∨w ∈ NZ r (j+1):=by
   cases e:n.kind != 0<;>rw[e] at h
   ·exact .inr h
   ·exact Alb.1 h
  rcases b with rfl | b
  ·exact⟨0,rfl,by simp⟩
  ·obtain⟨k,rfl,e⟩:=Ac1 r (j+1) w b
   exact⟨k+1,by congr 1;omega,by simp;omega⟩
section
variable {R:Type} {N:Nat}
theorem Afy (ks:List Int) (e:ks.length≤100) (a:Int):∃ v:Int,(0≤v∧v<3)∧∀ B:Int→O R,
  cond ((decide (a≥0))==true) (cond (cond true (decide (a<(ks.length:Int))) false) (cond (Af a ks.length) (Ao .i64 ((Ah ks).drop ((a.toNat)*1)) fun al=>AD N al 3 B) none) (B 0)) (B 0)=B v:=by
 by_cases h0:a≥0
 ·obtain⟨k,rfl⟩:∃ k:Nat,a=(k:Int):=⟨a.toNat,by omega⟩
  by_cases b:k<ks.length
  ·obtain⟨v,v1,v2,v3⟩:=X_ (R:=R) (N:=N) (v:=ks[k]) (n:=3) (by omega) (by omega)
   refine⟨v,⟨v1,v2⟩,fun B=>?_⟩
   rw[decide_eq_true h0,show((true:Bool)==true)=true from rfl,ct]
   show cond (decide ((k:Int)<(ks.length:Int))) _ _=_
   rw[F7 b,ct,Ac b,ct,Qc b,v3]
  ·refine⟨0,by omega,fun B=>?_⟩
   rw[decide_eq_true h0,show((true:Bool)==true)=true from rfl,ct]
   show cond (decide ((k:Int)<(ks.length:Int))) _ _=_
   rw[G3 (by omega),cf]
 ·refine⟨0,by omega,fun B=>?_⟩
  rw[decide_eq_false h0];rfl
theorem y7 {p:List Nd} {q k:Nat} (h:q<p.length) (b:k≤3):drop (0+((Int.toNat (q:Int))*3)+k) (p.flatMap fA)=(fA p[q]).drop k++(p.drop (q+1)).flatMap fA:=by
 rw[Akz,←An9,H7 YC h,Anf (by rw[YC];exact b)]
theorem Ac2 {p:List Nd} {q:Nat} (h:q<p.length):drop (0+((Int.toNat (q:Int))*3)) (p.flatMap fA)=fA p[q]++(p.drop (q+1)).flatMap fA:=by
 rw[Akz,H7 YC h]
def HV (R:Type) (N:Nat) (ks:List Int) (V:Int→Int):Prop:=∀ a,∀ B:Int→O R,
  cond ((decide (a≥0))==true) (cond (cond true (decide (a<(ks.length:Int))) false) (cond (Af a ks.length) (Ao .i64 ((Ah ks).drop ((a.toNat)*1)) fun al=>AD N al 3 B) none) (B 0)) (B 0)=B (V a)
theorem rc {ks:List Int} {V:Int→Int} (hV:HV R N ks V) {c:CaseD} {p:List Nd} {b:Int→Int→O R} {e:Bool→O R} {f1 f2:Bool} {o h i g:Nat} {pp j l mm:LA} {ab ac:Int} (k:p.length≤100000):∀ (m q fuel:Nat) (ae:Bool),q+m=p.length→m<fuel →
  A9 N b e (Ah ks) ks.length f1 f2 o p.length c.av h i g pp (p.flatMap fA) j l mm fuel ab ac ae (q:Int)=cond (ae&&(p.drop q).all (um c V)) (b (wrap .i64 (ab+1)) (wrap .i64 (ac+1))) (b ab (wrap .i64 (ac+1)))
 | 0,q,fuel+1,ae,hq,_=>by
  rw[A9];unfold Ed
  rw[G3 (by omega),cf,show p.drop q=[] from Bn (by omega),Al3,Alm]
 | m+1,q,fuel+1,ae,hq,v=>by
  rw[A9];unfold Ed
  have hh:q<p.length:=by omega
  have s:∀ F:Int→O R,Ao .i64 (drop (0+((Int.toNat (q:Int))*3)) (p.flatMap fA)) F=F (p[q]).1:=fun F=>by rw[Ac2 hh];rfl
  have e1:∀ F:Int→O R,Ao .i64 (drop ((0+((Int.toNat (q:Int))*3))+1) (p.flatMap fA)) F=F (p[q]).2.1:=fun F=>by rw[y7 hh (by omega)];rfl
  have u:∀ F:Int→O R,Ao .i64 (drop ((0+((Int.toNat (q:Int))*3))+2) (p.flatMap fA)) F=F (p[q]).2.2:=fun F=>by rw[y7 hh (by omega)];rfl
  rw[F7 hh,ct,Ac hh,ct,s,Fb,ct,e1]
  refine Apl (hV (wrap .i64 (wrap .i64 ((p[q]).1*c.hours)+(p[q]).2.1)) fun am=>cond (ae==true) (cond true (Ao .i64 (drop ((0+((Int.toNat (q:Int))*3))+2) (p.flatMap fA)) fun an=>A9 N b e (Ah ks) ks.length f1 f2 o p.length c.av h i g pp (p.flatMap fA) j l mm fuel ab ac (cond true (am==an) false) (wrap .i64 ((q:Int)+1))) none) (A9 N b e (Ah ks) ks.length f1 f2 o p.length c.av h i g pp (p.flatMap fA) j l mm fuel ab ac false (wrap .i64 ((q:Int)+1)))) ?_
  rw[u,wS (by omega),Bb hh,Ale]
  cases ae with
  | false =>
   refine(rc hV k m (q+1) fuel false (by omega) (by omega)).trans ?_
   rfl
  | true =>
   refine(rc hV k m (q+1) fuel _ (by omega) (by omega)).trans ?_
   rfl
theorem rf {ks:List Int} {V:Int→Int} (hV:HV R N ks V) {c:CaseD} {U:List (Int×Int)} {C:List CutD} {P:List NodeD} {b:Bool→O R} {f1 f2:Bool} (hs:Small c N) (hN:10000000≤N) (hP:NodesOk P) (h0:Nr c ⟨.of U false true,.of C false true,.of P false true⟩=0):∀ (m i fuel fd:Nat),i+m=(NZ P 0).length→m<fuel→fd≤i →
  Bs N b (Ah ks) ks.length f1 f2 (NZ P 0).length c.av U.length C.length P.length (Ah (NZ P 0)) (U.flatMap Qf) (C.flatMap CutD.av) (P.flatMap NodeD.av) fuel (fd:Int) (i:Int) =
   b (((fd+((NZ P 0).drop i).countP (fun w=>((Yd (P.map Bx) w.toNat).headD []).all (um c V)):Nat):Int)==1)
 | 0,i,fuel+1,fd,hi,_,j=>by
  rw[Bs];unfold Ee
  rw[G3 (by omega),cf,G6];unfold Ph
  rw[show(NZ P 0).drop i=[] from Bn (by omega)]
  rfl
 | m+1,i,fuel+1,fd,hi,u,j=>by
  rw[Bs];unfold Ee
  have hh:i<(NZ P 0).length:=by omega
  have v:=gN P 0
  have hn:=hP.n
  obtain⟨k,e,y⟩:=Ac1 P 0 _ (Ak3 hh)
  rw[Akz] at e
  have xB:LogB ⟨.of U false true,.of C false true,.of P false true⟩:=r_ hP
  have eF:lY c ⟨.of U false true,.of C false true,.of P false true⟩ (NZ P 0)[i]=0:=by
   unfold lY
   rw[h0,e,show((0:Int) != 0)=false from rfl,cond_false]
   show cond (decide ((0:Int)≤(k:Int))&&decide ((k:Int)<(P.length:Int))) 0 12=(0:Int)
   rw[decide_eq_true (by omega),decide_eq_true (by omega)];rfl
  have eP:YB c ⟨.of U false true,.of C false true,.of P false true⟩ (NZ P 0)[i]=(Yd (P.map Bx) ((NZ P 0)[i]).toNat).headD []:=by
   unfold YB;rw[eF];rfl
  have s:=uf (c:=c) xB.n (NZ P 0)[i]
  have ex:[(.imm ((U.flatMap Qf).take (U.length*2)) U.length 2 false true),(.imm ((C.flatMap CutD.av).take (C.length*6)) C.length 6 false true),(.imm ((P.flatMap NodeD.av).take (P.length*5)) P.length 5 false true)]=LogD.av ⟨.of U false true,.of C false true,.of P false true⟩:=by
   rw[Cv DC,Cv Gp,Cv Ci];rfl
  rw[F7 hh,ct,Cc,ct,Ac hh,ct,show ∀ q,0+q=q from Akz,Qc hh,Be,ex,lZ hs xB hN,eF,show((0:Int) != 0)=false from rfl,cf]
  refine(rc hV s (YB c ⟨.of U false true,.of C false true,.of P false true⟩ (NZ P 0)[i]).length 0 N true (by omega) (by omega)).trans ?_
  rw[Ak7,Anb,Bb hh,L8,wS (by omega),wS (by omega),eP]
  cases z:((Yd (P.map Bx) ((NZ P 0)[i]).toNat).headD []).all (um c V) with
  | true =>
   refine(rf hV hs hN hP h0 m (i+1) fuel (fd+1) (by omega) (by omega) (by omega)).trans ?_
   congr 3;simp;omega
  | false =>
   refine(rf hV hs hN hP h0 m (i+1) fuel fd (by omega) (by omega) (by omega)).trans ?_
   congr 3;simp
theorem rg {ks:List Int} {V:Int→Int} (hV:HV R N ks V) (hV2:∀ a,0≤V a∧V a<3) {c:CaseD} {U:List (Int×Int)} {C:List CutD} {K:Bool→O R} {f1 f2:Bool} (hs:Small c N) (hN:10000000≤N) (hC:C.length≤1000):∀ (m j fuel:Nat) (P:List NodeD),NodesOk P→j+m=P.length→m<fuel →
  Ch N K (Ah ks) ks.length f1 f2 c.av U.length C.length P.length (U.flatMap Qf) (C.flatMap CutD.av) fuel (j:Int) (P.flatMap NodeD.av)=K true
 | 0,j,fuel+1,P,hP,s,_=>by
  rw[Ch];unfold Ef
  have hn:=hP.n
  have xB:LogB ⟨.of U false true,.of C false true,.of P false true⟩:=r_ hP
  have ex:[(.imm ((U.flatMap Qf).take (U.length*2)) U.length 2 false true),(.imm ((C.flatMap CutD.av).take (C.length*6)) C.length 6 false true),(.imm ((P.flatMap NodeD.av).take (P.length*5)) P.length 5 false true)]=LogD.av ⟨.of U false true,.of C false true,.of P false true⟩:=by
   rw[Cv DC,Cv Gp,Cv Ci];rfl
  rw[G3 (by omega),cf,Cc,ct,Be,ex,ee hs xB hN]
  cases k:Nr c ⟨.of U false true,.of C false true,.of P false true⟩ != 0 with
  | true =>
   rw[ct,G6];unfold Ph
   show cond true (Ps N c.av false (LogD.av ⟨.of U false true,.of C false true,.of P false true⟩) true _) _=_
   rw[ct,GJ hs xB hN]
   show cond ((Nr c ⟨.of U false true,.of C false true,.of P false true⟩==Nr c ⟨.of U false true,.of C false true,.of P false true⟩)==true) (Mm N c.av false (LogD.av ⟨.of U false true,.of C false true,.of P false true⟩) true _) _=_
   rw[beq_self_eq_true,show((true:Bool)==true)=true from rfl,ct,Zr hs xB hN]
   show K (_==_)=_
   rw[beq_self_eq_true]
  | false =>
   have h0:Nr c ⟨.of U false true,.of C false true,.of P false true⟩=0:=by simpa[bne] using k
   have u:=(bG h0).1
   have v:Ac5 c ⟨.of U false true,.of C false true,.of P false true⟩=NZ P 0:=by unfold Ac5;rw[h0];rfl
   have D:=gN P 0
   rw[cf,v]
   refine(rf hV hs hN hP h0 (NZ P 0).length 0 N 0 (by omega) (by omega) (by omega)).trans ?_
   have z:(NZ P 0).countP (fun w=>((Yd (P.map Bx) w.toNat).headD []).all (um c V))=1:=Ac0 (F:=fun p=>p.all (um c V)) (Ad6 hV2) (P:=P) u
   rw[Ak7,z];rfl
 | m+1,j,fuel+1,P,hP,s,G=>by
  rw[Ch];unfold Ef
  have hh:j<P.length:=by omega
  have hn:=hP.n
  rw[F7 hh,ct,Ac hh,ct,show ∀ q,0+q=q from Akz,r8 hh,wS (by omega)]
  cases (P[j]).kind==0 with
  | true =>
   have hr:=Wf hh (show 4<5 by omega)
   rw[show ∀ q,0+q=q from Akz] at hr
   have A:=hP.b _ (Ak3 hh)
   rw[ct,ct,hr,ct,Aku,MJ Ci hh (by omega) (show NodeD.av ⟨(P[j]).kind,(P[j]).unit,(P[j]).hour,(P[j]).other,.nil⟩=_ from rfl)]
   have:=rg hV hV2 (U:=U) (K:=K) (f1:=f1) (f2:=f2) hs hN hC m (j+1) fuel (P.set j ⟨(P[j]).kind,(P[j]).unit,(P[j]).hour,(P[j]).other,.nil⟩) (hP.set j ⟨Nat.zero_lt_of_lt A.y,fun e k=>by cases k⟩) (by rw[Am4];omega) (by omega)
   rw[Am4] at this
   exact this
  | false=>exact rg hV hV2 hs hN hC m (j+1) fuel P hP (by omega) (by omega)
theorem uo {la lb lc:List Int} {t1 t2 t3 o1 o2 o3:Bool} {K:Bool→O R} (hN:10000000≤N):Gv N (Ah la) la.length t1 o1 (Ah lb) lb.length t2 o2 (Ah lc) lc.length t3 o3 K=K true:=by
 rw[Mw];unfold Fw
 rw[Acz]
 cases j:decide (la.length≤200)&&decide (lb.length≤200) with
 | false=>rfl
 | true =>
  simp only[Ak1,decide_eq_true_eq] at j
  rw[show((!true)==false)=true from rfl,ct]
  show cond (decide ((lc.length:Int)>60)) _ _=_
  by_cases k:lc.length≤60
  ·rw[decide_eq_false (by omega),cf]
   unfold E2 G2
   obtain⟨c,gc,e⟩:=XG (R:=R) (N:=N) (l:=la) (n:=la.length) (t:=false) (o:=o1) rfl (by omega) (by omega)
   have cg:=pK (N:=N) (by omega) gc
   rw[e,show((beq 0 0)&&((beq (c.av.length) 8)&&(beq 8 8)))=true from rfl,ct,Cc,ct,Be]
   obtain⟨U,C,P,u1,c1,c2,q,u,v⟩:=yW (R:=R) (N:=N) (by omega) cg (raw:=lb) (by omega) (f:=false) (d:=o2) (t:=false)
   rw[v]
   have b:=fun a=>Afy (R:=R) (N:=N) lc (by omega) a
   exact rg (V:=fun a=>Classical.choose (b a)) (fun a=>(Aoz (b a)).2) (fun a=>(Aoz (b a)).1) cg.s hN (by omega) P.length 0 N P (uk q u) (by omega) (by omega)
  ·rw[decide_eq_true (by omega)];rfl
end
end Gx.Bl
