/- A part of the proof: what it holds is said by each theorem. -/
import Derived.Test.YtcbkbnhmbpmfjaaP2
set_option linter.unusedVariables false
set_option linter.defProp false
set_option linter.unusedSimpArgs false
namespace Gx
open Go
open IntKind (wrap)
section
variable {R:Type}
def BG (P:List Nat) (i:Nat):Nat:=P.getD i 0
theorem Wv {P:List Nat} {i:Nat} (h:i<P.length):P[i]?=some (BG P i):=by
 unfold BG;rw[List.getD_eq_getElem?_getD,List.getElem?_eq_getElem h];rfl
theorem TR {n:Nat} {P:List Nat} (h:Im n P):Ren n (BG P):=by
 obtain⟨h1,h2,h3⟩:=h
 refine⟨fun i hi=>h2 _ (List.mem_of_getElem? (Wv (by omega))),fun i j hi hj e=>?_⟩
 have a:=Wv (P:=P) (i:=i) (by omega)
 have b:=Wv (P:=P) (i:=j) (by omega)
 obtain⟨a1,a2⟩:=List.getElem?_eq_some_iff.1 a
 obtain⟨b1,b2⟩:=List.getElem?_eq_some_iff.1 b
 exact(List.getElem_inj h1).1 (a2.trans (e.trans b2.symm))
structure HR (n:Nat) (H:List (List Int)) (Q:Nat→Nat→Prop):Prop where
 len:H.length=n
 asc:∀ i,(Ah H i).Pairwise (·<·)
 nat:∀ i x,x ∈ Ah H i→∃ j:Nat,x=(j:Int)∧j<n
 rel:∀ i j:Nat,(j:Int) ∈ Ah H i↔Q i j
theorem HR.rowlen {n:Nat} {H:List (List Int)} {Q:Nat→Nat→Prop} (h:HR n H Q) (i:Nat):(Ah H i).length≤n:=by
 have e:Ah H i=Ap (Nq (Ah H i)):=by
  unfold Ap Nq
  rw[List.map_map]
  conv=>lhs;rw[←List.map_id (Ah H i)]
  exact List.map_congr_left (fun x hx=>by obtain⟨j,rfl,_⟩:=h.nat i x hx;simp)
 have:=NB n (Nq (Ah H i)) (by
  have h1:=h.asc i
  unfold Nq List.Nodup
  rw[List.pairwise_map]
  refine List.Pairwise.imp_of_mem (R:=(·<·)) (fun {a b} ha hb hab=>?_) h1
  obtain⟨j,rfl,_⟩:=h.nat i a ha
  obtain⟨k,rfl,_⟩:=h.nat i b hb
  simp;omega) (fun x hx=>by
  unfold Nq at hx
  obtain⟨y,hy,rfl⟩:=List.mem_map.1 hx
  obtain⟨j,rfl,hj⟩:=h.nat i y hy
  simpa using hj)
 simpa[Nq] using this
theorem HR.ins {n:Nat} {H:List (List Int)} {Q:Nat→Nat→Prop} (h:HR n H Q) {a b:Nat} (ha:a<n) (hb:b<n):HR n (H.set a (ins (Ah H a) (b:Int))) (fun i j=>Q i j∨(i=a∧j=b)):=by
 have hl:=h.len
 have hrow:∀ i,Ah (H.set a (Gx.ins (Ah H a) (b:Int))) i=if i=a then Gx.ins (Ah H a) (b:Int) else Ah H i:=fun i=>IG (by omega)
 refine⟨by rw[List.length_set];exact hl,fun i=>?_,fun i x hx=>?_,fun i j=>?_⟩
 ·rw[hrow];split
  ·exact EQ (h.asc a)
  ·exact h.asc i
 ·rw[hrow] at hx
  split at hx
  ·rcases Wu.1 hx with h1 | h1
   ·exact⟨b,h1,hb⟩
   ·exact h.nat a x h1
  ·exact h.nat i x hx
 ·rw[hrow]
  by_cases e:i=a
  ·subst e
   rw[if_pos rfl,Wu,h.rel]
   constructor
   ·rintro(h1 | h1)
    ·exact .inr ⟨rfl,by omega⟩
    ·exact .inl h1
   ·rintro(h1 | ⟨_,h1⟩)
    ·exact .inr h1
    ·exact .inl (by omega)
  ·rw[if_neg e,h.rel]
   constructor
   ·exact .inl
   ·rintro(h1 | ⟨h1,_⟩)
    ·exact h1
    ·exact absurd h1 e
theorem HR.congr {n:Nat} {H:List (List Int)} {Q Q':Nat→Nat→Prop} (h:HR n H Q) (he:∀ i j,Q i j↔Q' i j):HR n H Q':=⟨h.len,h.asc,h.nat,fun i j=>(h.rel i j).trans (he i j)⟩
def Qr (n:Nat) (A:Nat→Nat→Bool) (p:Nat→Nat) (v r:Nat) (i j:Nat):Prop:=∃ a b,i=p a∧j=p b∧((a<v∧b ∈ A6 n A a)∨(a=v∧b ∈ (A6 n A v).take r))
theorem ZN {N n v:Nat} {A:Nat→Nat→Bool} {P:List Nat} {f i:LA} {g:Bool} {c:Nat} {k0:Int→Bool→LA→O R} {r0:Bool→O R} {Y:O R} (hN:2000≤N) (hn:n≤1000) (hP:Im n P) (hv:v<n)
  (hK:∀ s H,GR s H→HR n H (Qr n A (BG P) v (A6 n A v).length)→k0 ((v+1:Nat):Int) false s=Y) :
  ∀ (fuel r:Nat) (s:LA) (H:List (List Int)),r≤(A6 n A v).length→(A6 n A v).length - r<fuel→GR s H→HR n H (Qr n A (BG P) v r) →
   Be N k0 r0 f n g c n (Ab (Ap (A6 n A v))) (A6 n A v).length i (Ab (Ap P)) fuel (v:Int) ((A6 n A v).length:Int) (r:Int) false s=Y
 | 0,_,_,_,_,h,_,_=>by omega
 | fuel+1,r,s,H,hr,hf,hs,hH=>by
  have hnl:=Oj n A v
  have hPl:=hP.2.2
  have hlen:=A2 (A6 n A v)
  have hlen2:=A2 P
  have hren:=TR hP
  rw[Be,Dt]
  by_cases hlt:r<(A6 n A v).length
  ·obtain⟨w,hw⟩:∃ w,(A6 n A v)[r]?=some w:=⟨_,List.getElem?_eq_getElem hlt⟩
   have hwn:=(Bn.1 (List.mem_of_getElem? hw)).1
   have hpv:=Wv (P:=P) (i:=v) (by omega)
   have hpw:=Wv (P:=P) (i:=w) (by omega)
   have l1:=hren.lt v hv
   have l2:=hren.lt w hwn
   have hHl:=hH.len
   have hrow:=hH.rowlen (BG P v)
   have hsl:=hs.1
   rw[Kc (by omega),cond_true,A8 hlt,cond_true,Gn (by omega),Bu hw,A8 hv,cond_true,Fu (by omega),Bu hpv,cond_true,Fu (by omega),Bu hpv,A8 l1,cond_true,WR hs (by omega),A8 hwn,cond_true,Fu (by omega),Bu hpw,BE hN (by omega),cond_true,M_ (x:=BG P v) (by omega),cond_true,wS (by omega)]
   simp only[Int.toNat_natCast,Nat.zero_add,Nat.mul_one,Bool.or_false]
   have e1:Nat→Nat:=id
   refine ZN hN hn hP hv hK fuel (r+1) _ _ (by omega) (by omega) (SK hs (by omega)) ((hH.ins l1 l2).congr (fun x y=>?_))
   unfold Qr
   rw[Cv hw]
   constructor
   ·rintro(⟨a,b,h1,h2,h3⟩ | ⟨h1,h2⟩)
    ·refine⟨a,b,h1,h2,?_⟩
     rcases h3 with h3 | ⟨h3,h4⟩
     ·exact .inl h3
     ·exact .inr ⟨h3,List.mem_append_left _ h4⟩
    ·exact⟨v,w,h1,h2,.inr ⟨rfl,by simp⟩⟩
   ·rintro⟨a,b,h1,h2,h3⟩
    rcases h3 with h3 | ⟨h3,h4⟩
    ·exact .inl ⟨a,b,h1,h2,.inl h3⟩
    ·rcases List.mem_append.1 h4 with h4 | h4
     ·exact .inl ⟨a,b,h1,h2,.inr ⟨h3,h4⟩⟩
     ·rw[List.mem_singleton.1 h4] at h2;rw[h3] at h1
      exact .inr ⟨h1,h2⟩
  ·have:r=(A6 n A v).length:=by omega
   subst this
   rw[Ja (by omega),cond_false,wS (by omega)]
   exact hK s H hs hH
theorem ZO {N n:Nat} {rows:List (List Int)} {P:List Nat} {f i:LA} {g:Bool} {c:Nat} {r0:Bool→O R} {Y:O R} (hN:2000≤N) (hn:n≤1000) (hP:Im n P) (hg:GR f rows) (hv:vG rows=true) (hrl:rows.length=n)
  (hK:∀ s H,GR s H→HR n H (Qr n (Aw rows) (BG P) n 0)→Bf N r0 f n g c n i (Ab (Ap P)) false s N 0 (c:Int) 0 []=Y) :
  ∀ (fuel v:Nat) (s:LA) (H:List (List Int)),v≤n→n - v<fuel→GR s H→HR n H (Qr n (Aw rows) (BG P) v 0) →
   A3 N r0 f n g c n i (Ab (Ap P)) fuel (v:Int) false s=Y
 | 0,_,_,_,_,h,_,_=>by omega
 | fuel+1,v,s,H,hvn,hf,hs,hH=>by
  rw[A3,Dv]
  by_cases hlt:v<n
  ·have hrow:=IA hv v
   rw[hrl] at hrow
   have hnl:=Oj n (Aw rows) v
   rw[Kc (by omega),cond_true,A8 hlt,cond_true,Jl hg (by omega),hrow,A2]
   refine ZN hN hn hP hlt (fun s' H' h1 h2=>?_) N 0 s H (Nat.zero_le _) (by omega) hs hH
   refine ZO hN hn hP hg hv hrl hK fuel (v+1) s' H' (by omega) (by omega) h1 (h2.congr (fun x y=>?_))
   unfold Qr
   constructor
   ·rintro⟨a,b,e1,e2,e3⟩
    refine⟨a,b,e1,e2,.inl ?_⟩
    rcases e3 with⟨e3,e4⟩ | ⟨rfl,e4⟩
    ·exact⟨by omega,e4⟩
    ·rw[List.take_length] at e4;exact⟨by omega,e4⟩
   ·rintro⟨a,b,e1,e2,e3⟩
    rcases e3 with⟨e3,e4⟩ | ⟨e3,e4⟩
    ·refine⟨a,b,e1,e2,?_⟩
     by_cases e:a=v
     ·subst e;exact .inr ⟨rfl,by rw[List.take_length];exact e4⟩
     ·exact .inl ⟨by omega,e4⟩
    ·simp at e4
  ·have:v=n:=by omega
   subst this
   rw[Ja (by omega),cond_false]
   exact hK s H hs hH
theorem ZP {N n:Nat} {P o:List Nat} {f s:LA} {g:Bool} {r0:Bool→O R} {Y:O R} (hn:n≤1000) (hP:Im n P) (ho:Im n o)
  (hK:F4 N f n false g ((Ab (Ap o)).take (n*1)) n false true (fun az ba=>(F4 N (s.take (n*1)) n false true ((Ab (Ap (o.map (BG P)))).take (n*1)) n false true (fun bb bc=>(Ck N (fun bd=>(cond (bd==true) (cond ((cond true (ba==0) false)==true) (cond ((cond true (bc==0) false)==true) (r0 (cond true (az==bb) false)) (r0 false)) (r0 false)) (r0 false)))))))=Y) :
  ∀ (fuel v:Nat),v≤n→n - v<fuel→Bf N r0 f n g n n (Ab (Ap o)) (Ab (Ap P)) false s fuel v (n:Int) (v:Int) (Ab (Ap ((o.take v).map (BG P))))=Y
 | 0,_,_,h=>by omega
 | fuel+1,v,hv,hf=>by
  have hol:=ho.2.2
  have hPl:=hP.2.2
  have hlen:=A2 o
  have hlen2:=A2 P
  rw[Bf,Du]
  by_cases hlt:v<n
  ·obtain⟨x,hx⟩:∃ x,o[v]?=some x:=⟨_,List.getElem?_eq_getElem (by omega)⟩
   have hxn:=ho.2.1 x (List.mem_of_getElem? hx)
   have hpx:=Wv (P:=P) (i:=x) (by omega)
   have hb:(Nat.ble (v+1) 140737488355328&&Nat.ble ((v+1)*8) 140737488355328)=true:=by simp;omega
   have e1:(Ab (Ap ((o.take v).map (BG P)))).take (v*1)++[AV.int .i64 ((BG P x:Nat):Int)]=Ab (Ap ((o.take (v+1)).map (BG P))):=by
    rw[Cv hx,List.take_of_length_le (by rw[Ci,A2];simp;omega)]
    simp[Ab,Ap]
   rw[Kc (by omega),cond_true,A8 hlt,cond_true,Fu (by omega),Bu hx,A8 hxn,cond_true,Fu (by omega),Bu hpx,hb,cond_true,wS (by omega),e1]
   exact ZP hn hP ho hK fuel (v+1) (by omega) (by omega)
  ·have:v=n:=by omega
   subst this
   rw[Ja (by omega),cond_false]
   have e2:o.take v=o:=List.take_of_length_le (by omega)
   rw[e2]
   exact hK
theorem VC {n:Nat} {p:Nat→Nat} {o:List Nat} (hp:Ren n p) (ho:Im n o):Im n (o.map p):=by
 refine⟨?_,fun x hx=>?_,by rw[List.length_map];exact ho.2.2⟩
 ·unfold List.Nodup
  rw[List.pairwise_map]
  exact List.Pairwise.imp_of_mem (R:=(·≠·)) (fun {a b} ha hb hab e=>hab (hp.inj a b (ho.2.1 a ha) (ho.2.1 b hb) e)) ho.1
 ·obtain⟨y,hy,rfl⟩:=List.mem_map.1 hx
  exact hp.lt y (ho.2.1 y hy)
theorem Zt {rows:List (List Int)} {o:List Nat} (hv:vG rows=true) (ho:Im rows.length o):aS rows (Ap o)=(((Hq rows.length (Aw rows) o:Nat):Int),0):=by
 unfold aS;rw[hv,PZ ho,KW];rfl
theorem NF {N:Nat} {ch pm nm:List Int} {s l t u v w:Bool} {r0:Bool→O R} (hN:2000≤N) (hch:ch.length≤9223372036854775807) (hpm:pm.length≤9223372036854775807) (hnm:nm.length≤9223372036854775807) :
  B3 N (Ab ch) ch.length s l (Ab pm) pm.length t u (Ab nm) nm.length v w r0=r0 true:=by
 rw[Gk,Cx]
 obtain⟨gc,rx,h1,h2,h3,h4⟩:=IH (R:=R) (p:=false) (e:=l) hN hch
 obtain⟨o,k',hp,hpK⟩:=EP (R:=R) (N:=N) (n:=rx.length) (l:=pm) (d:=false) (e:=u) hN hpm (by omega)
 obtain⟨P,k'',hP,hPK⟩:=EP (R:=R) (N:=N) (n:=rx.length) (l:=nm) (d:=false) (e:=w) hN hnm (by omega)
 have hren:=TR hP
 have hn:rx.length≤1000:=by omega
 have hb:(decide (0≤((rx.length:Nat):Int))&&(decide (((rx.length:Nat):Int)≤((rx.length:Nat):Int))&&(decide (((rx.length:Nat):Int)≤140737488355328)&&decide (((rx.length:Nat):Int)*((24:Nat):Int)≤140737488355328))))=true:=by simp;omega
 rw[h4,IF,hpK,IF,hPK,hb,cond_true]
 have hrow:∀ i,Ah (List.replicate rx.length []) i=[]:=by
  intro i
  unfold Ah
  rw[List.getD_eq_getElem?_getD]
  by_cases h:i<rx.length<;>simp[h]
 have hg0:GR (List.replicate rx.length AV.nsl) (List.replicate rx.length []):=by
  refine⟨by simp,fun i s hs=>?_⟩
  rw[List.getElem?_replicate] at hs
  split at hs
  ·rename_i hi
   injection hs with hs
   subst hs
   exact⟨AV.nsl,by rw[List.getElem?_replicate,if_pos hi],by simp[Qz,Ab]⟩
  ·cases hs
 have hH0:HR rx.length (List.replicate rx.length []) (Qr rx.length (Aw rx) (BG P) 0 0):=by
  refine⟨by simp,fun i=>by rw[hrow];exact List.Pairwise.nil,(fun i x hx=>by rw[hrow] at hx;cases hx),fun i j=>?_⟩
  rw[hrow];unfold Qr
  constructor
  ·intro h;cases h
  ·rintro⟨a,b,_,_,h | ⟨_,h⟩⟩
   ·omega
   ·simp at h
 refine ZO hN hn hP h1 h2 rfl (fun sc H hs hH=>?_) N 0 _ (List.replicate rx.length []) (Nat.zero_le _) (by omega) hg0 hH0
 have hHl:=hH.len
 have hq:∀ i j,Qr rx.length (Aw rx) (BG P) rx.length 0 i j↔∃ a b,i=BG P a∧j=BG P b∧Aw rx a b=true:=by
  intro i j
  unfold Qr
  constructor
  ·rintro⟨a,b,e1,e2,⟨_,e4⟩ | ⟨_,e4⟩⟩
   ·exact⟨a,b,e1,e2,(Bn.1 e4).2⟩
   ·simp at e4
  ·rintro⟨a,b,e1,e2,e3⟩
   obtain⟨l1,l2⟩:=EL h2 e3
   exact⟨a,b,e1,e2,.inl ⟨l1,Bn.2 ⟨l2,e3⟩⟩⟩
 have hrel:∀ i j:Nat,(j:Int) ∈ Ah H i↔∃ a b,i=BG P a∧j=BG P b∧Aw rx a b=true:=fun i j=>(hH.rel i j).trans (hq i j)
 have hvH:vG H=true:=by
  refine TO hH.asc (fun i x hx=>?_) (fun i j hij=>?_)
  ·obtain⟨j,rfl,hj⟩:=hH.nat i x hx
   refine⟨j,rfl,by omega,?_⟩
   obtain⟨a,b,rfl,rfl,e3⟩:=(hrel i j).1 hx
   obtain⟨l1,l2⟩:=EL h2 e3
   intro e
   have:=hren.inj b a l2 l1 e
   subst this
   rw[(Qy h2).irr] at e3;cases e3
  ·obtain⟨a,b,rfl,rfl,e3⟩:=(hrel i j).1 hij
   exact(hrel _ _).2 ⟨b,a,rfl,rfl,Zp h2 e3⟩
 have hadj:∀ i j,i<rx.length→j<rx.length→Aw H (BG P i) (BG P j)=Aw rx i j:=by
  intro i j hi hj
  cases hA:Aw rx i j with
  | true=>exact decide_eq_true ((hrel _ _).2 ⟨i,j,rfl,rfl,hA⟩)
  | false =>
   refine decide_eq_false (fun hm=>?_)
   obtain⟨a,b,e1,e2,e3⟩:=(hrel _ _).1 hm
   obtain⟨l1,l2⟩:=EL h2 e3
   rw[←hren.inj i a hi l1 e1,←hren.inj j b hj l2 e2,hA] at e3;cases e3
 refine ZP hn hP hp ?_ N 0 (Nat.zero_le _) (by omega)
 have hom:=VC hren hp
 have hpl:(Ap o).length=rx.length:=by rw[A2];exact hp.2.2
 have hpl2:(Ap (o.map (BG P))).length=rx.length:=by rw[A2];exact hom.2.2
 have e1:=Sf (l:=Ap o)
 rw[hpl] at e1
 have e2:=Sf (l:=Ap (o.map (BG P)))
 rw[hpl2] at e2
 have e3:sc.take (rx.length*1)=sc:=by rw[Nat.mul_one,List.take_of_length_le (by rw[hs.1,hHl];exact Nat.le_refl _)]
 rw[e1,e2,e3]
 have f1:=Nr (N:=N) (rows:=rx) (ord:=Ap o) (d:=gc) (q:=false) (p:=false) (f:=false) (e:=true) (r0:=(fun az ba=>(F4 N sc rx.length false true (Ab (Ap (o.map (BG P)))) rx.length false true (fun bb bc=>(Ck N (fun bd=>(cond (bd==true) (cond ((cond true (ba==0) false)==true) (cond ((cond true (bc==0) false)==true) (r0 (cond true (az==bb) false)) (r0 false)) (r0 false)) (r0 false)))))))) hN h1 hn (Sg h2 hn) (by omega)
 rw[hpl] at f1
 refine Eq.trans f1 ?_
 rw[Zt h2 hp]
 have hom':Im H.length (o.map (BG P)):=by rw[hHl];exact hom
 have f2:=Nr (N:=N) (rows:=H) (ord:=Ap (o.map (BG P))) (d:=sc) (q:=false) (p:=true) (f:=false) (e:=true) (r0:=(fun bb bc=>(Ck N (fun bd=>(cond (bd==true) (cond ((cond true ((0:Int)==0) false)==true) (cond ((cond true (bc==0) false)==true) (r0 (cond true (((Hq rx.length (Aw rx) o:Nat):Int)==bb) false)) (r0 false)) (r0 false)) (r0 false)))))) hN hs (by omega) (Sg hvH (by omega)) (by omega)
 rw[hpl2,hHl] at f2
 refine Eq.trans f2 ?_
 rw[Zt hvH hom',II hN,hHl,IL hren o (Aw rx) (Aw H) (Qy h2) (Qy hvH) hadj hp.2.1]
 simp
end
end Gx

namespace Gx
open Go
section
variable {R:Type}
theorem QA (N:Nat) {K:Bool→O R} {ch pm:List Int} {s l t u:Bool} (hN:2000≤N) (hch:ch.length≤9223372036854775807) (hpm:pm.length≤9223372036854775807):Cd N (Ab ch) ch.length s l (Ab pm) pm.length t u K=K true:=SM hN hch hpm
theorem JK (N:Nat) {K:Bool→O R} {ch pm nm:List Int} {s l t u v w:Bool} (hN:2000≤N) (hch:ch.length≤9223372036854775807) (hpm:pm.length≤9223372036854775807) (hnm:nm.length≤9223372036854775807):B3 N (Ab ch) ch.length s l (Ab pm) pm.length t u (Ab nm) nm.length v w K=K true:=NF hN hch hpm hnm
end
end Gx

namespace Gx
open Go
open IntKind (wrap)
section
def sm:Nat→(Nat→Nat)→Nat
 | 0,_=>0
 | n+1,f=>sm n f+f n
def NI (b:Bool):Nat:=if b then 1 else 0
theorem Hr {n:Nat} {f g:Nat→Nat} (h:∀ i,i<n→f i=g i):sm n f=sm n g:=by
 induction n with
 | zero=>rfl
 | succ n ih=>rw[sm,sm,ih (fun i hi=>h i (by omega)),h n (by omega)]
theorem SN (n:Nat) (f g:Nat→Nat):sm n (fun i=>f i+g i)=sm n f+sm n g:=by
 induction n with
 | zero=>rfl
 | succ n ih=>rw[sm,sm,sm,ih];omega
theorem TS (n:Nat):sm n (fun _=>0)=0:=by
 induction n with
 | zero=>rfl
 | succ n ih=>rw[sm,ih]
theorem ZQ {n c:Nat} {f:Nat→Nat} (h:∀ i,i<n→f i≤c):sm n f≤c*n:=by
 induction n with
 | zero=>simp[sm]
 | succ n ih =>
  rw[sm,Nat.mul_succ]
  have:=ih (fun i hi=>h i (by omega))
  have:=h n (by omega)
  omega
theorem bG {n:Nat} {f:Nat→Nat} {i:Nat} (hi:i<n):f i≤sm n f:=by
 induction n with
 | zero=>omega
 | succ n ih =>
  rw[sm]
  by_cases e:i=n
  ·subst e;omega
  ·have:=ih (by omega);omega
theorem XI {n v:Nat} {f:Nat→Nat} (hv:v<n):sm n (fun i=>if i=v then f i else 0)=f v:=by
 induction n with
 | zero=>omega
 | succ n ih =>
  rw[sm]
  by_cases e:n=v
  ·subst e
   rw[if_pos rfl,Hr (g:=fun _=>0) (fun i hi=>by rw[if_neg (by omega)]),TS];omega
  ·rw[if_neg e,ih (by omega)];omega
theorem SO (n:Nat) (A:Nat→Nat→Bool) (v:Nat):(A6 n A v).length=sm n (fun j=>NI (A v j)):=by
 induction n with
 | zero=>rfl
 | succ n ih =>
  rw[PS,List.length_append,ih,sm]
  unfold NI
  cases A v n<;>rfl
def KX (n:Nat) (f:Nat→Nat→Nat):Nat:=sm n (fun i=>sm n (f i))
theorem bH (n:Nat) (f:Nat→Nat→Nat):KX (n+1) f=KX n f+sm n (fun i=>f i n)+sm n (f n)+f n n:=by
 unfold KX
 rw[sm]
 have:sm n (fun i=>sm (n+1) (f i))=sm n (fun i=>sm n (f i))+sm n (fun i=>f i n):=by
  rw[←SN];rfl
 rw[this,sm];omega
theorem VD {n:Nat} {f g:Nat→Nat→Nat} (h:∀ i j,i<n→j<n→f i j=g i j):KX n f=KX n g:=Hr (fun i hi=>Hr (fun j hj=>h i j hi hj))
theorem NG (n:Nat) (f g:Nat→Nat→Nat):KX n (fun i j=>f i j+g i j)=KX n f+KX n g:=by
 unfold KX
 rw[←SN]
 exact Hr (fun i _=>SN n (f i) (g i))
def jn (A:Nat→Nat→Bool) (v i j:Nat):Nat:=NI (!decide (i=j)&&(A v i&&(A v j&&!A i j)))
theorem XJ (A:Nat→Nat→Bool) (v a:Nat):∀ b,b≤a→SE A v a b=sm b (fun j=>jn A v a j)
 | 0,_=>by unfold SE;simp[A6,sm]
 | b+1,h=>by
  rw[WY,XJ A v a b (by omega),sm]
  unfold jn NI
  rw[decide_eq_false (show ¬ a=b by omega)];rfl
theorem aQ {A:Nat→Nat→Bool} (hA:Gr A) (v i j:Nat):jn A v i j=jn A v j i:=by
 unfold jn
 congr 1
 rw[hA.sym i j]
 have:decide (i=j)=decide (j=i):=by by_cases e:i=j<;>simp[e,eq_comm]
 rw[this]
 cases A v i<;>cases A v j<;>cases A j i<;>rfl
theorem XK {A:Nat→Nat→Bool} (hA:Gr A) (v:Nat):∀ a,KX a (jn A v)=2*D2 A [] (A6 a A v)
 | 0=>by simp[KX,sm,A6,D2]
 | a+1=>by
  rw[bH,XK hA v a,WZ,XJ A v a a (Nat.le_refl _)]
  have h1:sm a (fun i=>jn A v i a)=sm a (jn A v a):=Hr (fun i _=>aQ hA v i a)
  have h2:jn A v a a=0:=by unfold jn NI;simp
  rw[h1,h2]
  have h3:sm a (fun j=>jn A v a j)=sm a (jn A v a):=rfl
  rw[h3];omega
def NJ (n:Nat) (A:Nat→Nat→Bool):Nat:=sm n (fun i=>(A6 n A i).length)
theorem TT (n:Nat) (A:Nat→Nat→Bool):NJ n A=KX n (fun i j=>NI (A i j)):=Hr (fun i _=>SO n A i)
theorem XL {A:Nat→Nat→Bool} (hA:Gr A) {n v:Nat} (hv:v<n):NJ n (Bt A v)+2*(A6 n A v).length=NJ n A+2*D2 A [] (A6 n A v):=by
 rw[TT,TT,←XK hA v n,←NG]
 have e1:(A6 n A v).length=KX n (fun i j=>if i=v then NI (A v j) else 0):=by
  unfold KX
  rw[SO]
  rw[←XI (f:=fun i=>sm n (fun j=>NI (A v j))) hv]
  exact Hr (fun i _=>by
   by_cases e:i=v
   ·subst e;simp
   ·simp[e,TS])
 have e2:(A6 n A v).length=KX n (fun i j=>if j=v then NI (A i v) else 0):=by
  unfold KX
  rw[SO]
  exact Hr (fun i _=>by
   have:=XI (n:=n) (v:=v) (f:=fun _=>NI (A i v)) hv
   rw[hA.sym v i]
   exact this.symm)
 have e3:KX n (fun i j=>NI (Bt A v i j))+((A6 n A v).length+(A6 n A v).length)=KX n (fun i j=>NI (A i j)+jn A v i j):=by
  rw[show(A6 n A v).length+(A6 n A v).length=KX n (fun i j=>if i=v then NI (A v j) else 0)+KX n (fun i j=>if j=v then NI (A i v) else 0) by rw[←e1,←e2],←NG,←NG]
  refine VD (fun i j hi hj=>?_)
  rw[G7]
  unfold jn
  have hirr:=hA.irr v
  by_cases h1:i=v
  ·subst h1
   by_cases h2:j=i
   ·subst h2;simp[hirr,NI]
   ·simp[hirr,h2,NI]
  ·by_cases h2:j=v
   ·subst h2;simp[hirr,h1,NI]
   ·simp only[h1,h2,if_false,decide_false,Bool.not_false,Bool.true_and,Nat.add_zero]
    unfold NI
    by_cases h3:i=j
    ·simp[h3]
    ·cases A v i<;>cases A v j<;>cases A i j<;>simp[h3]
 rw[←e3];omega
theorem XM {n:Nat} (hn:n≤1000) (A:Nat→Nat→Bool):NJ n A≤1000000:=by
 have:=ZQ (n:=n) (c:=1000) (f:=fun i=>(A6 n A i).length) (fun i _=>Nat.le_trans (Oj _ _ _) hn)
 unfold NJ
 omega
theorem BH {n:Nat} {B:Nat→Nat→Bool} {i j:Nat}:Aw (Il n B) i j=(decide (i<n)&&(decide (j<n)&&B i j)):=by
 unfold Aw
 rw[BD]
 by_cases h:i<n
 ·rw[if_pos h,bF]
  have:(j ∈ A6 n B i)↔(j<n∧B i j=true):=Bn
  rw[decide_eq_true h,Bool.true_and]
  by_cases h2:j<n∧B i j=true
  ·rw[decide_eq_true (this.2 h2),decide_eq_true h2.1,h2.2];rfl
  ·rw[decide_eq_false (fun h3=>h2 (this.1 h3))]
   by_cases h4:j<n
   ·have:B i j=false:=by cases hb:B i j with | false=>rfl | true=>exact absurd ⟨h4,hb⟩ h2
    rw[this];simp
   ·simp[h4]
 ·rw[if_neg h,decide_eq_false h];simp
theorem QB {n:Nat} {B:Nat→Nat→Bool} (hB:Gr B):vG (Il n B)=true:=by
 refine TO (fun i=>?_) (fun i x hx=>?_) (fun i j hij=>?_)
 ·rw[BD]
  split
  ·unfold Ap A6
   rw[List.pairwise_map]
   exact(List.pairwise_lt_range.sublist List.filter_sublist).imp (fun h=>by omega)
  ·exact List.Pairwise.nil
 ·rw[BD] at hx
  split at hx
  ·unfold Ap at hx
   obtain⟨j,hj,rfl⟩:=List.mem_map.1 hx
   obtain⟨h1,h2⟩:=Bn.1 hj
   exact⟨j,rfl,by rw[Eb];exact h1,fun e=>by subst e;rw[hB.irr] at h2;cases h2⟩
  ·cases hx
 ·have h1:Aw (Il n B) i j=true:=decide_eq_true hij
  rw[BH] at h1
  simp only[Bool.and_eq_true,decide_eq_true_eq] at h1
  have h2:Aw (Il n B) j i=true:=by
   rw[BH,hB.sym j i];simp[h1]
  exact of_decide_eq_true h2
theorem QC {n:Nat} {A B:Nat→Nat→Bool} {o:List Nat} (hA:Gr A) (hB:Gr B) (h:∀ i j,i<n→j<n→B i j=A i j) (ho:∀ x ∈ o,x<n):Hq n B o=Hq n A o:=by
 have:=IL (n:=n) (p:=id) ⟨fun i hi=>hi,fun i j _ _ e=>e⟩ o A B hA hB h ho
 rwa [List.map_id] at this
theorem KY {n:Nat} {A B:Nat→Nat→Bool} {i:Nat} (h:∀ j,j<n→A i j=B i j):A6 n A i=A6 n B i:=by
 unfold A6
 exact List.filter_congr (fun j hj=>h j (List.mem_range.1 hj))
end
section
variable {R:Type}
theorem ZR {N:Nat} {rows:List (List Int)} {c:LA} {d e:Bool} {r0:Int→O R} (hc:GR c rows) (hn:rows.length≤1000) (hrl:∀ j,(Ah rows j).length≤1000) :
  ∀ (fuel f:Nat),f≤rows.length→rows.length - f<fuel→E3 N r0 c rows.length d e fuel ((sm f (fun i=>(Ah rows i).length):Nat):Int) (f:Int)=r0 ((sm rows.length (fun i=>(Ah rows i).length)/2:Nat):Int)
 | 0,_,_,h=>by omega
 | fuel+1,f,hf,hfu=>by
  have hle:=ZQ (n:=f) (c:=1000) (f:=fun i=>(Ah rows i).length) (fun i _=>hrl i)
  rw[E3,Lh]
  by_cases hlt:f<rows.length
  ·have hr:=hrl f
   rw[Kc (by omega),cond_true,A8 hlt,cond_true,Jl hc hlt,wS (by omega),MX (by omega) (by omega)]
   exact ZR hc hn hrl fuel (f+1) (by omega) (by omega)
  ·have:f=rows.length:=by omega
   subst this
   have e1:Int.tdiv ((sm rows.length (fun i=>(Ah rows i).length):Nat):Int) 2=((sm rows.length (fun i=>(Ah rows i).length)/2:Nat):Int):=by
    rw[Int.tdiv_eq_ediv_of_nonneg (by omega)];omega
   rw[Ja (by omega),cond_false,e1,MX (by omega) (by omega)]
theorem IM {N:Nat} {rows:List (List Int)} {c:LA} {d e:Bool} {r0:Int→O R} (hN:2000≤N) (hc:GR c rows) (hn:rows.length≤1000) (hv:vG rows=true):Dk N c rows.length d e r0=r0 ((NJ rows.length (Aw rows)/2:Nat):Int):=by
 rw[Ua,Ma]
 have:=ZR (N:=N) (d:=d) (e:=e) (r0:=r0) hc hn (Sg hv hn) N 0 (Nat.zero_le _) (by omega)
 have h2:sm rows.length (fun i=>(Ah rows i).length)=NJ rows.length (Aw rows):=Hr (fun i _=>by rw[IA hv i,A2])
 rw[h2] at this
 exact this
end
end Gx

namespace Gx
open Go
open IntKind (wrap)
section
def Dg (n:Nat) (A:Nat→Nat→Bool):Prop:=∀ S:Nat→Bool,(∃ i,i<n∧S i=true)→∃ i,i<n∧S i=true∧((A6 n A i).filter S).length≤1
theorem YC {n v:Nat} {A:Nat→Nat→Bool} (h:(A6 n A v).length≤1) {i j:Nat} (hi:i<n) (hj:j<n) (h1:A v i=true) (h2:A v j=true):i=j:=by
 have a:i ∈ A6 n A v:=Bn.2 ⟨hi,h1⟩
 have b:j ∈ A6 n A v:=Bn.2 ⟨hj,h2⟩
 cases hl:A6 n A v with
 | nil=>rw[hl] at a;cases a
 | cons x r =>
  rw[hl] at h a b
  cases r with
  | nil=>rw[List.mem_singleton.1 a,List.mem_singleton.1 b]
  | cons y r=>simp at h
theorem IN {n v:Nat} {A:Nat→Nat→Bool} (h:(A6 n A v).length≤1) {i j:Nat} (hi:i<n) (hj:j<n):Bt A v i j=(!decide (i=v)&&!decide (j=v)&&A i j):=by
 rw[G7]
 by_cases e:i=j
 ·subst e;simp
 ·have:(A v i&&A v j)=false:=by
   cases h1:A v i with
   | false=>rfl
   | true =>
    cases h2:A v j with
    | false=>rfl
    | true=>exact absurd (YC h hi hj h1 h2) e
  rw[this];simp
theorem Dg.back {n v:Nat} {A:Nat→Nat→Bool} (h1:(A6 n A v).length≤1) (h:Dg n (Bt A v)):Dg n A:=by
 intro S hS
 by_cases hv:v<n∧S v=true
 ·exact⟨v,hv.1,hv.2,Nat.le_trans (List.length_filter_le _ _) h1⟩
 ·obtain⟨i,hi,hs,hl⟩:=h S hS
  refine⟨i,hi,hs,?_⟩
  have hiv:i≠v:=fun e=>hv ⟨e▸hi,e▸hs⟩
  have:(A6 n A i).filter S=(A6 n (Bt A v) i).filter S:=by
   unfold A6
   rw[List.filter_filter,List.filter_filter]
   refine List.filter_congr (fun j hj=>?_)
   have hj:=List.mem_range.1 hj
   rw[IN h1 hi hj]
   by_cases hjs:S j=true
   ·have hjv:j≠v:=fun e=>hv ⟨e▸hj,e▸hjs⟩
    simp[hiv,hjv]
   ·simp[hjs]
  rw[this];exact hl
theorem Dg.away {n v:Nat} {A:Nat→Nat→Bool} (h1:(A6 n A v).length≤1) (h:Dg n A):Dg n (Bt A v):=by
 intro S hS
 obtain⟨i,hi,hs,hl⟩:=h S hS
 refine⟨i,hi,hs,Nat.le_trans ?_ hl⟩
 unfold A6
 rw[List.filter_filter,List.filter_filter,←List.countP_eq_length_filter,←List.countP_eq_length_filter]
 refine List.countP_mono_left (fun j hj hp=>?_)
 have hj:=List.mem_range.1 hj
 rw[IN h1 hi hj] at hp
 simp only[Bool.and_eq_true] at hp ⊢
 exact⟨hp.1,hp.2.2⟩
theorem Dg.congr {n:Nat} {A B:Nat→Nat→Bool} (h:Dg n A) (he:∀ i j,i<n→j<n→A i j=B i j):Dg n B:=by
 intro S hS
 obtain⟨i,hi,hs,hl⟩:=h S hS
 exact⟨i,hi,hs,by rw[←KY (A:=A) (fun j hj=>he i j hi hj)];exact hl⟩
theorem Dg.small {n:Nat} {A:Nat→Nat→Bool} (h:NJ n A≤1):Dg n A:=by
 intro S ⟨i,hi,hs⟩
 refine⟨i,hi,hs,Nat.le_trans (List.length_filter_le _ _) (Nat.le_trans (bG (f:=fun i=>(A6 n A i).length) hi) h)⟩
theorem TU (n:Nat) (A:Nat→Nat→Bool):∀ (l:List Nat) (w:Nat),O6 n A (l.foldl (EO n A) w)≤O6 n A w∧∀ x ∈ l,O6 n A (l.foldl (EO n A) w)≤O6 n A x
 | [],w=>⟨Nat.le_refl _,fun x hx=>by cases hx⟩
 | y::l,w=>by
  rw[List.foldl_cons]
  obtain⟨h1,h2⟩:=TU n A l (EO n A w y)
  have h3:O6 n A (EO n A w y)≤O6 n A w∧O6 n A (EO n A w y)≤O6 n A y:=by
   unfold EO
   by_cases h:O6 n A y<O6 n A w
   ·rw[if_pos h];omega
   ·rw[if_neg h];omega
  refine⟨Nat.le_trans h1 h3.1,fun x hx=>?_⟩
  rcases List.mem_cons.1 hx with rfl | hx
  ·exact Nat.le_trans h1 h3.2
  ·exact h2 x hx
theorem YD {n v:Nat} {A:Nat→Nat→Bool} (h:(A6 n A v).length≤1):D2 A [] (A6 n A v)=0:=by
 cases hl:A6 n A v with
 | nil=>rfl
 | cons x r =>
  rw[hl] at h
  cases r with
  | nil=>simp[D2]
  | cons y r=>simp at h
theorem IP {n:Nat}:∀ (k:Nat) (A:Nat→Nat→Bool) (left:List Nat),left.length=k→Gr A→Dg n A→(∀ x ∈ left,x<n)→(∀ i j,i<n→j<n→A i j=true→j ∈ left)→Hq n A (ND n k A left)=0
 | 0,_,_,_,_,_,_,_=>rfl
 | k+1,_,[],h,_,_,_,_=>by simp at h
 | k+1,A,w::l,h,hA,hD,hlt,hin=>by
  have hbm:l.foldl (EO n A) w ∈ w::l:=by
   rcases NE n A l w with h | h
   ·rw[h];exact List.mem_cons_self
   ·exact List.mem_cons_of_mem _ h
  have hb1:(A6 n A (l.foldl (EO n A) w)).length≤1:=by
   obtain⟨i,hi,hs,hl⟩:=hD (fun x=>decide (x ∈ w::l)) ⟨w,hlt w List.mem_cons_self,by simp⟩
   have hs:i ∈ w::l:=of_decide_eq_true hs
   have hf:(A6 n A i).filter (fun x=>decide (x ∈ w::l))=A6 n A i:=by
    rw[List.filter_eq_self]
    intro j hj
    obtain⟨h1,h2⟩:=Bn.1 hj
    exact decide_eq_true (hin i j hi h1 h2)
   rw[hf] at hl
   obtain⟨m1,m2⟩:=TU n A l w
   have:O6 n A (l.foldl (EO n A) w)≤O6 n A i:=by
    rcases List.mem_cons.1 hs with rfl | hs
    ·exact m1
    ·exact m2 i hs
   unfold O6 at this
   exact Nat.le_trans this hl
  have hbn:=hlt _ hbm
  rw[ND,Hq,YD hb1,Nat.zero_add]
  refine IP k _ _ (by rw[List.length_erase_of_mem hbm,h];rfl) (K7 hA _) (hD.away hb1) (fun x hx=>hlt x (List.mem_of_mem_erase hx)) (fun i j hi hj hij=>?_)
  rw[IN hb1 hi hj] at hij
  simp only[Bool.and_eq_true,Bool.not_eq_true',decide_eq_false_iff_not] at hij
  exact(List.mem_erase_of_ne hij.1.2).2 (hin i j hi hj hij.2)
theorem QD (n:Nat):∀ (k:Nat) (A:Nat→Nat→Bool) (left:List Nat),left.length=k→(ND n k A left).Perm left
 | 0,_,left,h=>by rw[List.eq_nil_of_length_eq_zero h];exact List.Perm.refl _
 | k+1,_,[],h=>by simp at h
 | k+1,A,w::l,h=>by
  have hbm:l.foldl (EO n A) w ∈ w::l:=by
   rcases NE n A l w with h | h
   ·rw[h];exact List.mem_cons_self
   ·exact List.mem_cons_of_mem _ h
  rw[ND]
  exact((QD n k _ _ (by rw[List.length_erase_of_mem hbm,h];rfl)).cons _).trans (List.perm_cons_erase hbm).symm
theorem XN (n:Nat) (A:Nat→Nat→Bool):Im n (ND n n A (List.range n)):=by
 have h:=QD n n A (List.range n) (by simp)
 exact⟨h.nodup_iff.2 List.nodup_range,fun x hx=>List.mem_range.1 (h.mem_iff.1 hx),by rw[h.length_eq];simp⟩
end
section
variable {R:Type}
theorem XO {rows:List (List Int)} (hv:vG rows=true) {v:Nat} (h:v<rows.length):XS rows (v:Int)=(Il rows.length (Bt (Aw rows) v),0):=by
 unfold XS
 rw[hv,if_pos rfl,if_pos ⟨by omega,by omega⟩,Int.toNat_natCast]
theorem QE {n v:Nat} {A:Nat→Nat→Bool} (hA:Gr A):∀ i j,i<n→j<n→Bt A v i j=Aw (Il n (Bt A v)) i j:=by
 intro i j hi hj
 rw[BH];simp[hi,hj]
theorem XP {N n:Nat} {c:LA} {d e:Bool} {k0:LA→Nat→Bool→Bool→Int→O R} {r0:Bool→O R} {Y:O R} {D:Prop} (hN:2000≤N) (hn:n≤1000) {s:Nat} (hs:s<n)
  (hK:∀ x X t r,GR x X→vG X=true→X.length=n→(Dg n (Aw X)→D)→k0 x n t r ((s+1:Nat):Int)=Y) :
  ∀ (fuel m:Nat) (x:LA) (X:List (List Int)) (t r:Bool),m≤n→n - m<fuel→GR x X→vG X=true→X.length=n→(Dg n (Aw X)→D) →
   C1 N k0 r0 c n d e fuel x n t r (s:Int) (m:Int)=Y
 | 0,_,_,_,_,_,_,h,_,_,_,_=>by omega
 | fuel+1,m,x,X,t,r,hm,hf,hx,hv,hl,hD=>by
  rw[C1,Ka]
  by_cases hlt:m<n
  ·have hrow:=IA hv m
   rw[Kc (by omega),cond_true,A8 hlt,cond_true,Jl hx (by omega),wS (by omega)]
   by_cases h1:(Ah X m).length=1
   ·have hb:((((Ah X m).length:Nat):Int)==1)=true:=by rw[h1];rfl
    have hdeg:(A6 n (Aw X) m).length≤1:=by
     rw[hrow,A2,hl] at h1;omega
    rw[hb,cond_true]
    have:=BB (N:=N) (rows:=X) (d:=x) (f:=false) (e:=r) (v:=(m:Int)) (r0:=(fun v w aa=>(C1 N k0 r0 c n d e fuel v w false false (s:Int) ((m+1:Nat):Int)))) (Y:=Y) hN hx (by omega) (Sg hv (by omega)) (fun c' hc'=>by
     rw[XO hv (by omega)] at hc' ⊢
     simp only at hc' ⊢
     rw[Eb]
     rw[hl] at hc' ⊢
     refine XP hN hn hs hK fuel (m+1) c' _ false false (by omega) (by omega) hc' (QB (K7 (Qy hv) m)) (Eb _ _) (fun hd=>hD ?_)
     exact(hd.congr (fun i j hi hj=>(QE (Qy hv) i j hi hj).symm)).back hdeg)
    rw[hl] at this
    exact this
   ·have hb:((((Ah X m).length:Nat):Int)==1)=false:=by simp;omega
    rw[hb,cond_false]
    exact XP hN hn hs hK fuel (m+1) x X t r (by omega) (by omega) hx hv hl hD
  ·have:m=n:=by omega
   subst this
   rw[Ja (by omega),cond_false,wS (by omega)]
   exact hK x X t r hx hv hl hD
theorem ZS {N n:Nat} {c:LA} {d e:Bool} {r0:Bool→O R} {Y:O R} {D:Prop} (hN:2000≤N) (hn:n≤1000) (hK:∀ b:Bool,(b=true→D)→r0 b=Y) :
  ∀ (fuel m:Nat) (x:LA) (X:List (List Int)) (t r:Bool),m≤n→n - m<fuel→GR x X→vG X=true→X.length=n→(Dg n (Aw X)→D) →
   C2 N r0 c n d e fuel x n t r (m:Int)=Y
 | 0,_,_,_,_,_,_,h,_,_,_,_=>by omega
 | fuel+1,m,x,X,t,r,hm,hf,hx,hv,hl,hD=>by
  rw[C2,Kb]
  by_cases hlt:m<n
  ·rw[Kc (by omega),cond_true]
   exact XP hN hn hlt (fun x' X' t' r' h1 h2 h3 h4=>ZS hN hn hK fuel (m+1) x' X' t' r' (by omega) (by omega) h1 h2 h3 h4) N 0 x X t r (Nat.zero_le _) (by omega) hx hv hl hD
  ·rw[Ja (by omega),cond_false]
   have:=IM (N:=N) (rows:=X) (c:=x) (d:=false) (e:=r) (r0:=fun x=>r0 (x==0)) hN hx (by omega) hv
   rw[hl] at this
   refine Eq.trans this (hK _ (fun h=>hD (Dg.small ?_)))
   have:=beq_iff_eq.1 h
   omega
theorem VE {N:Nat} {rows:List (List Int)} {c:LA} {d e:Bool} {r0:Bool→O R} {Y:O R} (hN:2000≤N) (hn:rows.length≤1000) (hc:GR c rows) (hv:vG rows=true) (hK:∀ b:Bool,(b=true→Dg rows.length (Aw rows))→r0 b=Y):Ei N c rows.length d e r0=Y:=by
 rw[Qw,Kx]
 exact ZS hN hn hK N 0 c rows d e (Nat.zero_le _) (by omega) hc hv rfl id
theorem ZT {N n:Nat} {rows:List (List Int)} {c:LA} {o:List Nat} {d:Bool} {G:Nat} {r0:Bool→O R} (hN:2000≤N) (hn:n≤1000) (hc:GR c rows) (hrv:vG rows=true) (hrl:rows.length=n) (ho:Im n o) :
  ∀ (fuel i sum:Nat) (x:LA) (X:List (List Int)) (p:Bool),i≤n→n - i<fuel→GR x X→vG X=true→X.length=n→sum+Hq n (Aw X) (o.drop i)=G→sum≤1000000*i →
   A7 N r0 c n d (G:Int) n (Ab (Ap o)) fuel (sum:Int) x n p (n:Int) (i:Int)=r0 true
 | 0,_,_,_,_,_,_,h,_,_,_,_,_=>by omega
 | fuel+1,i,sum,x,X,p,hi,hf,hx,hv,hl,hs,hb=>by
  have hol:=ho.2.2
  have hlen:=A2 o
  rw[A7,Fh]
  by_cases hlt:i<n
  ·obtain⟨z,hz⟩:∃ z,o[i]?=some z:=⟨_,List.getElem?_eq_getElem (by omega)⟩
   have hzn:=ho.2.1 z (List.mem_of_getElem? hz)
   have hg:=Qy hv
   have hge:=K7 hg z
   have hvN:vG (Il n (Bt (Aw X) z))=true:=QB hge
   have hadj:=QE (n:=n) (v:=z) hg
   have hd1:=XL hg hzn
   have hd2:NJ n (Aw (Il n (Bt (Aw X) z)))=NJ n (Bt (Aw X) z):=Hr (fun a ha=>by rw[KY (fun j hj=>(hadj a j ha hj).symm)])
   have hb1:=XM hn (Aw X)
   have hb2:=XM hn (Bt (Aw X) z)
   have hcnt:=TL hn (Aw X) z
   have hnl:=Oj n (Aw X) z
   rw[Kc (by omega),cond_true,A8 hlt,cond_true,Fu (by omega),Bu hz]
   have e1:=IM (N:=N) (rows:=X) (c:=x) (d:=false) (e:=p) (R:=R) (r0:=fun ad=>(cond (Af (z:Int) n) (DA 1 (x.drop (((z:Int).toNat)*1)) fun an ae=>(G0 N x n false p (z:Int) (fun ab aa ao=>(cond (((aa:Nat):Int) != ((n:Nat):Int)) (r0 false) (Dk N ab aa false false (fun af=>(A7 N r0 c n d (G:Int) n (Ab (Ap o)) fuel (wrap .i64 ((sum:Int)+(wrap .i64 (af - (wrap .i64 (ad - ((ae:Nat):Int))))))) ab aa false (n:Int) (wrap .i64 ((i:Int)+1))))))))) none)) hN hx (by omega) hv
   rw[hl] at e1
   refine Eq.trans e1 ?_
   rw[A8 hzn,cond_true,Jl hx (by omega),IA hv z,A2,hl]
   have e2:=EH (N:=N) (rows:=X) (d:=x) (f:=false) (e:=p) (v:=(z:Int)) (r0:=(fun ab aa ao=>(cond (((aa:Nat):Int) != ((n:Nat):Int)) (r0 false) (Dk N ab aa false false (fun af=>(A7 N r0 c n d (G:Int) n (Ab (Ap o)) fuel (wrap .i64 ((sum:Int)+(wrap .i64 (af - (wrap .i64 (((NJ n (Aw X)/2:Nat):Int) - (((A6 n (Aw X) z).length:Nat):Int))))))) ab aa false (n:Int) (wrap .i64 ((i:Int)+1)))))))) (Y:=r0 true) hN hx (by omega) (Sg hv (by omega)) (fun c' hc'=>by
    rw[XO hv (by omega)] at hc' ⊢
    simp only at hc' ⊢
    rw[Eb]
    rw[hl] at hc' ⊢
    have hne:(((n:Nat):Int) != ((n:Nat):Int))=false:=by simp
    rw[hne,cond_false]
    have e3:=IM (N:=N) (rows:=Il n (Bt (Aw X) z)) (c:=c') (d:=false) (e:=false) (R:=R) (r0:=(fun af=>(A7 N r0 c n d (G:Int) n (Ab (Ap o)) fuel (wrap .i64 ((sum:Int)+(wrap .i64 (af - (wrap .i64 (((NJ n (Aw X)/2:Nat):Int) - (((A6 n (Aw X) z).length:Nat):Int))))))) c' n false (n:Int) (wrap .i64 ((i:Int)+1))))) hN hc' (by rw[Eb];exact hn) hvN
    rw[Eb] at e3
    refine Eq.trans e3 ?_
    rw[hd2]
    have e4:wrap .i64 ((sum:Int)+(wrap .i64 (((NJ n (Bt (Aw X) z)/2:Nat):Int) - (wrap .i64 (((NJ n (Aw X)/2:Nat):Int) - (((A6 n (Aw X) z).length:Nat):Int))))))=((sum+D2 (Aw X) [] (A6 n (Aw X) z):Nat):Int):=by
     have a1:wrap .i64 (((NJ n (Aw X)/2:Nat):Int) - (((A6 n (Aw X) z).length:Nat):Int))=((NJ n (Aw X)/2:Nat):Int) - (((A6 n (Aw X) z).length:Nat):Int):=MX (by omega) (by omega)
     rw[a1]
     have a2:((NJ n (Bt (Aw X) z)/2:Nat):Int) - (((NJ n (Aw X)/2:Nat):Int) - (((A6 n (Aw X) z).length:Nat):Int))=((D2 (Aw X) [] (A6 n (Aw X) z):Nat):Int):=by omega
     rw[a2,MX (n:=((D2 (Aw X) [] (A6 n (Aw X) z):Nat):Int)) (by omega) (by omega),MX (by omega) (by omega)];omega
    rw[e4,wS (by omega)]
    refine ZT hN hn hc hrv hrl ho fuel (i+1) _ c' _ false (by omega) (by omega) hc' hvN (Eb _ _) ?_ (by omega)
    rw[BC hz,Hq] at hs
    rw[QC (A:=Bt (Aw X) z) hge (Qy hvN) (fun a b ha hb=>(hadj a b ha hb).symm) (fun y hy=>ho.2.1 y (List.mem_of_mem_drop hy))]
    omega)
   rw[hl] at e2
   exact e2
  ·have hin:i=n:=by omega
   subst hin
   rw[Ja (by omega),cond_false]
   rw[List.drop_of_length_le (by omega)] at hs
   have hs:sum=G:=by simpa[Hq] using hs
   have hmd:=XN i (Aw rows)
   have hmr:aP rows=(Ap (ND i i (Aw rows) (List.range i)),0):=by unfold aP;rw[hrv,hrl];rfl
   have e1:=Uh (N:=N) (rows:=rows) (d:=c) (f:=false) (e:=d) (R:=R) (r0:=(fun ac ap ag=>(F4 N c i false d (ag.take (ac*1)) ac false true (fun ah ai=>(cond (((G:Nat):Int)==(sum:Int)) (cond ((cond true (ai==0) false)==true) (Ei N c i false d (fun aj=>(cond ((!aj)==false) (r0 (cond true (cond false true (ah==0)) false)) (r0 true)))) (r0 false)) (r0 false)))))) hN hc (by omega) (Sg hrv (by omega))
   rw[hrl,hmr] at e1
   have hh:∀ q:Bool,((q==true)=q):=by decide
   simp only[hh] at e1 ⊢
   refine Eq.trans e1 ?_
   rw[Sf]
   have e2:=Nr (N:=N) (rows:=rows) (ord:=Ap (ND i i (Aw rows) (List.range i))) (d:=c) (q:=false) (p:=d) (f:=false) (e:=true) (R:=R) (r0:=(fun ah ai=>(cond (((G:Nat):Int)==(sum:Int)) (cond (cond true (ai==0) false) (Ei N c i false d (fun aj=>(cond ((!aj)==false) (r0 (cond true (cond false true (ah==0)) false)) (r0 true)))) (r0 false)) (r0 false)))) hN hc (by omega) (Sg hrv (by omega)) (by rw[A2,hmd.2.2];omega)
   rw[hrl] at e2
   refine Eq.trans e2 ?_
   rw[Zt hrv (by rw[hrl];exact hmd),hs]
   simp only[beq_self_eq_true,cond_true]
   have e3:=VE (N:=N) (rows:=rows) (c:=c) (d:=false) (e:=d) (R:=R) (r0:=(fun aj=>(cond ((!aj)==false) (r0 (cond false true (((Hq rows.length (Aw rows) (ND i i (Aw rows) (List.range i)):Nat):Int)==0))) (r0 true)))) (Y:=r0 true) hN (by omega) hc hrv (fun b hb=>by
    cases b with
    | false=>rfl
    | true =>
     have hD:=hb rfl
     have hz:Hq rows.length (Aw rows) (ND i i (Aw rows) (List.range i))=0:=by
      rw[hrl] at hD ⊢
      exact IP i (Aw rows) (List.range i) (by simp) (Qy hrv) hD (fun x hx=>List.mem_range.1 hx) (fun a b _ hb _=>List.mem_range.2 hb)
     rw[hz];rfl)
   rw[hrl] at e3
   rw[hrl]
   exact e3
theorem XQ {N:Nat} {ch pm:List Int} {s l t u:Bool} {r0:Bool→O R} (hN:2000≤N) (hch:ch.length≤9223372036854775807) (hpm:pm.length≤9223372036854775807) :
  Cu N (Ab ch) ch.length s l (Ab pm) pm.length t u r0=r0 true:=by
 rw[I7,Eu]
 obtain⟨gc,rx,h1,h2,h3,h4⟩:=IH (R:=R) (p:=false) (e:=l) hN hch
 obtain⟨o,k',hp,hpK⟩:=EP (R:=R) (N:=N) (n:=rx.length) (l:=pm) (d:=false) (e:=u) hN hpm (by omega)
 have hpl:(Ap o).length=rx.length:=by rw[A2];exact hp.2.2
 rw[h4,IF,hpK]
 have e1:=Sf (l:=Ap o)
 rw[hpl] at e1
 rw[e1]
 have f1:=Nr (N:=N) (rows:=rx) (ord:=Ap o) (d:=gc) (q:=false) (p:=false) (f:=false) (e:=true) (R:=R) (r0:=(fun g ak=>(Ck N (fun al=>(cond ((!al)==false) (cond (cond false true (ak != 0)) (r0 false) (B4 N r0 gc rx.length false rx.length g (Ab (Ap o)))) (r0 false)))))) hN h1 (by omega) (Sg h2 (by omega)) (by omega)
 rw[hpl] at f1
 refine Eq.trans f1 ?_
 rw[Zt h2 hp,II hN]
 show B4 N r0 gc rx.length false rx.length ((Hq rx.length (Aw rx) o:Nat):Int) (Ab (Ap o))=r0 true
 rw[B4,Fi]
 exact ZT hN (by omega) h1 h2 rfl hp N 0 0 gc rx false (Nat.zero_le _) (by omega) h1 h2 rfl (by rw[List.drop_zero,Nat.zero_add]) (Nat.zero_le _)
end
end Gx

namespace Gx
open Go
section
variable {R:Type}
theorem VF (N:Nat) {K:Bool→O R} {ch pm:List Int} {s l t u:Bool} (hN:2000≤N) (hch:ch.length≤9223372036854775807) (hpm:pm.length≤9223372036854775807):Cu N (Ab ch) ch.length s l (Ab pm) pm.length t u K=K true:=XQ hN hch hpm
end
end Gx
