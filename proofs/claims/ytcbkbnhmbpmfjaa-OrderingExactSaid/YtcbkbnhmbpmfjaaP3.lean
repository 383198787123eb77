/- A part of the proof: what it holds is said by each theorem. -/
import Derived.IntWalk
import Derived.Test.YtcbkbnhmbpmfjaaP2
set_option linter.unusedVariables false
set_option linter.defProp false
set_option linter.unusedSimpArgs false
namespace Gx
open Go
open IntKind (wrap)
section
variable {R:Type}
theorem aJ {N:Nat} {l:List Int} {f g i k:Bool} {r0:Bool→O R} (hl:l.length≤1000) :
  ∀ (fuel m:Nat),m≤l.length→l.length - m<fuel→Dk N r0 (Ab l) l.length f g (Ab l) l.length i k fuel (m:Int)=r0 true
 | 0,_,_,h=>by omega
 | fuel+1,m,hm,hf=>by
  rw[Dk,I6]
  by_cases hlt:m<l.length
  ·rw[Ik (by omega),cond_true,A6 hlt,cond_true,Da hlt,cond_true,Da hlt]
   have:(l.getD m 0 != l.getD m 0)=false:=by simp
   rw[this,cond_false,wS (by omega)]
   exact aJ hl fuel (m+1) (by omega) (by omega)
  ·rw[H7 (by omega),cond_false]
theorem Zs {N:Nat} {l:List Int} {f g i k:Bool} {r0:Bool→O R} (hN:2000≤N) (hl:l.length≤1000):Cx N (Ab l) l.length f g (Ab l) l.length i k r0=r0 true:=by
 rw[Pb,Jp]
 have:(((l.length:Nat):Int) != ((l.length:Nat):Int))=false:=by simp
 rw[this,cond_false]
 exact aJ hl N 0 (Nat.zero_le _) (by omega)
theorem aK {N:Nat} {l:List Int} {f g i k:Bool} {r0:Bool→O R} (hl:l.length≤1000) :
  ∀ (fuel m:Nat),m≤l.length→l.length - m<fuel→Hb N r0 (Ab l) l.length f g (Ab l) l.length i k fuel (m:Int)=r0 true
 | 0,_,_,h=>by omega
 | fuel+1,m,hm,hf=>by
  rw[Hb,Re]
  by_cases hlt:m<l.length
  ·rw[Ik (by omega),cond_true,A6 hlt,cond_true,Da hlt,cond_true,Da hlt]
   have:(l.getD m 0 != l.getD m 0)=false:=by simp
   rw[this,cond_false,wS (by omega)]
   exact aK hl fuel (m+1) (by omega) (by omega)
  ·rw[H7 (by omega),cond_false]
theorem YS {N:Nat} {l:List Int} {f g i k:Bool} {r0:Bool→O R} (hN:2000≤N) (hl:l.length≤1000):Ps N (Ab l) l.length f g (Ab l) l.length i k r0=r0 true:=by
 rw[Zj,V1]
 have:(((l.length:Nat):Int) != ((l.length:Nat):Int))=false:=by simp
 rw[this,cond_false]
 exact aK hl N 0 (Nat.zero_le _) (by omega)
theorem aL {N:Nat} {rows:List (List Int)} {c c':LA} {f g i k:Bool} {r0:Bool→O R} (hN:2000≤N) (hc:GR c rows) (hc':GR c' rows) (hn:rows.length≤1000) (hrl:∀ j,(Ah rows j).length≤1000) :
  ∀ (fuel m:Nat),m≤rows.length→rows.length - m<fuel→Hc N r0 c rows.length f g c' rows.length i k fuel (m:Int)=r0 true
 | 0,_,_,h=>by omega
 | fuel+1,m,hm,hf=>by
  rw[Hc,Rf]
  by_cases hlt:m<rows.length
  ·rw[Ik (by omega),cond_true,A6 hlt,cond_true,K3 hc hlt,cond_true,K3 hc' hlt,YS hN (hrl m),Bool.not_true,cond_false,wS (by omega)]
   exact aL hN hc hc' hn hrl fuel (m+1) (by omega) (by omega)
  ·rw[H7 (by omega),cond_false]
theorem YT {N:Nat} {rows:List (List Int)} {c c':LA} {f g i k:Bool} {r0:Bool→O R} (hN:2000≤N) (hc:GR c rows) (hc':GR c' rows) (hn:rows.length≤1000) (hrl:∀ j,(Ah rows j).length≤1000):Pt N c rows.length f g c' rows.length i k r0=r0 true:=by
 rw[Zl,V2]
 have:(((rows.length:Nat):Int) != ((rows.length:Nat):Int))=false:=by simp
 rw[this,cond_false]
 exact aL hN hc hc' hn hrl N 0 (Nat.zero_le _) (by omega)
theorem VW {n i:Nat} {A:Nat→Nat→Bool}:Ah (Vg n A) i=if i<n then At (B5 n A i) else []:=by
 by_cases h:i<n
 ·rw[if_pos h];unfold Ah Vg;rw[List.getD_eq_getElem?_getD];simp[h]
 ·rw[if_neg h];exact Mw (by rw[Lt];exact h)
theorem YU {rows:List (List Int)} {v:Int} (hn:rows.length≤1000):(XS rows v).1.length≤1000∧∀ j,(Ah (XS rows v).1 j).length≤1000:=by
 unfold XS
 have hnil:∀ j,(Ah [] j).length≤1000:=fun j=>by rw[Mw (by simp)];simp
 split
 ·split
  ·refine⟨by simp[Lt];exact hn,fun j=>?_⟩
   rw[VW]
   split
   ·rw[Bm];exact Nat.le_trans (V3 _ _ _) hn
   ·simp
  ·exact⟨by simp,hnil⟩
 ·exact⟨by simp,hnil⟩
theorem YV {rows:List (List Int)} (hn:rows.length≤1000):(XY rows).1.length≤1000:=by
 unfold XY
 split
 ·simp only;rw[Bm,NZ _ _ _ _ (by simp)];exact hn
 ·simp
theorem YW {rows:List (List Int)} {ord:List Int} (hn:rows.length≤1000):(XV rows ord).1.length≤1000:=by
 unfold XV
 split
 ·split
  ·simp only;rw[Rk];simpa using hn
  ·simp
 ·simp
theorem Zt {l:List Int}:(Ab l).take (l.length*1)=Ab l:=by
 rw[Nat.mul_one,List.take_of_length_le (by rw[Bw];exact Nat.le_refl _)]
theorem BK {N:Nat} {rows:List (List Int)} {ord:List Int} {c:LA} {l d m g:Bool} {v:Int} {r0:Bool→O R} (hN:2000≤N) (hc:GR c rows) (hn:rows.length≤1000) (hrl:∀ j,(Ah rows j).length≤1000) (ho:ord.length≤1000) :
  Ar N c rows.length l d (Ab ord) ord.length m g v r0=r0 true:=by
 rw[Pu]
 unfold N2
 refine E' hN hc hn hrl (fun c1 h1=>?_)
 refine BI hN hc hn hrl (fun c2 h2=>?_)
 have hel:=YU (rows:=rows) (v:=v) hn
 rw[To hN hc hn hrl,BJ hN hc hn hrl,JJ hN hc hn hrl ho,RE hN hc hn hrl ho,JL hN hc hn hrl ho,RG hN hc hn hrl ho,Ka hN hc hn hrl,H8 hN hc hn hrl]
 have hb:(vG rows==vG rows)=true:=by simp
 have hz:∀ z:Int,(z==z)=true:=fun z=>by simp
 rw[hb]
 simp only[beq_self_eq_true,cond_true]
 rw[YT hN h1 h2 hel.1 hel.2]
 simp only[beq_self_eq_true,cond_true]
 rw[Zt,Zs hN (YV hn)]
 simp only[beq_self_eq_true,cond_true]
 rw[Zt,Zs hN (YW hn)]
 simp only[beq_self_eq_true,cond_true]
theorem aM {N:Nat} {rows:List (List Int)} {c:LA} {d e:Bool} {r0:Bool→O R} (hN:2000≤N) (hc:GR c rows) (hn:rows.length≤20) :
  ∀ (fuel f:Nat),f≤rows.length→rows.length - f<fuel→D5 N r0 c rows.length d e fuel (f:Int)=r0 (Dd f (rows.length - f) (fun j=>decide ((Ah rows j).length≤40)))
 | 0,_,_,h=>by omega
 | fuel+1,f,hf,hfu=>by
  rw[D5,Ki]
  by_cases hlt:f<rows.length
  ·have e1:rows.length - f=(rows.length - (f+1))+1:=by omega
   have ih:=aM (d:=d) (e:=e) (r0:=r0) hN hc hn fuel (f+1) (by omega) (by omega)
   rw[Ik (by omega),cond_true,A6 hlt,cond_true,K3 hc hlt,e1,Kj,wS (by omega),ih]
   by_cases h:(Ah rows f).length≤40
   ·rw[decide_eq_true h,decide_eq_false (show ¬ (((Ah rows f).length:Nat):Int)>40 by omega)];rfl
   ·rw[decide_eq_false h,decide_eq_true (show(((Ah rows f).length:Nat):Int)>40 by omega)];rfl
  ·have:f=rows.length:=by omega
   subst this
   rw[H7 (by omega),cond_false,Nat.sub_self,Mv]
theorem YB {N:Nat} {rows:List (List Int)} {c:LA} {d e:Bool} {r0:Bool→O R} (hN:2000≤N) (hc:GR c rows):∃ b:Bool,Fk N c rows.length d e r0=r0 b∧(b=true→rows.length≤20∧∀ j,(Ah rows j).length≤40):=by
 rw[S5,Li]
 by_cases h:rows.length≤20
 ·rw[decide_eq_false (show ¬ ((rows.length:Nat):Int)>20 by omega),cond_false]
  refine⟨_,aM hN hc h N 0 (Nat.zero_le _) (by omega),fun hb=>⟨h,fun j=>?_⟩⟩
  by_cases hj:j<rows.length
  ·exact of_decide_eq_true ((D8.1 hb) j (Nat.zero_le _) (by omega))
  ·rw[Mw hj];simp
 ·rw[decide_eq_true (show((rows.length:Nat):Int)>20 by omega),cond_true]
  exact⟨false,rfl,fun h=>by cases h⟩
theorem YC {N:Nat} {l:List Int} {f d:Bool} {r0:LA→Nat→Bool→O R}:∃ (m:List Int) (b:Bool),m.length≤40∧Hq N (Ab l) l.length f d 40 r0=r0 (Ab m) m.length b:=by
 rw[O0];unfold Ns
 by_cases h:l.length≤40
 ·rw[decide_eq_false (show ¬ ((l.length:Nat):Int)>40 by omega),cond_false]
  exact⟨l,f,h,rfl⟩
 ·rw[decide_eq_true (show((l.length:Nat):Int)>40 by omega),cond_true]
  have hb:(decide ((0:Int)≤(0:Int))&&(decide ((0:Int)≤40)&&(decide ((40:Int)≤((l.length:Nat):Int))&&decide (((l.length:Nat):Int)≤((l.length:Nat):Int)))))=true:=by simp;omega
  rw[hb,cond_true]
  have e1:((40:Int).toNat*1)=40:=rfl
  have e2:((40:Int).toNat)=(l.take 40).length:=by simp;omega
  rw[e1,e2,TK]
  exact⟨l.take 40,false,by simp;omega,rfl⟩
theorem RI (v n:Int) (h1:1≤n) (h2:n≤4611686018427387904):(wrap .u64 n==0)=false∧0≤wrap .i64 (Int.tmod (wrap .u64 v) (wrap .u64 n))∧wrap .i64 (Int.tmod (wrap .u64 v) (wrap .u64 n))<n:=by
 have hn:wrap .u64 n=n:=by rw[IntKind.wrap_u64];omega
 have hv:0≤wrap .u64 v:=by rw[IntKind.wrap_u64];omega
 rw[hn]
 have h0:0≤Int.tmod (wrap .u64 v) n:=Int.tmod_nonneg _ hv
 have h3:Int.tmod (wrap .u64 v) n<n:=Int.tmod_lt_of_pos _ (by omega)
 rw[QX (by omega) (by omega)]
 exact⟨by simp;omega,h0,h3⟩
theorem bL {N:Nat} {v n:Int} (h1:1≤n) (h2:n≤4611686018427387904):∃ r:Int,0≤r∧r<n∧∀ K:Int→O R,Kf N v n K=K r:=by
 obtain⟨a1,a2,a3⟩:=RI v n h1 h2
 refine⟨_,a2,a3,fun K=>?_⟩
 rw[Xm];unfold FE
 rw[a1,cond_false]
theorem Zu {N:Nat} {l:List Int} {t o:Bool} (hl:l.length≤9223372036854775807) (n:Int) (h1:1≤n) (h2:n≤4611686018427387904) (k:Nat) (hk:k≤l.length) :
  ∃ (v k':Nat),(v:Int)<n∧k'≤l.length∧∀ K:Int→Int→O R,Cu N n (Ab l) l.length t o (k:Int) K=K (v:Int) (k':Int):=by
 by_cases h:k<l.length
 ·obtain⟨a1,a2,a3⟩:=RI (l.getD k 0) n h1 h2
  refine⟨(wrap .i64 (Int.tmod (wrap .u64 (l.getD k 0)) (wrap .u64 n))).toNat,k+1,by omega,by omega,fun K=>?_⟩
  rw[Iw];unfold Jj
  have w0:wrap .i64 ((k:Int)+1)=((k+1:Nat):Int):=by rw[QX (by omega) (by omega)];omega
  have w1:wrap .i64 (wrap .i64 ((k:Int)+1) - 1)=(k:Int):=by rw[w0,QX (by omega) (by omega)];omega
  rw[w1,w0,A6 h,cond_true,Da h,Xm];unfold FE
  rw[a1,cond_false,decide_eq_false (show ¬ (k:Int)≥(l.length:Int) by omega),cond_false,Int.toNat_of_nonneg a2]
 ·refine⟨0,k,by omega,hk,fun K=>?_⟩
  rw[Iw];unfold Jj
  rw[decide_eq_true (show(k:Int)≥(l.length:Int) by omega),cond_true];rfl
theorem YD {N:Nat} {b:LA} {c:Nat} {d e:Bool} {r0:O R}:AS N b c d e r0=r0:=by rw[HM];rfl
end
end Gx

namespace Gx
open Go
open IntKind (wrap)
section
variable {R:Type}
def RK (n:Nat) (o:List Nat):Prop:=o.Nodup∧(∀ x ∈ o,x<n)∧o.length=n
theorem VX {i p:Nat} {o:List Nat} (h:RK i o) (hp:p≤i):RK (i+1) (o.take p++i::o.drop p):=by
 obtain⟨h1,h2,h3⟩:=h
 have hperm:(o.take p++i::o.drop p).Perm (i::o):=by
  have:=List.perm_middle (a:=i) (l₁:=o.take p) (l₂:=o.drop p)
  rw[List.take_append_drop] at this
  exact this
 refine⟨hperm.nodup_iff.2 (List.nodup_cons.2 ⟨fun hm=>by have:=h2 i hm;omega,h1⟩),fun x hx=>?_,by rw[hperm.length_eq];simp[h3]⟩
 have:=hperm.mem_iff.1 hx
 rcases List.mem_cons.1 this with rfl | h
 ·omega
 ·have:=h2 x h;omega
theorem UR {N n:Nat} {l:List Int} {d e:Bool} (hl:l.length≤9223372036854775807) (hn:n≤1000) :
  ∀ (r i:Nat) (fuel k:Nat) (o:List Nat),i+r=n→r<fuel→k≤l.length→RK i o →
   ∃ (o':List Nat) (k':Nat),RK n o'∧k'≤l.length∧∀ K:Nat→Int→LA→O R,Cj N K (n:Int) (Ab l) l.length d e fuel o.length (i:Int) (k:Int) (Ab (At o))=K n (k':Int) (Ab (At o'))
 | 0,i,fuel+1,k,o,hi,_,hk,ho=>by
  obtain rfl:i=n:=by omega
  refine⟨o,k,ho,hk,fun K=>?_⟩
  rw[Cj,F7,H7 (by omega),cond_false,ho.2.2]
 | r+1,i,fuel+1,k,o,hi,hf,hk,ho=>by
  obtain⟨v,k',hv,hk',hK⟩:=Zu (R:=R) (N:=N) (l:=l) (t:=d) (o:=e) hl ((i+1:Nat):Int) (by omega) (by omega) k hk
  have hol:=ho.2.2
  have hlen:=Bm o
  obtain⟨o',k'',ho',hk'',hK'⟩:=UR hl hn r (i+1) fuel k' (o.take v++i::o.drop v) (by omega) (by omega) hk' (VX ho (by omega))
  refine⟨o',k'',ho',hk'',fun K=>?_⟩
  rw[Cj,F7,Ik (by omega),cond_true,wS (by omega),hK]
  have b1:(decide ((0:Int)≤(0:Int))&&(decide (0≤(v:Int))&&(decide ((v:Int)≤((o.length:Nat):Int))&&decide (((o.length:Nat):Int)≤((o.length:Nat):Int)))))=true:=by simp;omega
  have b2:(Nat.ble (0+v) 140737488355328&&Nat.ble ((0+v)*8) 140737488355328)=true:=by simp;omega
  have b3:(Nat.ble (0+v+1) 140737488355328&&Nat.ble ((0+v+1)*8) 140737488355328)=true:=by simp;omega
  have b4:(decide (0≤(v:Int))&&(decide ((v:Int)≤((o.length:Nat):Int))&&(decide (((o.length:Nat):Int)≤((o.length:Nat):Int))&&decide (((o.length:Nat):Int)≤((o.length:Nat):Int)))))=true:=by simp;omega
  have b5:(Nat.ble (0+v+1+(o.length - v)) 140737488355328&&Nat.ble ((0+v+1+(o.length - v))*8) 140737488355328)=true:=by simp;omega
  simp only[Int.toNat_natCast]
  rw[b1,cond_true,b2,cond_true,b3,cond_true,b4,cond_true,b5,cond_true,←hK' K]
  have e1:0+v+1+(o.length - v)=(o.take v++i::o.drop v).length:=by simp;omega
  have e2:List.take ((0+v+1)*1) (List.take ((0+v)*1) (List.take (v*1) (Ab (At o)))++[AV.int .i64 (i:Int)])++List.take ((o.length - v)*1) (List.drop (0+v*1) (Ab (At o)))=Ab (At (o.take v++i::o.drop v)):=by
   have hvl:v≤o.length:=by omega
   rw[List.take_of_length_le (i:=(o.length - v)*1) (by simp[Ab,At]),List.take_of_length_le (i:=(0+v+1)*1) (by simp[Ab,At];omega),List.take_take]
   simp[Ab,At]
  rw[e1,e2]
theorem YX {N n:Nat} {l:List Int} {d e:Bool} (hN:2000≤N) (hl:l.length≤9223372036854775807) (hn:n≤1000) :
  ∃ (o:List Nat) (k':Nat),RK n o∧∀ K:Nat→Int→LA→O R,Bn N (n:Int) (Ab l) l.length d e 0 K=K n (k':Int) (Ab (At o)):=by
 obtain⟨o,k',h1,_,h3⟩:=UR (R:=R) (N:=N) (d:=d) (e:=e) hl hn n 0 N 0 [] (by omega) (by omega) (Nat.zero_le _) ⟨List.nodup_nil,(fun x hx=>by cases hx),rfl⟩
 refine⟨o,k',h1,fun K=>?_⟩
 rw[Pw,Jq]
 exact h3 K
def FI:List Int→Int→List Int
 | [],v=>[v]
 | x::l,v=>if x<v then x::FI l v else if x=v then x::l else v::x::l
theorem FJ {v x:Int}:∀ {l:List Int},x ∈ FI l v↔x=v∨x ∈ l
 | []=>by simp[FI]
 | y::l=>by
  unfold FI
  split
  ·rw[List.mem_cons,FJ,List.mem_cons]
   constructor
   ·rintro(h | h | h)
    ·exact .inr (.inl h)
    ·exact .inl h
    ·exact .inr (.inr h)
   ·rintro(h | h | h)
    ·exact .inr (.inl h)
    ·exact .inl h
    ·exact .inr (.inr h)
  ·split
   ·rename_i h
    constructor
    ·exact .inr
    ·rintro(h2 | h2)
     ·rw[h2,←h];exact List.mem_cons_self
     ·exact h2
   ·rw[List.mem_cons]
theorem N_ {v:Int}:∀ {l:List Int},l.Pairwise (·<·)→(FI l v).Pairwise (·<·)
 | [],_=>by simp[FI]
 | y::l,h=>by
  have h1:=List.pairwise_cons.1 h
  unfold FI
  split
  ·rename_i hy
   refine List.pairwise_cons.2 ⟨fun z hz=>?_,N_ h1.2⟩
   rcases FJ.1 hz with rfl | hz
   ·exact hy
   ·exact h1.1 z hz
  ·split
   ·exact h
   ·rename_i h2 h3
    refine List.pairwise_cons.2 ⟨fun z hz=>?_,h⟩
    rcases List.mem_cons.1 hz with rfl | hz
    ·omega
    ·have:=h1.1 z hz;omega
theorem US {v:Int}:∀ {l:List Int},(FI l v).length≤l.length+1
 | []=>by simp[FI]
 | y::l=>by
  have:=US (v:=v) (l:=l)
  unfold FI
  split
  ·simp;omega
  ·split<;>simp
theorem aN {N:Nat} {l:List Int} {g:Bool} {v:Int} {r0:LA→Nat→Bool→O R} (hl:l.length≤1000) :
  ∀ (fuel b:Nat),b≤l.length→l.length - b<fuel→De N r0 (Ab l) l.length g false v fuel (b:Int)=r0 (Ab (l.take b++FI (l.drop b) v)) (l.take b++FI (l.drop b) v).length false
 | 0,_,_,h=>by omega
 | fuel+1,b,hb,hf=>by
  rw[De,Ix]
  have join:Gm N r0 (Ab l) l.length g false v (b:Int)=r0 (Ab (l.take b++v::l.drop b)) (l.take b++v::l.drop b).length false:=by
   unfold Gm
   have b1:(decide ((0:Int)≤(0:Int))&&(decide (0≤(b:Int))&&(decide ((b:Int)≤((l.length:Nat):Int))&&decide (((l.length:Nat):Int)≤((l.length:Nat):Int)))))=true:=by simp;omega
   have b2:(Nat.ble (0+b) 140737488355328&&Nat.ble ((0+b)*8) 140737488355328)=true:=by simp;omega
   have b3:(Nat.ble (0+b+1) 140737488355328&&Nat.ble ((0+b+1)*8) 140737488355328)=true:=by simp;omega
   have b4:(decide (0≤(b:Int))&&(decide ((b:Int)≤((l.length:Nat):Int))&&(decide (((l.length:Nat):Int)≤((l.length:Nat):Int))&&decide (((l.length:Nat):Int)≤((l.length:Nat):Int)))))=true:=by simp;omega
   have b5:(Nat.ble (0+b+1+(l.length - b)) 140737488355328&&Nat.ble ((0+b+1+(l.length - b))*8) 140737488355328)=true:=by simp;omega
   simp only[Int.toNat_natCast,Bool.not_false,Bool.true_or]
   rw[b1,cond_true,cond_true,b2,cond_true,b3,cond_true,b4,cond_true,cond_true,b5,cond_true]
   have e1:0+b+1+(l.length - b)=(l.take b++v::l.drop b).length:=by simp;omega
   have e2:List.take ((0+b+1+(l.length - b))*1) (List.take ((0+b+1)*1) (List.take ((0+b)*1) (List.take (b*1) (Ab l))++[AV.int .i64 v])++List.take ((l.length - b)*1) (List.drop (b*1) (Ab l)))=Ab (l.take b++v::l.drop b):=by
    rw[List.take_of_length_le (i:=(l.length - b)*1) (by simp[Ab]),List.take_of_length_le (i:=(0+b+1)*1) (by simp[Ab];omega),List.take_take,List.take_of_length_le (i:=(0+b+1+(l.length - b))*1) (by simp[Ab];omega)]
    simp[Ab]
   rw[e2,e1]
  by_cases hlt:b<l.length
  ·have hx:=X3 (getD_some hlt)
   rw[Ik (by omega)]
   simp only[beq_self_eq_true,cond_true]
   rw[A6 hlt,cond_true,Da hlt]
   by_cases h1:l.getD b 0<v
   ·rw[decide_eq_true h1,cond_true,wS (by omega),aN hl fuel (b+1) (by omega) (by omega)]
    have:l.take (b+1)++FI (l.drop (b+1)) v=l.take b++FI (l.drop b) v:=by
     rw[hx,FI,if_pos h1,D7 (getD_some hlt)];simp
    rw[this]
   ·rw[decide_eq_false h1,cond_false,cond_true,Da hlt,hx,FI,if_neg h1]
    by_cases h2:l.getD b 0=v
    ·rw[beq_iff_eq.2 h2,cond_true,if_pos h2,←hx,List.take_append_drop]
    ·have hb2:(l.getD b 0==v)=false:=by simpa using h2
     rw[hb2,cond_false,if_neg h2,join,hx]
  ·have:b=l.length:=by omega
   subst this
   rw[H7 (by omega)]
   have hft:(false==true)=false:=rfl
   rw[hft,cond_false,cond_false,join,List.drop_length];rfl
theorem L' {N:Nat} {l:List Int} {g:Bool} {v:Int} {r0:LA→Nat→Bool→O R} (hN:2000≤N) (hl:l.length≤1000):Eg N (Ab l) l.length g false v r0=r0 (Ab (FI l v)) (FI l v).length false:=by
 rw[Oy,Jk]
 exact aN hl N 0 (Nat.zero_le _) (by omega)
theorem aO {rows:List (List Int)} (h1:∀ i,(Ah rows i).Pairwise (·<·)) (h2:∀ i x,x ∈ Ah rows i→∃ j:Nat,x=(j:Int)∧j<rows.length∧j≠i) (h3:∀ i j:Nat,(j:Int) ∈ Ah rows i→(i:Int) ∈ Ah rows j):vG rows=true:=by
 unfold vG
 rw[Bool.and_eq_true,D8,D8]
 refine⟨fun i _ hi=>?_,fun i _ hi=>?_⟩
 ·rw[D8]
  intro k _ hk
  have hk:k<(Ah rows i).length:=by omega
  obtain⟨j,e1,e2,e3⟩:=h2 i _ (List.mem_of_getElem? (getD_some hk))
  unfold Mu
  simp only[Bool.and_eq_true,Bool.or_eq_true,decide_eq_true_eq]
  refine⟨by omega,by omega,by omega,?_⟩
  by_cases h0:k=0
  ·exact .inl h0
  ·right
   have:=(List.pairwise_iff_getElem.1 (h1 i)) (k - 1) k (by omega) hk (by omega)
   have ea:=getD_some (show k - 1<(Ah rows i).length by omega)
   have ec:=getD_some hk
   rw[List.getElem?_eq_getElem (by omega)] at ea ec
   injection ea with ea
   injection ec with ec
   omega
 ·rw[D8]
  intro k _ hk
  have hk:k<(Ah rows i).length:=by omega
  have hm:=List.mem_of_getElem? (getD_some hk)
  obtain⟨j,e1,e2,e3⟩:=h2 i _ hm
  unfold X0
  rw[e1,Int.toNat_natCast,decide_eq_true_eq]
  rw[e1] at hm
  exact h3 i j hm
theorem RL {rows:List (List Int)} {i j:Nat} {r:List Int} (h:i<rows.length):Ah (rows.set i r) j=if j=i then r else Ah rows j:=by
 unfold Ah
 rw[List.getD_eq_getElem?_getD,List.getD_eq_getElem?_getD]
 by_cases e:j=i
 ·subst e;rw[if_pos rfl,List.getElem?_set_self h];rfl
 ·rw[if_neg e,List.getElem?_set_ne (Ne.symm e)]
theorem YE {c:LA} {rows:List (List Int)} (h:GR c rows) {i:Nat} {r:List Int} (hi:i<rows.length):GR (c.set i (.imm (Ab r) r.length 1 false false)) (rows.set i r):=by
 refine⟨by rw[List.length_set,List.length_set];exact h.1,fun j s hj=>?_⟩
 by_cases e:i=j
 ·subst e
  rw[List.getElem?_set_self hi] at hj
  injection hj with hj
  subst hj
  exact⟨_,List.getElem?_set_self (by rw[h.1];exact hi),by simp[P0]⟩
 ·rw[List.getElem?_set_ne e] at hj
  obtain⟨x,h1,h2⟩:=h.2 j s hj
  exact⟨x,by rw[List.getElem?_set_ne e];exact h1,h2⟩
def VY (rows:List (List Int)) (a b:Nat):List (List Int):=(rows.set a (FI (Ah rows a) (b:Int))).set b (FI (Ah rows b) (a:Int))
theorem RM {rows:List (List Int)} {a b i:Nat} (ha:a<rows.length) (hb:b<rows.length) (hab:a≠b):Ah (VY rows a b) i=if i=b then FI (Ah rows b) (a:Int) else if i=a then FI (Ah rows a) (b:Int) else Ah rows i:=by
 unfold VY
 rw[RL (by simpa using hb),RL ha]
theorem TT {rows:List (List Int)} (h:vG rows=true) {a b:Nat} (ha:a<rows.length) (hb:b<rows.length) (hab:a≠b):vG (VY rows a b)=true:=by
 have hlen:(VY rows a b).length=rows.length:=by simp[VY]
 have hmem:∀ (i:Nat) (x:Int),x ∈ Ah (VY rows a b) i↔x ∈ Ah rows i∨(i=a∧x=(b:Int))∨(i=b∧x=(a:Int)):=by
  intro i x
  rw[RM ha hb hab]
  by_cases e1:i=b
  ·subst e1
   rw[if_pos rfl,FJ]
   constructor
   ·rintro(h | h)
    ·exact .inr (.inr ⟨rfl,h⟩)
    ·exact .inl h
   ·rintro(h | ⟨h,_⟩ | ⟨_,h⟩)
    ·exact .inr h
    ·exact absurd h.symm hab
    ·exact .inl h
  ·rw[if_neg e1]
   by_cases e2:i=a
   ·subst e2
    rw[if_pos rfl,FJ]
    constructor
    ·rintro(h | h)
     ·exact .inr (.inl ⟨rfl,h⟩)
     ·exact .inl h
    ·rintro(h | ⟨_,h⟩ | ⟨h,_⟩)
     ·exact .inr h
     ·exact .inl h
     ·exact absurd h hab
   ·rw[if_neg e2]
    simp[e1,e2]
 refine aO (fun i=>?_) (fun i x hx=>?_) (fun i j hij=>?_)
 ·rw[RM ha hb hab]
  split
  ·exact N_ (X1 (JE h))
  ·split
   ·exact N_ (X1 (JE h))
   ·exact X1 (JE h)
 ·rw[hlen]
  rcases(hmem i x).1 hx with h1 | ⟨h1,h2⟩ | ⟨h1,h2⟩
  ·obtain⟨j,e1,e2,e3,_⟩:=BF h h1
   exact⟨j,e1,e2,e3⟩
  ·exact⟨b,h2,hb,by omega⟩
  ·exact⟨a,h2,ha,by omega⟩
 ·rw[hmem] at hij ⊢
  rcases hij with h1 | ⟨h1,h2⟩ | ⟨h1,h2⟩
  ·left
   have:=JF h (i:=i) (j:=j) (decide_eq_true h1)
   exact of_decide_eq_true this
  ·exact .inr (.inr ⟨by omega,by omega⟩)
  ·exact .inr (.inl ⟨by omega,by omega⟩)
theorem UT {N n:Nat} {l:List Int} {e:Bool} (hN:2000≤N) (hl:l.length≤9223372036854775807) (hn:n≤20) :
  ∀ (r fuel k:Nat) (c:LA) (rows:List (List Int)),r<fuel→r≤1000→k≤l.length→GR c rows→vG rows=true→rows.length=n →
   ∃ (c':LA) (rows':List (List Int)),GR c' rows'∧vG rows'=true∧rows'.length=n∧∀ K:LA→Nat→Bool→O R,B0 N K (n:Int) (Ab l) l.length e fuel n (r:Int) (k:Int) false c=K c' n false
 | 0,fuel+1,k,c,rows,_,_,hk,hc,hv,hr=>by
  refine⟨c,rows,hc,hv,hr,fun K=>?_⟩
  rw[B0,Er,decide_eq_false (show ¬ ((0:Nat):Int)>0 by omega)]
  have hft:(false==true)=false:=rfl
  rw[hft,cond_false,Nat.mul_one,List.take_of_length_le (by rw[hc.1,hr];exact Nat.le_refl _)]
 | r+1,fuel+1,k,c,rows,hf,hr2,hk,hc,hv,hr=>by
  by_cases hn1:n>1
  ·obtain⟨a,k1,ha,hk1,hK1⟩:=Zu (R:=R) (N:=N) (l:=l) (t:=false) (o:=e) hl (n:Int) (by omega) (by omega) k hk
   obtain⟨t,k2,ht,hk2,hK2⟩:=Zu (R:=R) (N:=N) (l:=l) (t:=false) (o:=e) hl ((n - 1:Nat):Int) (by omega) (by omega) k1 hk1
   have ha':a<rows.length:=by omega
   have hb':(a+1+t)%n<rows.length:=by rw[hr];exact Nat.mod_lt _ (by omega)
   have hab:a≠(a+1+t)%n:=by
    intro e
    by_cases h:a+1+t<n
    ·rw[Nat.mod_eq_of_lt h] at e;omega
    ·rw[Nat.mod_eq_sub_mod (by omega),Nat.mod_eq_of_lt (by omega)] at e;omega
   have hra:=BG hv a
   have hrb:=BG hv ((a+1+t)%n)
   have hla:=US (v:=(((a+1+t)%n:Nat):Int)) (l:=Ah rows a)
   have hc1:=YE hc (i:=a) (r:=FI (Ah rows a) (((a+1+t)%n:Nat):Int)) ha'
   have hc2:=YE hc1 (i:=(a+1+t)%n) (r:=FI (Ah rows ((a+1+t)%n)) (a:Int)) (by simpa using hb')
   obtain⟨c',rows',h1,h2,h3,h4⟩:=UT (e:=e) hN hl hn r fuel k2 _ _ (by omega) (by omega) hk2 hc2 (TT hv ha' hb' hab) (by simp;omega)
   refine⟨c',rows',h1,h2,h3,fun K=>?_⟩
   rw[B0,Er,decide_eq_true (show((r+1:Nat):Int)>0 by omega),decide_eq_true (show(n:Int)>1 by omega)]
   simp only[beq_self_eq_true,cond_true]
   unfold Hp
   have hz:((n:Int)==0)=false:=by simp;omega
   have e0:wrap .i64 ((n:Int) - 1)=((n - 1:Nat):Int):=by rw[QX (by omega) (by omega)];omega
   have e1:wrap .i64 (wrap .i64 ((a:Int)+1)+(t:Int))=((a+1+t:Nat):Int):=by rw[wS (by omega),QX (by omega) (by omega)];omega
   have e2:Int.tmod ((a+1+t:Nat):Int) (n:Int)=(((a+1+t)%n:Nat):Int):=by
    rw[Int.tmod_eq_emod_of_nonneg (by omega)];omega
   have e3:wrap .i64 (((r+1:Nat):Int) - 1)=(r:Int):=by rw[QX (by omega) (by omega)];omega
   have hcl:=hc.1
   rw[hK1,e0,hK2,hz,cond_false,A6 (by omega),cond_true,ZD hc ha',e1,e2,L' hN (by omega),A6 (by omega),cond_true,ZD hc hb',L' hN (by omega),cond_true]
   rw[Q_ (x:=a) (by omega),cond_true,cond_true,Q_ (x:=(a+1+t)%n) (by rw[List.length_set];omega),cond_true,e3]
   simp only[Int.toNat_natCast,Nat.zero_add,Nat.mul_one,Bool.or_false]
   exact h4 K
  ·refine⟨c,rows,hc,hv,hr,fun K=>?_⟩
   rw[B0,Er,decide_eq_true (show((r+1:Nat):Int)>0 by omega),decide_eq_false (show ¬ (n:Int)>1 by omega)]
   simp only[beq_self_eq_true,cond_true]
   rw[cond_false,Nat.mul_one,List.take_of_length_le (by rw[hc.1,hr];exact Nat.le_refl _)]
theorem YF {N:Nat} {l:List Int} {p e:Bool} (hN:2000≤N) (hl:l.length≤9223372036854775807) :
  ∃ (c:LA) (rows:List (List Int)),GR c rows∧vG rows=true∧rows.length≤9∧∀ K:LA→Nat→Bool→O R,G3 N (Ab l) l.length p e K=K c rows.length false:=by
 obtain⟨n,k1,hn,hk1,hK1⟩:=Zu (R:=R) (N:=N) (l:=l) (t:=false) (o:=e) hl 10 (by omega) (by omega) 0 (Nat.zero_le _)
 obtain⟨r,k2,hr,hk2,hK2⟩:=Zu (R:=R) (N:=N) (l:=l) (t:=false) (o:=e) hl 20 (by omega) (by omega) k1 hk1
 have hrow:∀ i,Ah (List.replicate n []) i=[]:=by
  intro i
  unfold Ah
  rw[List.getD_eq_getElem?_getD]
  by_cases h:i<n<;>simp[h]
 have hv0:vG (List.replicate n [])=true:=aO (fun i=>by rw[hrow];exact List.Pairwise.nil) (fun i x hx=>by rw[hrow] at hx;cases hx) (fun i j hx=>by rw[hrow] at hx;cases hx)
 have hg0:GR (List.replicate n AV.nsl) (List.replicate n []):=by
  refine⟨by simp,fun i s hs=>?_⟩
  rw[List.getElem?_replicate] at hs
  split at hs
  ·rename_i hi
   injection hs with hs
   subst hs
   exact⟨AV.nsl,by rw[List.getElem?_replicate,if_pos hi],by simp[P0,Ab]⟩
  ·cases hs
 obtain⟨c',rows',h1,h2,h3,h4⟩:=UT (R:=R) (e:=e) hN hl (show n≤20 by omega) r N k2 _ _ (by omega) (by omega) hk2 hg0 hv0 (by simp)
 refine⟨c',rows',h1,h2,by omega,fun K=>?_⟩
 rw[Sa,Lc,YD]
 have hK1':=hK1
 rw[show((0:Nat):Int)=0 from rfl] at hK1'
 have hb:(decide (0≤(n:Int))&&(decide ((n:Int)≤(n:Int))&&(decide ((n:Int)≤140737488355328)&&decide ((n:Int)*((24:Nat):Int)≤140737488355328))))=true:=by simp;omega
 rw[hK1',hb,cond_true,hK2,Int.toNat_natCast,h4 K,h3]
end
end Gx

namespace Gx
open Go
open IntKind (wrap)
section
variable {R:Type}
theorem YG {N:Nat} {r0:Bool→O R} (hN:2000≤N):G8 N r0=r0 true:=by
 rw[S3]
 unfold Q4
 have g1:GR [(.imm [(.int .i64 1)] 1 1 false false),(.imm [(.int .i64 0),(.int .i64 2)] 2 1 false false),(.imm [(.int .i64 1)] 1 1 false false)] [[1],[0,2],[1]]:=by
  refine⟨rfl,fun i r h=>?_⟩
  match i with
  | 0=>injection h with h;subst h;exact⟨_,rfl,rfl⟩
  | 1=>injection h with h;subst h;exact⟨_,rfl,rfl⟩
  | 2=>injection h with h;subst h;exact⟨_,rfl,rfl⟩
  | i+3=>simp at h
 have g2:GR [(.imm [(.int .i64 1),(.int .i64 2),(.int .i64 3)] 3 1 false false),(.imm [(.int .i64 0)] 1 1 false false),(.imm [(.int .i64 0)] 1 1 false false),(.imm [(.int .i64 0)] 1 1 false false)] [[1,2,3],[0],[0],[0]]:=by
  refine⟨rfl,fun i r h=>?_⟩
  match i with
  | 0=>injection h with h;subst h;exact⟨_,rfl,rfl⟩
  | 1=>injection h with h;subst h;exact⟨_,rfl,rfl⟩
  | 2=>injection h with h;subst h;exact⟨_,rfl,rfl⟩
  | 3=>injection h with h;subst h;exact⟨_,rfl,rfl⟩
  | i+4=>simp at h
 have l1:∀ j,(Ah [[1],[0,2],[1]] j).length≤1000:=fun j=>by
  match j with
  | 0=>decide
  | 1=>decide
  | 2=>decide
  | j+3=>rw[Mw (by simp)];simp
 have l2:∀ j,(Ah [[1,2,3],[0],[0],[0]] j).length≤1000:=fun j=>by
  match j with
  | 0=>decide
  | 1=>decide
  | 2=>decide
  | 3=>decide
  | j+4=>rw[Mw (by simp)];simp
 have m1:XY [[1],[0,2],[1]]=([0,1,2],0):=by decide
 have t1:XV [[1],[0,2],[1]] [0,1,2]=([1,2,-1],0):=by decide
 have f1:bI [[1,2,3],[0],[0],[0]] [0,1,2,3]=(3,0):=by decide
 refine Eq.trans (To (rows:=[[1],[0,2],[1]]) hN g1 (by decide) l1) ?_
 rw[m1]
 have hh:(Ab [0,1,2]).take (([0,1,2]:List Int).length*1)=Ab [0,1,2]:=Zt
 simp only[hh]
 refine Eq.trans (JL (rows:=[[1],[0,2],[1]]) (ord:=[0,1,2]) hN g1 (by decide) l1 (by decide)) ?_
 rw[t1]
 have hh2:(Ab [1,2,-1]).take (([1,2,-1]:List Int).length*1)=Ab [1,2,-1]:=Zt
 simp only[hh2]
 refine Eq.trans (JJ (rows:=[[1,2,3],[0],[0],[0]]) (ord:=[0,1,2,3]) hN g2 (by decide) l2 (by decide)) ?_
 rw[f1]
 simp only[beq_self_eq_true,cond_true]
 refine Eq.trans (Zs (l:=[0,1,2]) hN (by decide)) ?_
 simp only[beq_self_eq_true,cond_true]
 refine Eq.trans (Zs (l:=[1,2,-1]) hN (by decide)) ?_
 simp only[beq_self_eq_true,cond_true]
theorem YH {rows:List (List Int)} (h:vG rows=true) (hn:rows.length≤1000):∀ j,(Ah rows j).length≤1000:=fun j=>Nat.le_trans (BG h j) hn
theorem VZ {N:Nat} {rows:List (List Int)} {ord ch pm:List Int} {g:LA} {s l t c u q v f:Bool} {b:Int} {r0:Bool→O R} (hN:2000≤N) (hg:GR g rows) (hch:ch.length≤9223372036854775807) (hpm:pm.length≤9223372036854775807) :
  Cs N g rows.length s l (Ab ord) ord.length t c (Ab ch) ch.length u q (Ab pm) pm.length v f b r0=r0 true:=by
 rw[Hd]
 unfold Fr
 obtain⟨gc,rx,h1,h2,h3,h4⟩:=YF (R:=R) (p:=false) (e:=q) hN hch
 obtain⟨od,bb,ho,hF⟩:=YC (N:=N) (l:=ord) (f:=false) (d:=c) (R:=R) (r0:=fun y z ao=>(G8 N (fun ac=>(cond (ac==true) (Fk N g rows.length false l (fun ad=>(cond ((!ad)==false) (Ar N g rows.length false l y z false c b (fun ae=>(cond ((cond true (cond false true ae) false)==true) (Kf N b 11 (fun af=>(Ar N gc rx.length false false y z false c (wrap .i64 (af - 1)) (fun ag=>(cond ((cond true ag false)==true) (Bn N ((rx.length:Nat):Int) (Ab pm) pm.length false f 0 (fun aa ap ah=>(Ar N gc rx.length false false (ah.take (aa*1)) aa false true b (fun ai=>(r0 (cond true ai false)))))) (r0 false)))))) (r0 false)))) (Kf N b 11 (fun aj=>(Ar N gc rx.length false false y z false c (wrap .i64 (aj - 1)) (fun ak=>(cond ((cond true ak false)==true) (Bn N ((rx.length:Nat):Int) (Ab pm) pm.length false f 0 (fun ab aq al=>(Ar N gc rx.length false false (al.take (ab*1)) ab false true b (fun am=>(r0 (cond true am false)))))) (r0 false))))))))) (r0 false)))))
 rw[h4,YD]
 refine Eq.trans hF ?_
 rw[YG hN]
 obtain⟨mv,m1,m2,m3⟩:=bL (R:=R) (N:=N) (v:=b) (n:=11) (by omega) (by omega)
 obtain⟨po,k',hp,hpK⟩:=YX (R:=R) (N:=N) (n:=rx.length) (l:=pm) (d:=false) (e:=f) hN hpm (by omega)
 have hpl:(At po).length=rx.length:=by rw[Bm];exact hp.2.2
 have tail:(Kf N b 11 (fun aj=>(Ar N gc rx.length false false (Ab od) od.length false c (wrap .i64 (aj - 1)) (fun ak=>(cond ((cond true ak false)==true) (Bn N ((rx.length:Nat):Int) (Ab pm) pm.length false f 0 (fun ab aq al=>(Ar N gc rx.length false false (al.take (ab*1)) ab false true b (fun am=>(r0 (cond true am false)))))) (r0 false))))))=r0 true:=by
  rw[m3,BK hN h1 (by omega) (YH h2 (by omega)) (by omega)]
  simp only[beq_self_eq_true,cond_true]
  rw[hpK]
  have e1:=Zt (l:=At po)
  rw[hpl] at e1
  have:=BK (N:=N) (ord:=At po) (l:=false) (d:=false) (m:=false) (g:=true) (v:=b) (r0:=fun am=>(r0 (cond true am false))) hN h1 (by omega) (YH h2 (by omega)) (by rw[hpl];omega)
  rw[hpl] at this
  rw[e1]
  exact this
 simp only[beq_self_eq_true,cond_true] at tail ⊢
 obtain⟨sb,hs,hsi⟩:=YB (N:=N) (rows:=rows) (c:=g) (d:=false) (e:=l) (R:=R) (r0:=fun ad=>(cond ((!ad)==false) (Ar N g rows.length false l (Ab od) od.length false c b (fun ae=>(cond ((cond false true ae)==true) (Kf N b 11 (fun af=>(Ar N gc rx.length false false (Ab od) od.length false c (wrap .i64 (af - 1)) (fun ag=>(cond (ag==true) (Bn N ((rx.length:Nat):Int) (Ab pm) pm.length false f 0 (fun aa ap ah=>(Ar N gc rx.length false false (ah.take (aa*1)) aa false true b (fun ai=>(r0 ai))))) (r0 false)))))) (r0 false)))) (Kf N b 11 (fun aj=>(Ar N gc rx.length false false (Ab od) od.length false c (wrap .i64 (aj - 1)) (fun ak=>(cond (ak==true) (Bn N ((rx.length:Nat):Int) (Ab pm) pm.length false f 0 (fun ab aq al=>(Ar N gc rx.length false false (al.take (ab*1)) ab false true b (fun am=>(r0 am))))) (r0 false)))))))) hN hg
 refine Eq.trans hs ?_
 cases sb with
 | false=>exact tail
 | true =>
  obtain⟨k1,k2⟩:=hsi rfl
  simp only[Bool.not_true,beq_self_eq_true,cond_true]
  rw[BK hN hg (by omega) (fun j=>Nat.le_trans (k2 j) (by omega)) (by omega)]
  simp only[beq_self_eq_true,cond_true,cond_false]
  exact tail
end
end Gx

namespace Gx
open Go Go.RowKit
section
variable {P:Program} {W:World} {H:Type} {enc:TypeId×Value→H} {β:As} {h:Ag}
theorem UU {t el:TypeId} {α:Type} {e:α→LA} {n:Nat} {a:Option Addr} {len cap:Nat} {d:DataW H} {p:List MemPlace} (hu:P.underlying t=some (.slice el)) (hc:P.cellsOf t=1) (he:Opens P el e n)
  (hd:DataW.Trod enc P W 0 (fun _=>true) true t (.slice a len cap) d p):∃ l:List α,l.length≤maxLen∧Rep (fun _ k=>k<W.heap.size) β h W (.imm (l.flatMap e) l.length n false false) (.slice a len cap):=by
 obtain⟨fuel,hf⟩:=hd
 obtain⟨_,⟨l,hl⟩,hr⟩:=(CK hu hc he).read enc W fuel _ _ _ hf
 refine⟨l,hl,?_⟩
 simp only[RepCs,Value.cells,and_true] at hr
 obtain⟨u,hu,hr⟩:=hr
 simp at hu;subst hu
 rw[Rep];exact hr
theorem YY {k:IntKind} {n:Int}:Rep (fun _ k=>k<W.heap.size) β h W (.int k n) (.int k n):=by rw[Rep]
theorem YI:Reps (fun _ k=>k<W.heap.size) β h W [] []:=by rw[Reps]
theorem Pz {x:AV} {xs:LA} {v:Value} {vs:List Value} (h1:Rep (fun _ k=>k<W.heap.size) β h W x v) (h2:Reps (fun _ k=>k<W.heap.size) β h W xs vs):Reps (fun _ k=>k<W.heap.size) β h W (x::xs) (v::vs):=by
 rw[Reps];exact⟨v,vs,rfl,h1,h2⟩
end
end Gx

namespace Gx
open Go Go.Proofs Go.RowKit
section
variable {H:Type} {enc:TypeId×Value→H} {W:World} {β:As} {h:Ag}
theorem TU {q:Int→Prop}:∀ m:List { n:Int // q n },m.flatMap (fun n=>[AV.int .i64 n.1])=Ab (m.map (·.1))
 | []=>rfl
 | a::r=>by rw[List.flatMap_cons,TU r];rfl
theorem X4 {a:Option Addr} {len cap:Nat} {d:DataW H} {p:List MemPlace} (hd:DataW.Trod enc Try.prog W 0 (fun _=>true) true 22 (.slice a len cap) d p) :
  ∃ l:List Int,l.length≤9223372036854775807∧Rep (fun _ k=>k<W.heap.size) β h W (.imm (Ab l) l.length 1 false false) (.slice a len cap):=by
 obtain⟨l,hl,e⟩:=UU (β:=β) (h:=h) Try.underlying22 (by kernel_rfl) (LI Try.underlying3 (by kernel_rfl)) hd
 rw[TU] at e
 exact⟨l.map (·.1),by rw[List.length_map];simpa[maxLen] using hl,by rw[List.length_map];exact e⟩
theorem MA {q:Int→Prop}:∀ m:List { l:List { n:Int // q n } // l.length≤maxLen },GR (m.flatMap (fun l=>[AV.imm (l.1.flatMap (fun n=>[AV.int .i64 n.1])) l.1.length 1 false false])) (m.map (fun l=>l.1.map (·.1)))
 | []=>X2
 | a::r=>by
  have ih:=MA r
  rw[List.flatMap_cons,List.map_cons]
  refine⟨by rw[List.length_append,ih.1,List.length_cons];exact Nat.add_comm 1 _,fun i s hs=>?_⟩
  cases i with
  | zero =>
   simp at hs
   subst hs
   refine⟨_,rfl,?_⟩
   rw[TU];simp[P0]
  | succ i =>
   simp only[List.getElem?_cons_succ] at hs
   obtain⟨x,h1,h2⟩:=ih.2 i s hs
   exact⟨x,by simpa using h1,h2⟩
theorem TV {a:Option Addr} {len cap:Nat} {d:DataW H} {p:List MemPlace} (hd:DataW.Trod enc Try.prog W 0 (fun _=>true) true 23 (.slice a len cap) d p) :
  ∃ (c:LA) (rows:List (List Int)),GR c rows∧Rep (fun _ k=>k<W.heap.size) β h W (.imm c rows.length 1 false false) (.slice a len cap):=by
 obtain⟨l,hl,e⟩:=UU (β:=β) (h:=h) Try.underlying23 (by kernel_rfl) (CK Try.underlying22 (by kernel_rfl) (LI Try.underlying3 (by kernel_rfl))) hd
 exact⟨_,_,MA l,by rw[List.length_map];exact e⟩
end
section
variable {R:Type}
theorem TW (N:Nat) {K:Bool→O R} {rows:List (List Int)} {ord ch pm:List Int} {g:LA} {s l t c u q v f:Bool} {b:Int} (hN:2000≤N) (hg:GR g rows) (hch:ch.length≤9223372036854775807) (hpm:pm.length≤9223372036854775807) :
  Cs N g rows.length s l (Ab ord) ord.length t c (Ab ch) ch.length u q (Ab pm) pm.length v f b K=K true:=VZ hN hg hch hpm
end
end Gx
namespace Gx
open Go Go.Proofs
theorem b8 {W:World}:GlobOk (fun _ k=>k<W.heap.size) W:=⟨(fun _ hp=>by cases hp),(fun _ hg=>by cases hg)⟩
end Gx
