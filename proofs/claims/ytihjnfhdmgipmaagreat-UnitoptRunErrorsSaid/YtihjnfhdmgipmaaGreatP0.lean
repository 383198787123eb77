/- A part of the proof; each theorem says what it holds. -/
import GoSem.Step
import Derived.KernelRfl
import Derived.WalkKit
import Derived.Deep.MidRow
import Derived.Deep.AppendSrc
import Derived.Laws.IdiomStrings
import Derived.Deep.Upon
import Derived.Lib.Builder
import Derived.Laws.BytesString
import Derived.Lib.UnsafeStr
import Derived.Laws.Externs
import Derived.Laws.Tables
set_option linter.unusedVariables false
set_option linter.defProp false
set_option linter.unusedSimpArgs false
open Nat (ble beq)
open List (take drop replicate)
open Go.IntKind (wrap)
namespace Gx
abbrev Lu:=List UInt8
def zC:=@Option.bind_assoc
def zD:=@List.getElem?_eq_getElem
def zE:=@Nat.le_refl
def zF:=@List.take_of_length_le
def zG:=@Int.toNat_natCast
def zH:=@Nat.mul_comm
def zI:=@Nat.mul_le_mul_right
def zJ:=@Bool.and_eq_true
def zK:=@List.getElem?_eq_some_iff
def zL:=@Nat.mul_assoc
def zM:=@Nat.eq_of_beq_eq_true
def zN:=@Nat.mul_add
def zO:=@List.getD_eq_getElem?_getD
def zP:=@List.mem_append
def zQ:=@List.getElem_mem
def zR:=@Nat.pow_succ
def zS:=@Nat.add_mul
def zT:=@List.length_take
def zU:=@Nat.zero_add
def zV:=@Nat.lt_of_lt_of_le
def zW:=@Nat.mul_le_mul_left
def zX:=@List.mem_cons
def zY:=@Nat.mul_one
def zZ:=@Nat.min_eq_left
def z6:=@Nat.eq_zero_or_pos
def z7:=@List.getElem?_set_ne
def z8:=@List.length_cons
def z_:=@List.map_cons
def za:=@List.getElem_append_left
def zc:=@Rat.intCast_sub
def zd:=@List.take_length
def zf:=@Nat.mod_eq_of_lt
def zg:=@Nat.add_zero
def zh:=@Nat.pow_le_pow_right
def zi:=@List.getElem?_set_self
def zj:=@List.head?_eq_getElem?
def zk:=@List.getElem?_drop
def zl:=@Nat.lt_of_le_of_lt
def zm:=@Int.natAbs_natCast
def zn:=@Int.sign_eq_neg_one_of_neg
def zo:=@Nat.ble_eq
def zp:=@List.getElem?_eq_none
def zq:=@List.length_append
def zr:=@List.mem_map
def zt:=@List.getElem?_append
def zu:=@List.take_succ_eq_append_getElem
def zw:=@Nat.div_eq_of_lt
def zx:=@Nat.div_add_mod
def zy:=@List.drop_zero
def Aaa:=@List.drop_eq_nil_of_le
def Aab:=@Nat.pow_add
def Aac:=@Nat.mul_lt_mul''
def Aad:=@List.flatMap_cons
def Aae:=@List.nodup_cons
def Aaf:=@Nat.add_assoc
def Aag:=@List.pairwise_iff_getElem
def Aah:=@Nat.pow_pos
def Aai:=@Rat.intCast_le_intCast
def Aaj:=@Array.getElem?_modify
def Aak:=@Nat.gcd_comm
def Aal:=@Nat.le_trans
def Aam:=@Rat.intCast_add
def Aan:=@Array.ext'
def Aao:=@Array.getElem?_eq_some_iff
def Aap:=@Nat.dvd_mul_left_of_dvd
def Aaq:=@Option.bind_some
def Aar:=@List.drop_eq_getElem_cons
def Aas:=@Array.getElem?_eq_none
def Aat:=@Int.sign_eq_one_of_pos
def Aau:=@List.getElem?_take
def Aav:=@Nat.mod_lt
def Aaw:=@Nat.div_le_self
def Aax:=@List.cons_append
def Aay:=@List.getElem_map
def Aaz:=@List.getElem_take
def Aa0:=@Bool.false_eq_true
def Aa1:=@Bool.eq_iff_iff
def Aa2:=@List.getElem_append_right
def Aa3:=@Nat.mul_left_comm
def Aa4:=@Nat.mul_le_mul
def Aa5:=@List.length_map
def Aa6:=@Nat.gcd_zero_right
def Aa7:=@Nat.le_of_not_lt
def Aa8:=@Array.getD_eq_getD_getElem?
def Aa9:=@List.append_assoc
def Aba:=@Option.some.injEq
def Abb:=@List.mem_filter
def Abc:=@Nat.lt_of_mul_lt_mul_left
def Abd:=@List.take_append_drop
def Abe:=@Nat.gcd_dvd_left
def Abf:=@List.forall_mem_cons
def Abg:=@List.mem_iff_getElem
def Abh:=@Nat.add_mul_div_left
def Abi:=@Nat.mul_lt_mul_right
def Abj:=@Rat.le_refl
def Abk:=@Array.getElem?_append_left
def Abl:=@Int.natAbs_mul
def Abm:=@List.mem_singleton
def Abn:=@List.mem_take_iff_getElem
def Abo:=@List.getElem?_map
def Abp:=@List.map_map
def Abq:=@Nat.div_lt_of_lt_mul
def Abr:=@Int.mul_ediv_cancel_left
def Abs:=@Nat.gcd_pos_of_pos_right
def Abt:=@Array.length_toList
def Abu:=@List.drop_succ_cons
def Abv:=@List.getLast_eq_getElem
def Abw:=@Rat.mul_le_mul_of_nonneg_right
def Abx:=@Nat.zero_le
def Aby:=@Rat.intCast_lt_intCast
def Abz:=@List.append_nil
def Ab0:=@Nat.le_max_left
def Ab1:=@Nat.le_div_iff_mul_le
def Ab2:=@Int.lt_trichotomy
def Ab3:=@Nat.gcd_dvd_right
def Ab4:=@Int.le_refl
def Ab5:=@List.getElem?_append_right
def Ab6:=@List.mem_cons_of_mem
def Ab7:=@List.mem_of_mem_take
def Ab8:=@List.pairwise_append
def Ab9:=@Nat.lt_of_mul_lt_mul_right
def Aca:=@Rat.div_def
def Acb:=@List.all_eq_true
def Acc:=@Nat.add_comm
def Acd:=@Nat.le_max_right
def Ace:=@List.getElem?_append_left
def Acf:=@List.getLast?_eq_getElem?
def Acg:=@List.getLastD_eq_getLast?
def Ach:=@List.flatMap_append
def Aci:=@List.map_congr_left
def Acj:=@List.getElem?_take_of_lt
def Ack:=@Nat.mul_add_div
def Acl:=@BitVec.toNat_ofNat
def Acm:=@List.pairwise_cons
def Acn:=@Nat.mul_right_comm
def Aco:=@Rat.mul_inv_cancel
def Acp:=@Rat.sub_eq_add_neg
def Acq:=@Nat.le_mul_of_pos_right
def Acr:=@Bool.and_false
def Acs:=@Bool.not_false
def Acu:=@List.getElem_cons_succ
def Acv:=@List.getElem_cons_zero
def Acw:=@Nat.div_div_eq_div_mul
def Acx:=@Nat.pow_zero
def Acy:=@Array.getElem?_setIfInBounds_ne
def Acz:=@Nat.div_lt_iff_lt_mul
def Ac0:=@Nat.le_of_ble_eq_true
def Ac1:=@List.getElem_set
def Ac2:=@List.mem_flatMap
def Ac3:=@Nat.dvd_add_left
def Ac4:=@Nat.lt_of_not_le
def Ac5:=@Option.bind_none
def Ac6:=@Rat.mkRat_eq_div
def Ac7:=@Bool.not_true
def Ac8:=@List.eq_nil_of_length_eq_zero
def Ac9:=@Array.getElem?_setIfInBounds
def Ada:=@List.length_nil
def Adb:=@List.nil_append
def Adc:=@Nat.mul_add_mod
def Ade:=@Nat.mul_ne_zero
def Adf:=@Rat.intCast_mul
def Adg:=@Rat.natCast_pos
def Adh:=@Rat.num_eq_zero
def Adi:=@List.filter_eq_self
def Adj:=@List.replicate_succ
def Adk:=@Rat.mkRat_add_mkRat
def Adl:=@Bool.or_true
def Adm:=@List.map_set
def Adn:=@List.set_set
def Ado:=@Nat.lt_or_ge
def Adp:=@Nat.sub_self
def Adq:=@Nat.zero_mul
def Adr:=@Bool.false_and
def Ads:=@Int.fdiv_eq_ediv_of_nonneg
def Adt:=@Rat.le_of_mul_le_mul_right
def Adu:=@Int.sign_eq_zero_iff_zero
def Adv:=@List.mem_or_eq_of_mem_set
def Adw:=@Nat.add_mul_mod_self_left
def Adx:=@Bool.not_eq_true'
def Ady:=@List.any_eq_false
def Adz:=@Nat.dvd_mul_right
def Ad0:=@Nat.gcd_rec
def Ad1:=@Nat.mul_pos
def Ad2:=@Nat.one_mul
def Ad3:=@Array.size_setIfInBounds
def Ad4:=@Bool.false_or
def Ad5:=@List.all_cons
def Ad6:=@Option.isSome_iff_exists
def Ad7:=@List.filter_cons
def Ad8:=@List.length_drop
def Ad9:=@List.length_eq_zero_iff
def Aea:=@List.not_mem_nil
def Aeb:=@Nat.add_sub_cancel_left
def Aec:=@Nat.mul_div_cancel_left
def Aed:=@Bool.or_comm
def Aee:=@Bool.true_or
def Aef:=@Int.le_of_lt
def Aeg:=@Nat.beq_eq
def Aeh:=@Nat.le_of_lt
def Aei:=@List.foldl_cons
def Aej:=@Option.some.inj
def Aek:=@Rat.le_antisymm
def Ael:=@Array.getElem?_toList
def Aem:=@List.getElem_set_self
def Aen:=@List.length_filter_le
def Aeo:=@List.length_mergeSort
def Aep:=@List.set_append_right
def Aeq:=@List.drop_drop
def Aer:=@List.getElem?_zipIdx
def Aes:=@List.mapM_cons
def Aet:=@List.mem_of_getElem?
def Aeu:=@List.nodup_nil
def Aev:=@List.replicate_succ'
def Aew:=@List.take_take
def Aex:=@List.drop_set_of_lt
def Aey:=@List.getElem_of_mem
def Aez:=@List.mem_map_of_mem
def Ae0:=@Rat.mkRat_mul_mkRat
def Ae1:=@List.map_take
def Ae2:=@Prod.mk.injEq
def Ae3:=@Rat.den_mkRat
def Ae4:=@Rat.mul_assoc
def Ae5:=@Rat.num_mkRat
def Ae6:=@Int.lt_tmod_of_pos
def Ae7:=@List.map_replicate
def Ae8:=@List.mem_cons_self
def Ae9:=@Nat.add_sub_cancel
def Afa:=@Rat.div_mul_cancel
def Afd:=@Nat.succ_mul
def Afe:=@Rat.le_total
def Aff:=@Rat.le_trans
def Afg:=@Rat.ne_of_gt
def Afr:=@Nat.div_one
def Afs:=@Nat.or_comm
def Aft:=@Nat.pow_mul
end Gx
namespace Gx.Uo
abbrev F1:=Rat->Rat
def Conc(f:F1)(a b:Rat):Prop:=∀ x z s,a<=x->x<=b->a<=z->z<=b->0<=s->s<=1->(1 - s)*f x+s*f z<=f ((1 - s)*x+s*z)
def Lin(f:F1)(a b:Rat):Prop:=∃ m q:Rat,∀ x,a<=x->x<=b->f x=m*x+q
def ml{a b c:Rat}(h:a<=b)(hc:0<=c):c*a<=c*b:=Rat.mul_le_mul_of_nonneg_left h hc
def pJ{a b c d s:Rat}(h:a<=b)(h':c<=d)(k:0<=s)(C:s<=1):(1 - s)*a+s*c<=(1 - s)*b+s*d:=by
 have:=ml h (show 0<=1 - s by grind)
 have:=ml h' k
 grind
def Conc.add{f g:F1}{a b:Rat}(T:Conc f a b)(Y:Conc g a b):Conc (fun x=>f x+g x) a b:=fun x z s k C D G I L=>by
 have:=T x z s k C D G I L
 have:=Y x z s k C D G I L
 grind
def Conc.lin(m q a b:Rat):Conc (fun x=>m*x+q) a b:=fun x z s k C D G I L=>by grind
def Conc.smul{f:F1}{a b w:Rat}(k:0<=w)(C:Conc f a b):Conc (fun x=>w*f x) a b:=fun x z s D G I L T Y=>by
 have:=ml (C x z s D G I L T Y) k
 grind
def Conc.sub{f:F1}{a b c d:Rat}(k:Conc f a b)(D:a<=c)(G:d<=b):Conc f c d:=fun x z s I L T Y k5 C=>k x z s (by grind) (by grind) (by grind) (by grind) k5 C
def Conc.mn{f g:F1}{a b:Rat}(T:Conc f a b)(Y:Conc g a b):Conc (fun x=>if f x<=g x then f x else g x) a b:=fun x z s D G I L k C=>by
 have k1:=T x z s D G I L k C
 have k2:=Y x z s D G I L k C
 have k3:=pJ (show(if f x<=g x then f x else g x)<=f x by grind) (show(if f z<=g z then f z else g z)<=f z by grind) k C
 have k4:=pJ (show(if f x<=g x then f x else g x)<=g x by grind) (show(if f z<=g z then f z else g z)<=g z by grind) k C
 show _<=(if f ((1 - s)*x+s*z)<=g ((1 - s)*x+s*z)then f ((1 - s)*x+s*z)else g ((1 - s)*x+s*z))
 split<;>grind
def mI{a x b:Rat}(D:a<=x)(G:x<=b)(h:a<b):∃ s,0<=s/\s<=1/\x=(1 - s)*a+s*b:=by
 have C:0<b - a:=by grind
 have k:b - a≠0:=by grind
 have e:(x - a)/(b - a)*(b - a)=x - a:=Afa k
 refine⟨(x - a)/(b - a),?_,?_,by grind⟩
 ·refine Adt (c:=b - a) ?_ C;grind
 ·refine Adt (c:=b - a) ?_ C;grind
def Conc.fall{f:F1}{a b k x y:Rat}(D:Conc f a b)(G:a<=k)(I:∀ t,a<=t->t<=b->f t<=f k)(L:k<=x)(T:x<=y)(C:y<=b):f y<=f x:=by
 by_cases h:k<y
 ·obtain⟨s,Y,s1,rfl⟩:=mI L T h
  have:=D k y s G (by grind) (by grind) C Y s1
  have:=ml (I y (by grind) C) (show 0<=1 - s by grind)
  grind
 ·have:x=y:=by grind
  subst this;grind
def Conc.rise{f:F1}{a b k x y:Rat}(G:Conc f a b)(I:k<=b)(L:∀ t,a<=t->t<=b->f t<=f k)(C:a<=y)(T:y<=x)(Y:x<=k):f y<=f x:=by
 by_cases h:y<k
 ·obtain⟨s,D,s1,rfl⟩:=mI T Y h
  have:=G y k s C (by grind) (by grind) I D s1
  have:=ml (L y C (by grind)) D
  grind
 ·have:x=y:=by grind
  subst this;grind
def mn(a b:Rat):Rat:=if a<=b then a else b
def mx(a b:Rat):Rat:=if a<=b then b else a
def kR{f:F1}{a b z lo hi:Rat}(C:Conc f a b)(D:a<=z)(G:z<=b)(k:∀ t,a<=t->t<=b->f t<=f z)(I:a<=lo)(hh:hi<=b){y:Rat}(y1:lo<=y)(y2:y<=hi):f y<=f (mn (mx z lo) hi):=by
 by_cases h:z<=lo
 ·have e:mn (mx z lo) hi=lo:=by unfold mn mx;grind
  rw[e];exact C.fall D k h y1 (by grind)
 ·by_cases L:z<=hi
  ·have e:mn (mx z lo) hi=z:=by unfold mn mx;grind
   rw[e];exact k y (by grind) (by grind)
  ·have e:mn (mx z lo) hi=hi:=by unfold mn mx;grind
   rw[e];exact C.rise G k (by grind) y2 (by grind)
abbrev Fv:=List (Int×Rat)
structure Cv(f:F1)(L:Fv):Prop where
 ne:0<L.length
 val:∀ i (h:i<L.length),f L[i].1=L[i].2
 lt:∀ i (h:i+1<L.length),L[i].1<L[i+1].1
 lin:∀ i (h:i+1<L.length),Lin f L[i].1 L[i+1].1
def Cv.piece{f:F1}{L:Fv}(c:Cv f L){x:Rat}(C:(L[0]'(c.ne)).1<=x):∀ j (k:j<L.length),x<=L[j].1->(∃ i,∃ h:i+1<L.length,L[i].1<=x/\x<=L[i+1].1)\/x=(L[0]'(c.ne)).1
|0,_,h=>.inr (by grind)
|j+1,k,h=>by
  by_cases D:x<=L[j].1
  ·exact c.piece C j (by omega) D
  ·exact .inl ⟨j,k,by grind,h⟩
def Cv.mono{f:F1}{L:Fv}(c:Cv f L):∀ j i (hi:i<=j) (k:j<L.length),L[i].1<=L[j].1
|0,i,hi,k=>by
  have:i=0:=by omega
  subst this;exact Ab4 _
|j+1,i,hi,k=>by
  have:=c.lt j k
  by_cases h:i=j+1
  ·subst h;exact Ab4 _
  ·have:=c.mono j i (by omega) (by omega);omega
def Lin.sub{f:F1}{a b c d:Rat}(h:Lin f a b)(k:a<=c)(C:d<=b):Lin f c d:=by
 obtain⟨m,q,h⟩:=h
 exact⟨m,q,fun x D G=>h x (by grind) (by grind)⟩
def Cv.between{f:F1}{L:Fv}(c:Cv f L){p q:Rat}(h0:(L[0]'(c.ne)).1<=p)(G:p<=q)(I:q<=(L[L.length - 1]'(by have:=c.ne;omega)).1)(C:∀ e∈L,(e.1:Rat)<=p\/q<=e.1):Lin f p q:=by
 have T:=c.ne
 by_cases e:p=q
 ·subst e
  refine⟨0,f p,fun x Y D=>?_⟩
  have:x=p:=by grind
  subst this;grind
 have hlt:p<q:=by grind
 rcases c.piece (x:=q) (by grind) (L.length - 1) (by omega) I with⟨i,hi,Y,D⟩|k
 ·by_cases k3:(L[i].1:Rat)<=p
  ·exact(c.lin i hi).sub k3 D
  ·
   have k4:(L[i].1:Rat)=q:=by rcases C _ (zQ (show i<L.length by omega))with h|h<;>grind
   cases i with
   |zero=>grind
   | succ i =>
    refine(c.lin i (by omega)).sub ?_ (by grind)
    have k5:=c.lt i (by omega)
    rcases C _ (zQ (show i<L.length by omega))with h|h
    ·exact h
    ·have:((L[i].1:Int):Rat)<(L[i+1].1:Rat):=Aby.2 k5
     grind
 ·grind
def Cv.most{f:F1}{L:Fv}(c:Cv f L){s M:Rat}(hM:∀ e∈L,e.2+s*e.1<=M){x:Rat}(T:(L[0]'(c.ne)).1<=x)(Y:x<=(L[L.length - 1]'(by have:=c.ne;omega)).1):f x+s*x<=M:=by
 have C:=c.ne
 rcases c.piece T (L.length - 1) (by omega) Y with⟨i,hi,G,I⟩|k
 ·obtain⟨m,q,D⟩:=c.lin i hi
  have k5:((L[i].1:Int):Rat)<=(L[i+1].1:Rat):=Aai.2 (Aef (c.lt i hi))
  have e1:=hM _ (zQ (show i<L.length by omega))
  have e2:=hM _ (zQ hi)
  rw[<-c.val i (by omega),D _ (by grind) k5]at e1
  rw[<-c.val (i+1) hi,D _ k5 (by grind)]at e2
  rw[D x G I]
  rcases(Afe (a:=0) (b:=m+s))with h|h
  ·have:=ml I h;grind
  ·have:=ml G (show 0<=-(m+s) by grind);grind
 ·have e1:=hM _ (zQ C)
  rw[<-c.val 0 C]at e1
  grind
def Pc(K B:Rat->Prop)(p q:Rat)(f:F1):Prop:=(∃ k,K k/\∀ x,p<=x->x<=q->f x=k)\/(∃ b,B b/\∀ x,p<=x->x<=q->f x=x+b)
def pM(K B:Rat->Prop)(p q:Rat):Prop:=∀ k b,K k->B b->k - b<=p\/q<=k - b
def Pc.congr{K B:Rat->Prop}{p q:Rat}{f h:F1}(L:Pc K B p q f)(e:∀ x,p<=x->x<=q->h x=f x):Pc K B p q h:=L.imp (fun ⟨k,G,I⟩=>⟨k,G,fun x C D=>(e x C D).trans (I x C D)⟩) (fun ⟨k,G,I⟩=>⟨k,G,fun x C D=>(e x C D).trans (I x C D)⟩)
def Pc.tot{K B:Rat->Prop}{p q:Rat}{f g:F1}(d:pM K B p q)(hf:Pc K B p q f)(hg:Pc K B p q g):(∀ x,p<=x->x<=q->f x<=g x)\/(∀ x,p<=x->x<=q->g x<=f x):=by
 rcases hf with⟨k,k1,L⟩|⟨b,b1,b2⟩<;>rcases hg with⟨k',T,G⟩|⟨b',Y,I⟩
 ·exact(Afe (a:=k) (b:=k')).imp (fun e x C D=>by rw[L x C D,G x C D];exact e) (fun e x C D=>by rw[L x C D,G x C D];exact e)
 ·exact(d k b' k1 Y).imp (fun e x C D=>by rw[L x C D,I x C D];grind) (fun e x C D=>by rw[L x C D,I x C D];grind)
 ·exact(d k' b T b1).symm.imp (fun e x C D=>by rw[b2 x C D,G x C D];grind) (fun e x C D=>by rw[b2 x C D,G x C D];grind)
 ·exact(Afe (a:=b) (b:=b')).imp (fun e x C D=>by rw[b2 x C D,I x C D];grind) (fun e x C D=>by rw[b2 x C D,I x C D];grind)
def Pc.mn{K B:Rat->Prop}{p q:Rat}{f g:F1}(d:pM K B p q)(D:Pc K B p q f)(G:Pc K B p q g):Pc K B p q (fun x=>mn (f x) (g x)):=by
 rcases Pc.tot d D G with h|h
 ·exact D.congr fun x k C=>by have:=h x k C;unfold Uo.mn;grind
 ·exact G.congr fun x k C=>by have:=h x k C;unfold Uo.mn;grind
def Pc.mx{K B:Rat->Prop}{p q:Rat}{f g:F1}(d:pM K B p q)(D:Pc K B p q f)(G:Pc K B p q g):Pc K B p q (fun x=>mx (f x) (g x)):=by
 rcases Pc.tot d D G with h|h
 ·exact G.congr fun x k C=>by have:=h x k C;unfold Uo.mx;grind
 ·exact D.congr fun x k C=>by have:=h x k C;unfold Uo.mx;grind
def Pc.lin{K B:Rat->Prop}{p q:Rat}{f:F1}(G:Pc K B p q f):Lin f p q:=by
 rcases G with⟨k,_,h⟩|⟨b,_,h⟩
 ·exact⟨0,k,fun x C D=>by rw[h x C D];grind⟩
 ·exact⟨1,b,fun x C D=>by rw[h x C D];grind⟩
def Lin.add{f g:F1}{a b:Rat}(D:Lin f a b)(G:Lin g a b):Lin (fun x=>f x+g x) a b:=by
 obtain⟨m,q,h⟩:=D;obtain⟨I,L,h'⟩:=G
 exact⟨m+I,q+L,fun x k C=>by show f x+g x=_;rw[h x k C,h' x k C];grind⟩
def Lin.smul{f:F1}{a b:Rat}(w:Rat)(k:Lin f a b):Lin (fun x=>w*f x) a b:=by
 obtain⟨m,q,h⟩:=k
 exact⟨w*m,w*q,fun x C D=>by show w*f x=_;rw[h x C D];grind⟩
def Lin.of(m q a b:Rat):Lin (fun x=>m*x+q) a b:=⟨m,q,fun _ _ _=>rfl⟩
def Lin.congr{f g:F1}{a b:Rat}(h:Lin f a b)(e:∀ x,a<=x->x<=b->g x=f x):Lin g a b:=by
 obtain⟨m,q,h⟩:=h
 exact⟨m,q,fun x k C=>(e x k C).trans (h x k C)⟩
def Cv.comp{f g:F1}{L:Fv}(c:Cv f L){K B:Rat->Prop}{p q:Rat}(C:p<=q)(d:pM K B p q)(hK:∀ e∈L,K e.1)(T:Pc K B p q g)(I:∀ x,p<=x->x<=q->(L[0]'(c.ne)).1<=g x/\g x<=(L[L.length - 1]'(by have:=c.ne;omega)).1):Lin (fun x=>f (g x)) p q:=by
 rcases T with⟨k,_,h⟩|⟨b,Y,h⟩
 ·exact⟨0,f k,fun x D G=>by show f (g x)=_;rw[h x D G];grind⟩
 ·obtain⟨m,t,hl⟩:=c.between (p:=p+b) (q:=q+b) (by rw[<-h p (by grind) C];exact(I p (by grind) C).1) (by grind) (by rw[<-h q C (by grind)];exact(I q C (by grind)).2) fun e he=>by
   rcases d e.1 b (hK e he) Y with D|D<;>grind
  exact⟨m,m*b+t,fun x D G=>by show f (g x)=_;rw[h x D G,hl (x+b) (by grind) (by grind)];grind⟩
structure Stp where
 fst:Rat
 lst:Rat
 pln:Rat
 pay:Rat
 ru:Rat
 rd:Rat
 rs:Rat
 mx:Rat
def Stp.T(s:Stp)(x:Rat):Rat:=mn (x+(s.rs - s.ru)) (s.mx - s.ru)
def Stp.bef(s:Stp)(x:Rat):Rat:=mn (Uo.mx (mn (Uo.mx (s.T x) s.pln) s.pay) (Uo.mx s.fst (x+-s.ru))) (mn s.lst (x+s.rd))
def Stp.G(s:Stp)(c:F1)(w x:Rat):Rat:=c (s.bef x)+w*(mn (s.T x) (s.bef x)+(-1*x+s.ru))
structure Stp.Ok(s:Stp)(c:F1)(w:Rat):Prop where
 conc:Conc c s.fst s.lst
 w0:0<=w
 p0:s.fst<=s.pln/\s.pln<=s.lst
 p1:∀ y,s.fst<=y->y<=s.lst->c y<=c s.pln
 q0:s.fst<=s.pay/\s.pay<=s.lst
 q1:∀ y,s.fst<=y->y<=s.lst->c y+w*y<=c s.pay+w*s.pay
 ru0:0<=s.ru
 rd0:0<=s.rd
 rs0:0<=s.rs
def Conc.congr{f g:F1}{a b:Rat}(h:Conc f a b)(e:∀ x,g x=f x):Conc g a b:=fun x z s k C D G I L=>by rw[e,e,e];exact h x z s k C D G I L
def Stp.Ok.phi{s:Stp}{c:F1}{w:Rat}(k:s.Ok c w)(t:Rat):Conc (fun y=>c y+w*mn t y) s.fst s.lst:=k.conc.add (Conc.smul k.w0 (Conc.congr ((Conc.lin 0 t s.fst s.lst).mn (Conc.lin 1 0 s.fst s.lst)) fun x=>by unfold Uo.mn;grind))
def Stp.Ok.top{s:Stp}{c:F1}{w:Rat}(k:s.Ok c w)(t:Rat){y:Rat}(G:s.fst<=y)(I:y<=s.lst):c y+w*mn t y<=c (mn (Uo.mx t s.pln) s.pay)+w*mn t (mn (Uo.mx t s.pln) s.pay):=by
 have hp:=k.p1 y G I;have hq:=k.q1 y G I
 have T:=k.p1 s.pay k.q0.1 k.q0.2;have Y:=k.q1 s.pln k.p0.1 k.p0.2
 have m1:w*mn t y<=w*t:=ml (by unfold mn;grind) k.w0
 have m2:w*mn t y<=w*y:=ml (by unfold mn;grind) k.w0
 by_cases D:s.pay<=Uo.mx t s.pln
 ·have e:mn (Uo.mx t s.pln) s.pay=s.pay:=by unfold mn;grind
  rw[e]
  by_cases ht:s.pay<=t
  ·have C:mn t s.pay=s.pay:=by unfold mn;grind
   rw[C];grind
  ·have C:mn t s.pay=t:=by unfold mn;grind
   have L:s.pay<=s.pln:=by revert D;unfold Uo.mx;grind
   have:=ml L k.w0
   rw[C];grind
 ·by_cases ht:t<=s.pln
  ·have e:mn (Uo.mx t s.pln) s.pay=s.pln:=by revert D;unfold mn Uo.mx;grind
   have C:mn t s.pln=t:=by unfold mn;grind
   rw[e,C];grind
  ·have e:mn (Uo.mx t s.pln) s.pay=t:=by revert D;unfold mn Uo.mx;grind
   have C:mn t t=t:=by unfold mn;grind
   have L:t<s.pay:=by revert D;unfold Uo.mx;grind
   have:=k.p0;have:=k.q0
   rw[e,C]
   by_cases hy:t<=y
   ·have:=k.conc.fall k.p0.1 k.p1 (show s.pln<=t by grind) hy I
    grind
   ·have:=(Conc.add k.conc (Conc.smul k.w0 (Conc.lin 1 0 s.fst s.lst))).rise (k:=s.pay) k.q0.2 (fun t' a b=>by show c t'+w*(1*t'+0)<=c s.pay+w*(1*s.pay+0);have:=k.q1 t' a b;grind) G (show y<=t by grind) (by grind)
    have this:c y+w*(1*y+0)<=c t+w*(1*t+0):=this
    grind
def Stp.dom(s:Stp)(x:Rat):Prop:=s.fst - s.rd<=x/\x<=s.lst+s.ru/\x<=s.mx
def Stp.Ok.befR{s:Stp}{c:F1}{w:Rat}(k:s.Ok c w){x:Rat}(C:s.dom x):s.fst<=s.bef x/\s.bef x<=s.lst/\x - s.ru<=s.bef x/\s.bef x<=x+s.rd:=by
 obtain⟨a,b,e⟩:=C
 have:=k.ru0;have:=k.rd0;have D:=k.p0;have G:=k.q0
 unfold Stp.bef
 generalize mn (Uo.mx (s.T x) s.pln) s.pay=z
 unfold mn Uo.mx;grind
def Stp.Ok.best{s:Stp}{c:F1}{w:Rat}(k:s.Ok c w){x y r:Rat}(L:s.dom x)(y1:s.fst<=y)(y2:y<=s.lst)(y3:x - s.ru<=y)(y4:y<=x+s.rd)(r1:r<=s.rs)(r2:x+r<=s.mx)(r3:x+r<=y+s.ru):c y+w*r<=s.G c w x:=by
 have Y:=k.p0;have h1:=k.q0
 have C:s.fst<=mn (Uo.mx (s.T x) s.pln) s.pay/\mn (Uo.mx (s.T x) s.pln) s.pay<=s.lst:=by unfold mn Uo.mx;grind
 have D:=kR (k.phi (s.T x)) C.1 C.2 (fun t a b=>k.top (s.T x) a b) (lo:=Uo.mx s.fst (x+-s.ru)) (hi:=mn s.lst (x+s.rd)) (by unfold Uo.mx;grind) (by unfold mn;grind) (y:=y) (by unfold Uo.mx;grind) (by unfold mn;grind)
 have I:r<=mn (s.T x) y+(-1*x+s.ru):=by unfold Stp.T mn;grind
 have:=ml I k.w0
 have D:c y+w*mn (s.T x) y<=c (s.bef x)+w*mn (s.T x) (s.bef x):=D
 unfold Stp.G;grind
def Stp.Ok.res{s:Stp}{c:F1}{w:Rat}(k:s.Ok c w){x:Rat}(C:s.dom x):0<=mn (s.T x) (s.bef x)+(-1*x+s.ru)/\mn (s.T x) (s.bef x)+(-1*x+s.ru)<=s.rs/\x+(mn (s.T x) (s.bef x)+(-1*x+s.ru))<=s.mx/\x+(mn (s.T x) (s.bef x)+(-1*x+s.ru))<=s.bef x+s.ru:=by
 have D:=k.befR C
 have G:=k.rs0;have I:=C.2.2
 generalize s.bef x=y at *
 unfold Stp.T mn;grind
def Stp.Ok.conc'{s:Stp}{c:F1}{w:Rat}(k:s.Ok c w){lo hi:Rat}(h:∀ x,lo<=x->x<=hi->s.dom x):Conc (s.G c w) lo hi:=fun x z t L Y h3 h4 C D=>by
 have dx:=h x L Y;have dz:=h z h3 h4
 have dm:s.dom ((1 - t)*x+t*z):=by
  have a1:=pJ dx.1 dz.1 C D;have a2:=pJ dx.2.1 dz.2.1 C D;have a3:=pJ dx.2.2 dz.2.2 C D
  exact⟨by grind,by grind,by grind⟩
 obtain⟨b1,b2,b3,b4⟩:=k.befR dx;obtain⟨e1,I,e3,e4⟩:=k.befR dz
 obtain⟨f1,f2,f3,f4⟩:=k.res dx;obtain⟨g1,g2,g3,g4⟩:=k.res dz
 have kc:=k.conc _ _ t b1 b2 e1 I C D
 have H:=k.best (y:=(1 - t)*s.bef x+t*s.bef z) (r:=(1 - t)*(mn (s.T x) (s.bef x)+(-1*x+s.ru))+t*(mn (s.T z) (s.bef z)+(-1*z+s.ru))) dm (by have:=pJ b1 e1 C D;grind) (by have:=pJ b2 I C D;grind) (by have:=pJ b3 e3 C D;grind) (by have:=pJ b4 e4 C D;grind) (by have:=pJ f2 g2 C D;grind) (by have:=pJ f3 g3 C D;grind) (by have:=pJ f4 g4 C D;grind)
 refine Aff ?_ H
 unfold Stp.G
 grind
def Stp.Ok.lin{s:Stp}{c:F1}{w:Rat}(k:s.Ok c w){L:Fv}(v:Cv c L)(hf:s.fst=(L[0]'(v.ne)).1)(hl:s.lst=(L[L.length - 1]'(by have:=v.ne;omega)).1)(hp:∃ e∈L,s.pln=e.1)(hq:∃ e∈L,s.pay=e.1){p q:Rat}(C:p<=q)(hd:∀ x,p<=x->x<=q->s.dom x)
  (cand:∀ t,(t=s.mx - s.rs\/t=s.mx - s.ru - s.rd\/∃ e∈L,t=e.1 - s.rd\/t=e.1+s.ru\/t=e.1+s.ru - s.rs)->t<=p\/q<=t):Lin (s.G c w) p q:=by
 have I:=v.ne
 have d:pM (fun x=>x=s.mx - s.ru\/∃ e∈L,x=e.1) (fun b=>b=-s.ru\/b=s.rd\/b=s.rs - s.ru) p q:=fun x b hx hb=>by
  rcases hx with rfl|⟨e,D,rfl⟩<;>rcases hb with rfl|rfl|rfl
  ·right;have:=(hd q C (by grind)).2.2;grind
  ·exact cand _ (.inr (.inl rfl))
  ·rcases cand _ (.inl rfl)with h|h<;>grind
  ·rcases cand (e.1+s.ru) (.inr (.inr ⟨e,D,.inr (.inl rfl)⟩))with h|h<;>grind
  ·exact cand _ (.inr (.inr ⟨e,D,.inl rfl⟩))
  ·rcases cand (e.1+s.ru - s.rs) (.inr (.inr ⟨e,D,.inr (.inr rfl)⟩))with h|h<;>grind
 obtain⟨ep,Y,ep1⟩:=hp;obtain⟨eq,heq,eq1⟩:=hq
 have c1:Pc (fun x=>x=s.mx - s.ru\/∃ e∈L,x=e.1) (fun b=>b=-s.ru\/b=s.rd\/b=s.rs - s.ru) p q s.T :=
  Pc.mn d (.inr ⟨s.rs - s.ru,.inr (.inr rfl),fun _ _ _=>rfl⟩) (.inl ⟨s.mx - s.ru,.inl rfl,fun _ _ _=>rfl⟩)
 have ck:∀ z:Rat,(∃ e∈L,z=e.1)->Pc (fun x=>x=s.mx - s.ru\/∃ e∈L,x=e.1) (fun b=>b=-s.ru\/b=s.rd\/b=s.rs - s.ru) p q (fun _=>z):=fun z hz=>.inl ⟨z,.inr hz,fun _ _ _=>rfl⟩
 have c2:Pc (fun x=>x=s.mx - s.ru\/∃ e∈L,x=e.1) (fun b=>b=-s.ru\/b=s.rd\/b=s.rs - s.ru) p q s.bef :=
  Pc.mn d (Pc.mx d (Pc.mn d (Pc.mx d c1 (ck _ ⟨ep,Y,ep1⟩)) (ck _ ⟨eq,heq,eq1⟩)) (Pc.mx d (ck _ ⟨_,zQ I,hf⟩) (.inr ⟨_,.inl rfl,fun _ _ _=>rfl⟩)))
   (Pc.mn d (ck _ ⟨_,zQ (by omega),hl⟩) (.inr ⟨_,.inr (.inl rfl),fun _ _ _=>rfl⟩))
 exact(v.comp C d (fun e D=>.inr ⟨e,D,rfl⟩) c2 fun x h1 h2=>by have:=k.befR (hd x h1 h2);rw[<-hf,<-hl];exact⟨this.1,this.2.1⟩).add (Lin.smul w ((Pc.mn d c1 c2).lin.add (Lin.of (-1) s.ru p q)))
def Lin.join{f:F1}{a b c:Rat}(k:Lin f a b)(C:Lin f b c)(G:a<b)(I:b<c)(e:(f b - f a)*(c - b)=(f c - f b)*(b - a)):Lin f a c:=by
 obtain⟨m,q,k⟩:=k;obtain⟨D,q',C⟩:=C
 have e1:=k a (by grind) (by grind);have e2:=k b (by grind) (by grind);have e3:=C b (by grind) (by grind);have e4:=C c (by grind) (by grind)
 have em:m=D:=by
  have:(b - a)*((c - b)*(m - D))=0:=by grind
  rcases Rat.mul_eq_zero.1 this with h|h
  ·grind
  ·rcases Rat.mul_eq_zero.1 h with h|h<;>grind
 subst em
 refine⟨m,q,fun x L T=>?_⟩
 by_cases Y:x<=b
 ·exact k x L Y
 ·rw[C x (by grind) T];grind
def kS(L:Fv)(x:Int)(v:Rat):Bool:=if h:2<=L.length then(L[L.length - 1].2 - L[L.length - 2].2)*(x - L[L.length - 1].1)==(v - L[L.length - 1].2)*(L[L.length - 1].1 - L[L.length - 2].1)else false
def W9(L:Fv)(x:Int)(v:Rat):Fv:=(if kS L x v then L.take (L.length - 1)else L)++[(x,v)]
def TY{a b:Int}(h:a<b):(a:Rat)<b:=Aby.2 h
def Bv{a b:Int}(h:a<=b):(a:Rat)<=b:=Aai.2 h
def Cv.one(f:F1)(x:Int):Cv f [(x,f x)]:=⟨by simp,fun i h=>by simp,fun i h=>by simp at h,fun i h=>by simp at h⟩
def Cv.snoc{f:F1}{L:Fv}(c:Cv f L){x:Int}(k:(L[L.length - 1]'(by have:=c.ne;omega)).1<x)(C:Lin f (L[L.length - 1]'(by have:=c.ne;omega)).1 x):Cv f (L++[(x,f x)]):=by
 have D:=c.ne
 refine⟨by simp,fun i h=>?_,fun i h=>?_,fun i h=>?_⟩
 ·by_cases hi:i<L.length
  ·rw[za hi];exact c.val i hi
  ·have:i=L.length:=by simp at h;omega
   subst this;simp
 ·simp at h
  by_cases hi:i+1<L.length
  ·rw[za hi,za (by omega)];exact c.lt i hi
  ·have:i=L.length - 1:=by omega
   subst this;rw[za (by omega),Aa2 (by omega)];simpa using k
 ·simp at h
  by_cases hi:i+1<L.length
  ·rw[za hi,za (by omega)];exact c.lin i hi
  ·have:i=L.length - 1:=by omega
   subst this;rw[za (by omega),Aa2 (by omega)];simpa using C
def Cv.init{f:F1}{L:Fv}(c:Cv f L){n:Nat}(C:0<n):Cv f (L.take n):=by
 have k:=c.ne
 refine⟨by rw[zT];omega,fun i h=>?_,fun i h=>?_,fun i h=>?_⟩<;>rw[zT]at h
 ·rw[Aaz];exact c.val i (by omega)
 ·rw[Aaz,Aaz];exact c.lt i (by omega)
 ·rw[Aaz,Aaz];exact c.lin i (by omega)
structure Upto(f:F1)(L:Fv)(a b:Int):Prop where
 cv:Cv f L
 fst:(L[0]'cv.ne).1=a
 lst:(L[L.length - 1]'(by have:=cv.ne;omega)).1=b
def Upto.add{f:F1}{L:Fv}{a b x:Int}(u:Upto f L a b)(h:b<x)(T:Lin f b x):Upto f (W9 L x (f x)) a x:=by
 obtain⟨c,Y,hb⟩:=u
 have D:=c.ne
 unfold W9
 cases C:kS L x (f x)with
|false =>
  have k:=c.snoc (x:=x) (by omega) (by rw[hb];exact T)
  exact⟨k,by simp only[Aa0,if_false];rw[za D];exact Y,by simp⟩
| true =>
  unfold kS at C
  split at C
  ·rename_i h2
   rw[beq_iff_eq,<-c.val _ (show L.length - 1<L.length by omega),<-c.val _ (show L.length - 2<L.length by omega)]at C
   have G:=c.lt (L.length - 2) (by omega);have I:=c.lin (L.length - 2) (by omega)
   have e1:L.length - 2+1=L.length - 1:=by omega
   simp only[e1]at G I
   rw[hb]at C G I
   have ci:=c.init (n:=L.length - 1) (by omega)
   have hlen:(L.take (L.length - 1)).length=L.length - 1:=by rw[zT];omega
   have el:((L.take (L.length - 1))[(L.take (L.length - 1)).length - 1]'(by omega))=L[L.length - 2]:=by
    rw[Aaz];congr 1;omega
   have k:=ci.snoc (x:=x) (by rw[el];omega) (by rw[el];exact I.join T (TY G) (TY h) C)
   refine⟨k,?_,by simp⟩
   simp only[if_true]
   rw[za (by omega),Aaz];exact Y
  ·cases C
def JE(f:F1)(xs:List Int):Fv:=xs.foldl (fun L x=>W9 L x (f x)) []
def Asc(xs:List Int):Prop:=∀ i (h:i+1<xs.length),xs[i]<xs[i+1]
def hZ{f:F1}{xs:List Int}(C:Asc xs)(D:∀ i (h:i+1<xs.length),Lin f xs[i] xs[i+1]):∀ k (h:k<xs.length),Upto f (JE f (xs.take (k+1))) xs[0] xs[k]
| 0,h=>by
  have e:xs.take 1=[xs[0]]:=by cases xs with
   |nil=>simp at h
   |cons a r=>simp
  rw[e];exact⟨Cv.one f _,rfl,rfl⟩
| k+1,h=>by
  have e:JE f (xs.take (k+1+1))=W9 (JE f (xs.take (k+1))) xs[k+1] (f xs[k+1]):=by
   unfold JE;rw[zu h,List.foldl_append];rfl
  rw[e]
  exact(hZ C D k (by omega)).add (C k h) (D k h)
def tm{f:F1}{xs:List Int}(D:0<xs.length)(k:Asc xs)(C:∀ i (h:i+1<xs.length),Lin f xs[i] xs[i+1]):Upto f (JE f xs) xs[0] xs[xs.length - 1]:=by
 have:=hZ k C (xs.length - 1) (by omega)
 rwa [zF (by omega)]at this
def Asc.lt{xs:List Int}(k:Asc xs):∀ j i (_:i<j) (C:j<xs.length),xs[i]<xs[j]
|0,_,h,_=>absurd h (by omega)
|j+1,i,h,C=>by
  have:=k j C
  by_cases e:i=j
  ·subst e;exact this
  ·have:=k.lt j i (by omega) (by omega);omega
def Asc.gap{xs:List Int}(k:Asc xs){i:Nat}(h:i+1<xs.length){t:Int}(C:t∈xs):t<=xs[i]\/xs[i+1]<=t:=by
 obtain⟨j,D,rfl⟩:=Abg.1 C
 by_cases G:j<=i
 ·left;by_cases e:j=i
  ·subst e;exact Ab4 _
  ·exact Aef (k.lt i j (by omega) (by omega))
 ·right;by_cases e:j=i+1
  ·subst e;exact Ab4 _
  ·exact Aef (k.lt j (i+1) (by omega) D)
structure Grid(lo hi:Int)(cs xs:List Int):Prop where
 asc:Asc xs
 mem:∀ t,t∈xs↔t=lo\/t=hi\/(t∈cs/\lo<t/\t<hi)
def Grid.all{lo hi:Int}{cs xs:List Int}(g:Grid lo hi cs xs)(h:lo<=hi){t:Int}(k:t∈xs):lo<=t/\t<=hi:=by rcases(g.mem t).1 k with rfl|rfl|C<;>omega
def Grid.ends{lo hi:Int}{cs xs:List Int}(g:Grid lo hi cs xs)(h:lo<=hi):∃ k:0<xs.length,xs[0]=lo/\xs[xs.length - 1]=hi:=by
 have m1:=(g.mem lo).2 (.inl rfl);have m2:=(g.mem hi).2 (.inr (.inl rfl))
 have k:0<xs.length:=List.length_pos_of_mem m1
 obtain⟨i,C,e1⟩:=Abg.1 m1
 obtain⟨j,G,D⟩:=Abg.1 m2
 have a1:=(g.all h (zQ k)).1
 have a2:=(g.all h (zQ (show xs.length - 1<xs.length by omega))).2
 refine⟨k,?_,?_⟩
 ·by_cases e:i=0
  ·subst e;exact e1
  ·have:=g.asc.lt i 0 (by omega) C;omega
 ·by_cases e:j=xs.length - 1
  ·subst e;exact D
  ·have:=g.asc.lt (xs.length - 1) j (by omega) (by omega);omega
def Grid.cand{lo hi:Int}{cs xs:List Int}(g:Grid lo hi cs xs)(k:lo<=hi){i:Nat}(h:i+1<xs.length){t:Int}(C:t∈cs):t<=xs[i]\/xs[i+1]<=t:=by
 have a1:=g.all k (zQ (show i<xs.length by omega));have a2:=g.all k (zQ h)
 by_cases D:t<=lo
 ·left;omega
 ·by_cases G:hi<=t
  ·right;omega
  ·exact g.asc.gap h ((g.mem t).2 (.inr (.inr ⟨C,by omega,by omega⟩)))
def Grid.built{f:F1}{lo hi:Int}{cs xs:List Int}(g:Grid lo hi cs xs)(h:lo<=hi)(C:∀ p q:Int,lo<=p->p<=q->q<=hi->(∀ t∈cs,t<=p\/q<=t)->Lin f p q):Upto f (JE f xs) lo hi:=by
 obtain⟨D,e1,G⟩:=g.ends h
 have:=tm (f:=f) D g.asc fun i k=>by
  exact C _ _ (g.all h (zQ _)).1 (Aef (g.asc i k)) (g.all h (zQ _)).2 fun t I=>g.cand h k I
 rwa [e1,G]at this
def Asc.eq:∀{xs ys:List Int},Asc xs->Asc ys->(∀ t,t∈xs↔t∈ys)->xs=ys
|[],[],_,_,_=>rfl
|[],b::r,_,_,h=>absurd ((h b).2 (by simp)) (by simp)
|a::r,[],_,_,h=>absurd ((h a).1 (by simp)) (by simp)
| a::r,b::s,D,G,h=>by
  have l1:∀ t∈r,a<t:=fun t k=>by
   obtain⟨j,I,rfl⟩:=Abg.1 k
   exact D.lt (j+1) 0 (by omega) (by simp;omega)
  have l2:∀ t∈s,b<t:=fun t k=>by
   obtain⟨j,I,rfl⟩:=Abg.1 k
   exact G.lt (j+1) 0 (by omega) (by simp;omega)
  have e:a=b:=by
   have L:a∈b::s:=(h a).1 (by simp)
   have T:b∈a::r:=(h b).2 (by simp)
   rcases zX.1 L with e|e
   ·exact e
   ·rcases zX.1 T with C|C
    ·exact C.symm
    ·have:=l2 _ e;have:=l1 _ C;omega
  subst e
  rw[Asc.eq (xs:=r) (ys:=s) (fun i hi=>D (i+1) (by simp;omega)) (fun i hi=>G (i+1) (by simp;omega)) fun t=>by
   have:=h t;simp only[zX]at this
   constructor
   ·intro k;have:=l1 t k;rcases(h t).1 (by simp[k])|>zX.1 with e|e
    ·omega
    ·exact e
   ·intro k;have:=l2 t k;rcases(h t).2 (by simp[k])|>zX.1 with e|e
    ·omega
    ·exact e]
def E3(a b:Int):Int:=if a<=b then a else b
def Ov(a b:Int):Int:=if a<=b then b else a
def tn(a b:Int):((E3 a b:Int):Rat)=mn a b:=by
 unfold E3 mn
 by_cases h:a<=b
 ·rw[if_pos h,if_pos (Bv h)]
 ·rw[if_neg h,if_neg (fun k=>h (Aai.1 k))]
def wv(a b:Int):((Ov a b:Int):Rat)=mx a b:=by
 unfold Ov mx
 by_cases h:a<=b
 ·rw[if_pos h,if_pos (Bv h)]
 ·rw[if_neg h,if_neg (fun k=>h (Aai.1 k))]
def pk(s:Rat):Fv->Int->Rat->Int
|[],b,_=>b
|(x,v)::r,b,m=>if m<v+s*x then pk s r x (v+s*x)else pk s r b m
def D7(s:Rat):Fv->Int
|[]=>0
|(x,v)::r=>pk s r x (v+s*x)
def pN(s:Rat):∀(L:Fv)(b:Int)(m:Rat),(pk s L b m=b/\∀ e∈L,e.2+s*e.1<=m)\/∃ e∈L,pk s L b m=e.1/\m<=e.2+s*e.1/\∀ e'∈L,e'.2+s*e'.1<=e.2+s*e.1
|[],b,m=>.inl ⟨rfl,by simp⟩
| (x,v)::r,b,m=>by
  rw[pk]
  split
  ·rename_i h
   rcases pN s r x (v+s*x)with⟨k,C⟩|⟨e,D,k,C,G⟩
   ·exact .inr ⟨(x,v),by simp,k,by show m<=v+s*x;grind,Abf.2 ⟨Abj,C⟩⟩
   ·exact .inr ⟨e,by simp[D],k,by grind,Abf.2 ⟨C,G⟩⟩
  ·rename_i h
   rcases pN s r b m with⟨k,C⟩|⟨e,D,k,C,G⟩
   ·exact .inl ⟨k,Abf.2 ⟨by show v+s*x<=m;grind,C⟩⟩
   ·exact .inr ⟨e,by simp[D],k,C,Abf.2 ⟨by show v+s*x<=_;grind,G⟩⟩
def mJ(s:Rat){L:Fv}(h:0<L.length):∃ e∈L,D7 s L=e.1/\∀ e'∈L,e'.2+s*e'.1<=e.2+s*e.1:=by
 match L,h with
|(x,v)::r,_ =>
  rw[D7]
  rcases pN s r x (v+s*x)with⟨k,C⟩|⟨e,D,k,C,G⟩
  ·exact⟨(x,v),by simp,k,Abf.2 ⟨Abj,C⟩⟩
  ·exact⟨e,by simp[D],k,Abf.2 ⟨C,G⟩⟩
structure Un where
 min:Int
 max:Int
 ru:Int
 rd:Int
 sr:Int
 tr:Int
 rs:Int
 nl:Int
 rp:Int
 out:Int
 on:Bool
 C:F1
 cL:Fv
structure Un.Ok(u:Un):Prop where
 b0:0<=u.min/\u.min<=u.max/\u.max<=1048576
 ru0:0<=u.ru/\u.ru<=1048576
 rd0:0<=u.rd/\u.rd<=1048576
 rs0:0<=u.rs/\u.rs<=1048576
 sr0:u.min<=u.sr/\u.sr<=u.max
 tr0:u.min<=u.tr/\u.tr<=u.max
 o0:u.on=true->u.min<=u.out/\u.out<=u.max
 cc:Upto u.C u.cL u.min u.max
 cv:Conc u.C u.min u.max
def Av(u:Un)(b:Rat):Rat:=mx 0 (b - u.rp)
def own(u:Un)(a:Rat):F1:=fun x=>a*x+u.C x - u.nl
def fstP(L:Fv):Int:=(L.headD (0,0)).1
def lstP(L:Fv):Int:=(L.getLastD (0,0)).1
def gz(u:Un)(L:Fv)(w:Rat):Stp:=⟨fstP L,lstP L,D7 0 L,D7 w L,u.ru,u.rd,u.rs,u.max⟩
def ER(lo hi:Int)(cs:List Int):List Int:=((List.range (hi - lo+1).toNat).map fun(i:Nat)=>lo+(i:Int)).filter fun t=>t==lo||t==hi||cs.contains t
def Zi(u:Un)(L:Fv):List Int:=[u.max - u.rs,u.max - u.ru - u.rd]++u.cL.map (·.1)++L.flatMap fun e=>[e.1 - u.rd,e.1+u.ru,e.1+u.ru - u.rs]
def MZ(u:Un)(a b:Rat)(f:F1)(L:Fv):F1:=fun x=>(gz u L (Av u b)).G f (Av u b) x+own u a x
def d6(u:Un)(a b:Rat)(f:F1)(L:Fv):Fv:=JE (MZ u a b f L) (ER (Ov u.min (fstP L - u.rd)) (E3 u.max (lstP L+u.ru)) (Zi u L))
def d7(u:Un)(a b:Rat):F1:=fun x=>own u a x+Av u b*mn u.rs (u.sr - x)
def nS(u:Un)(a b:Rat):Fv:=JE (d7 u a b) (ER u.min u.sr ((u.sr - u.rs)::u.cL.map (·.1)))
def pO{lo hi:Int}{cs:List Int}:Asc (ER lo hi cs):=by
 have h:(ER lo hi cs).Pairwise (·<·):=by
  unfold ER
  refine List.Pairwise.filter _ ?_
  rw[List.pairwise_map]
  exact List.Pairwise.imp (fun h=>by omega) List.pairwise_lt_range
 intro i k
 exact Aag.1 h i (i+1) (by omega) k (by omega)
def d8 {lo hi:Int} {cs:List Int} (h:lo<=hi):Grid lo hi cs (ER lo hi cs):=⟨pO,fun t=>by
 unfold ER
 simp only[Abb,zr,List.mem_range,Bool.or_eq_true,beq_iff_eq,List.contains_iff_mem]
 constructor
 ·rintro⟨⟨i,D,rfl⟩,(k|k)|k⟩
  ·exact .inl k
  ·exact .inr (.inl k)
  ·by_cases e1:(i:Int)=0
   ·left;omega
   ·by_cases C:lo+(i:Int)=hi
    ·exact .inr (.inl C)
    ·exact .inr (.inr ⟨k,by omega,by omega⟩)
 ·rintro(rfl|rfl|⟨k,G,I⟩)
  ·exact⟨⟨0,by omega,by omega⟩,.inl (.inl rfl)⟩
  ·exact⟨⟨(t - lo).toNat,by omega,by omega⟩,.inl (.inr rfl)⟩
  ·exact⟨⟨(t - lo).toNat,by omega,by omega⟩,.inr k⟩⟩
def kT:∀{L:Fv}(h:0<L.length),fstP L=L[0].1
|_::_,_=>rfl
def Upto.fstP{f:F1}{L:Fv}{a b:Int}(u:Upto f L a b):fstP L=a:=(kT u.cv.ne).trans u.fst
def Upto.lstP{f:F1}{L:Fv}{a b:Int}(u:Upto f L a b):lstP L=b:=by
 have:=u.cv.ne;have h:=u.lst
 unfold Uo.lstP
 rw[Acg,Acf,zD (by omega)];exact h
def Upto.pk{f:F1}{L:Fv}{a b:Int}(u:Upto f L a b)(s:Rat):(∃ e∈L,D7 s L=e.1)/\(a<=D7 s L/\D7 s L<=b)/\∀ x:Rat,a<=x->x<=b->f x+s*x<=f (D7 s L)+s*D7 s L:=by
 obtain⟨e,C,k,D⟩:=mJ s u.cv.ne
 obtain⟨i,hi,rfl⟩:=Abg.1 C
 refine⟨⟨_,C,k⟩,?_,fun x G I=>?_⟩
 ·have a1:=u.cv.mono i 0 (by omega) hi;have a2:=u.cv.mono (L.length - 1) i (by omega) (by omega)
  rw[u.fst]at a1;rw[u.lst]at a2;rw[k];exact⟨a1,a2⟩
 ·have:=u.cv.most (s:=s) (M:=L[i].2+s*L[i].1) D (x:=x) (by rw[u.fst];exact G) (by rw[u.lst];exact I)
  rw[k,u.cv.val i hi];exact this
structure Stage(u:Un)(f:F1)(L:Fv)(lo hi:Int):Prop where
 up:Upto f L lo hi
 cc:Conc f lo hi
 l0:u.min<=lo
 l1:lo<=hi
 l2:hi<=u.max
def kU(u:Un)(b:Rat):0<=Av u b:=by unfold Av mx;grind
def Stage.ok{u:Un}{f:F1}{L:Fv}{lo hi:Int}(s:Stage u f L lo hi)(k:u.Ok)(b:Rat):(gz u L (Av u b)).Ok f (Av u b):=by
 have p:=s.up.pk 0;have q:=s.up.pk (Av u b)
 have e1:(gz u L (Av u b)).fst=lo:=congrArg (fun z:Int=>(z:Rat)) s.up.fstP
 have C:(gz u L (Av u b)).lst=hi:=congrArg (fun z:Int=>(z:Rat)) s.up.lstP
 refine⟨by rw[e1,C];exact s.cc,kU u b,?_,?_,?_,?_,Bv k.ru0.1,Bv k.rd0.1,Bv k.rs0.1⟩<;>rw[e1,C]
 ·exact⟨Bv p.2.1.1,Bv p.2.1.2⟩
 ·intro y D G;have:=p.2.2 y D G;show f y<=f (D7 0 L:Int);grind
 ·exact⟨Bv q.2.1.1,Bv q.2.1.2⟩
 ·exact q.2.2
def h_{u:Un}(k:u.Ok)(a:Rat){lo hi:Rat}(C:u.min<=lo)(D:hi<=u.max):Conc (own u a) lo hi:=Conc.congr ((Conc.lin a (-u.nl) lo hi).add (k.cv.sub C D)) fun x=>by unfold own;grind
def mK{u:Un}(k:u.Ok)(a:Rat){p q:Int}(C:u.min<=p)(h:p<=q)(D:q<=u.max)(hc:∀ e∈u.cL,e.1<=p\/q<=e.1):Lin (own u a) p q:=by refine((Lin.of a (-u.nl) p q).add (k.cc.cv.between (by rw[k.cc.fst];exact Bv C) (Bv h) (by rw[k.cc.lst];exact Bv D) fun e G=>(hc e G).imp Bv Bv)).congr fun x _ _=>by unfold own;grind
def M_{u:Un}(k:u.Ok)(a b:Rat){f:F1}{L:Fv}{lo hi:Int}(s:Stage u f L lo hi):Stage u (MZ u a b f L) (d6 u a b f L) (Ov u.min (lo - u.rd)) (E3 u.max (hi+u.ru)):=by
 have ko:=s.ok k b
 have T:=s.l0;have Y:=s.l1;have h2:=s.l2;have h3:=k.b0;have h4:=k.ru0;have h5:=k.rd0
 have e1:fstP L=lo:=s.up.fstP
 have D:lstP L=hi:=s.up.lstP
 have l0:u.min<=Ov u.min (lo - u.rd)/\lo - u.rd<=Ov u.min (lo - u.rd):=by unfold Ov;split<;>omega
 have l1:Ov u.min (lo - u.rd)<=E3 u.max (hi+u.ru):=by unfold Ov E3;split<;>split<;>omega
 have l2:E3 u.max (hi+u.ru)<=u.max/\E3 u.max (hi+u.ru)<=hi+u.ru:=by unfold E3;split<;>omega
 have dm:∀ x:Rat,(Ov u.min (lo - u.rd):Int)<=x->x<=(E3 u.max (hi+u.ru):Int)->(gz u L (Av u b)).dom x:=fun x x1 x2=>by
  have a1:=Bv l0.2;have a2:=Bv l2.1;have a3:=Bv l2.2
  rw[zc]at a1;rw[Aam]at a3
  refine⟨?_,?_,?_⟩
  ·show((fstP L:Int):Rat) - u.rd<=x;rw[e1];grind
  ·show x<=((lstP L:Int):Rat)+u.ru;rw[D];grind
  ·show x<=(u.max:Rat);grind
 refine⟨?_,?_,l0.1,l1,l2.1⟩
 ·unfold d6;rw[e1,D]
  refine(d8 l1).built l1 fun p q p1 pq G hc=>?_
  refine(ko.lin s.up.cv (congrArg (fun z:Int=>(z:Rat)) (e1.trans s.up.fst.symm)) (congrArg (fun z:Int=>(z:Rat)) (D.trans s.up.lst.symm)) ?_ ?_ (Bv pq) (fun x x1 x2=>dm x (Aff (Bv p1) x1) (Aff x2 (Bv G))) ?_).add (mK k a (by omega) pq (by omega) fun e C=>hc _ (by unfold Zi;simp;exact .inr (.inr (.inl ⟨_,C⟩))))
  ·obtain⟨e,C,h⟩:=(s.up.pk 0).1;exact⟨e,C,congrArg (fun z:Int=>(z:Rat)) h⟩
  ·obtain⟨e,C,h⟩:=(s.up.pk (Av u b)).1;exact⟨e,C,congrArg (fun z:Int=>(z:Rat)) h⟩
  ·have cc:∀ t:Int,t∈Zi u L->(t:Rat)<=p\/(q:Rat)<=t:=fun t I=>(hc t I).imp Bv Bv
   rintro t (rfl|rfl|⟨e,C,rfl|rfl|rfl⟩)
   ·have:=cc (u.max - u.rs) (by simp[Zi]);rwa [zc]at this
   ·have:=cc (u.max - u.ru - u.rd) (by simp[Zi]);rwa [zc,zc]at this
   ·have:=cc (e.1 - u.rd) (by unfold Zi;rw[zP];exact .inr (Ac2.2 ⟨e,C,by simp⟩));rwa [zc]at this
   ·have:=cc (e.1+u.ru) (by unfold Zi;rw[zP];exact .inr (Ac2.2 ⟨e,C,by simp⟩));rwa [Aam]at this
   ·have:=cc (e.1+u.ru - u.rs) (by unfold Zi;rw[zP];exact .inr (Ac2.2 ⟨e,C,by simp⟩));rwa [zc,Aam]at this
 ·exact(ko.conc' dm).add (h_ k a (Bv l0.1) (Bv l2.1))
def nT{u:Un}(k:u.Ok)(a b:Rat):Stage u (d7 u a b) (nS u a b) u.min u.sr:=by
 have G:=k.b0;have C:=k.sr0
 refine⟨?_,?_,Ab4 _,C.1,C.2⟩
 ·refine(d8 C.1).built C.1 fun p q p1 pq I hc=>?_
  refine(mK k a p1 pq (by omega) fun e D=>hc _ (by simp;exact .inr ⟨_,D⟩)).add (Lin.smul _ ?_)
  have hs:u.sr - u.rs<=p\/q<=u.sr - u.rs:=hc _ (by simp)
  rcases hs with h|h
  ·have:=Bv h;rw[zc]at this
   exact(Lin.of (-1) u.sr p q).congr fun x x1 x2=>by unfold mn;grind
  ·have:=Bv h;rw[zc]at this
   exact(Lin.of 0 u.rs p q).congr fun x x1 x2=>by unfold mn;grind
 ·exact(h_ k a Abj (Bv C.2)).add (Conc.smul (kU u b) (Conc.congr ((Conc.lin 0 u.rs _ _).mn (Conc.lin (-1) u.sr _ _)) fun x=>by unfold mn;grind))
end Gx.Uo
namespace Gx.Uo
def pP(u:Un)(x:Int):Int:=E3 (x+u.rs) u.max
def TZ(u:Un)(L:Fv)(w:Rat)(x:Int):Int:=E3 (Ov (E3 (Ov (pP u x - u.ru) (D7 0 L)) (D7 w L)) (Ov (fstP L) (x - u.ru))) (E3 (lstP L) (x+u.rd))
def JF(u:Un)(L:Fv)(w:Rat)(x:Int):Int:=if 0<w then E3 (pP u x) (TZ u L w x+u.ru) - x else 0
def tB{u:Un}{L:Fv}{w:Rat}{x:Int}:((pP u x - u.ru:Int):Rat)=(gz u L w).T x:=by
 unfold pP Stp.T
 rw[zc,tn,Aam]
 show mn ((x:Rat)+u.rs) u.max - u.ru=mn ((x:Rat)+(u.rs - u.ru)) (u.max - u.ru)
 unfold mn;grind
def Xa{u:Un}{L:Fv}{w:Rat}{x:Int}:((TZ u L w x:Int):Rat)=(gz u L w).bef x:=by
 unfold TZ Stp.bef
 rw[tn,wv,tn,wv,wv,tn,tB (L:=L) (w:=w),zc,Aam,Acp (x:Rat)]
 rfl
def sB{u:Un}{L:Fv}{w:Rat}{x:Int}(h:0<w):((JF u L w x:Int):Rat)=mn ((gz u L w).T x) ((gz u L w).bef x)+(-1*x+u.ru):=by
 unfold JF
 rw[if_pos h,zc,tn,Aam,Xa,<-tB,zc]
 unfold mn;grind
structure HourOk(u:Un)(was:Bool)(q p r:Rat):Prop where
 lo:u.min<=p
 r0:0<=r
 r1:r<=u.rs
 hi:p+r<=u.max
 ramp:if was then p+r - q<=u.ru/\q - p<=u.rd else p+r<=u.sr
def sC(u:Un)(a b p r:Rat):Rat:=own u a p+(b - u.rp)*r
def iA{u:Un}{b:Rat}(h:0<Av u b):Av u b=b - u.rp:=by revert h;unfold Av mx;grind
def JG{u:Un}(k:u.Ok){a b:Rat}{f:F1}{L:Fv}{lo hi x:Int}(s:Stage u f L lo hi)(x1:Ov u.min (lo - u.rd)<=x)(x2:x<=E3 u.max (hi+u.ru)):(lo<=TZ u L (Av u b) x/\TZ u L (Av u b) x<=hi)/\HourOk u true (TZ u L (Av u b) x) x (JF u L (Av u b) x)/\f (TZ u L (Av u b) x)+sC u a b x (JF u L (Av u b) x)=MZ u a b f L x:=by
 have ko:=s.ok k b
 have e1:(gz u L (Av u b)).fst=lo:=congrArg (fun z:Int=>(z:Rat)) s.up.fstP
 have e2:(gz u L (Av u b)).lst=hi:=congrArg (fun z:Int=>(z:Rat)) s.up.lstP
 have C:=Bv x1;have D:=Bv x2
 rw[wv,zc]at C;rw[tn,Aam]at D
 have a1:(u.min:Rat)<=x/\(lo:Rat) - u.rd<=x:=by revert C;unfold mx;grind
 have a2:(x:Rat)<=u.max/\(x:Rat)<=hi+u.ru:=by revert D;unfold mn;grind
 have dm:(gz u L (Av u b)).dom x:=⟨by rw[e1];exact a1.2,by rw[e2];exact a2.2,a2.1⟩
 obtain⟨b1,b2,b3,b4⟩:=ko.befR dm
 obtain⟨c1,c2,c3,c4⟩:=ko.res dm
 have b3:(x:Rat) - u.ru<=(gz u L (Av u b)).bef x:=b3
 have b4:(gz u L (Av u b)).bef x<=(x:Rat)+u.rd:=b4
 rw[e1,<-Xa]at b1;rw[e2,<-Xa]at b2;rw[<-Xa]at b3 b4
 refine⟨⟨Aai.1 b1,Aai.1 b2⟩,?_⟩
 have rs0:=Bv k.rs0.1
 by_cases Y:0<Av u b
 ·have er:=sB (u:=u) (L:=L) (x:=x) Y
  have I:((JF u L (Av u b) x:Int):Rat)=mn ((gz u L (Av u b)).T x) ((gz u L (Av u b)).bef x)+(-1*x+(gz u L (Av u b)).ru):=er
  rw[<-I]at c1 c2 c3 c4
  refine⟨⟨a1.1,c1,c2,c3,?_⟩,?_⟩
  ·have c4:(x:Rat)+(JF u L (Av u b) x:Int)<=(gz u L (Av u b)).bef x+u.ru:=c4
   rw[<-Xa]at c4
   simp only[if_true];constructor<;>grind
  ·unfold sC MZ Stp.G
   rw[<-I,Xa,<-iA Y];grind
 ·have hz:Av u b=0:=by have:=kU u b;grind
  have er:JF u L (Av u b) x=0:=by unfold JF;rw[if_neg Y]
  rw[er]
  refine⟨⟨a1.1,Abj,rs0,by grind,?_⟩,?_⟩
  ·simp only[if_true];constructor<;>grind
  ·unfold sC MZ Stp.G
   rw[Xa,hz];grind
def pQ(u:Un)(w:Rat)(x:Int):Int:=if 0<w then E3 u.rs (u.sr - x)else 0
section
variable(u:Un)(a b:Nat->Rat)(fi:Nat)
def Ri:Bool:=fi==0&&u.on
def oL:Fv:=[(u.out,0)]
def runF:Nat->F1×Fv
|0=>if Ri u fi then(MZ u (a fi) (b fi) (fun _=>0) (oL u),d6 u (a fi) (b fi) (fun _=>0) (oL u))else(d7 u (a fi) (b fi),nS u (a fi) (b fi))
|k+1=>(MZ u (a (fi+k+1)) (b (fi+k+1)) (runF k).1 (runF k).2,d6 u (a (fi+k+1)) (b (fi+k+1)) (runF k).1 (runF k).2)
def Bz:Nat->Int
|0=>if Ri u fi then Ov u.min (u.out - u.rd)else u.min
|k+1=>Ov u.min (Bz k - u.rd)
def Dn:Nat->Int
|0=>if Ri u fi then E3 u.max (u.out+u.ru)else u.sr
|k+1=>E3 u.max (Dn k+u.ru)
variable{u}{a b}{fi}
def mL(h:Ri u fi=true):u.on=true:=by unfold Ri at h;simp at h;exact h.2
def T_(k:u.Ok)(h:u.on=true):Stage u (fun _=>0) (oL u) u.out u.out:=⟨⟨Cv.one (fun _=>0) u.out,rfl,rfl⟩,Conc.congr (Conc.lin 0 0 _ _) fun x=>by grind,(k.o0 h).1,Ab4 _,(k.o0 h).2⟩
def Eh(k:u.Ok):∀ n,Stage u (runF u a b fi n).1 (runF u a b fi n).2 (Bz u fi n) (Dn u fi n)
|0=>by
  unfold runF Bz Dn
  cases h:Ri u fi with
  |true=>exact M_ k _ _ (T_ k (mL h))
  |false=>exact nT k _ _
|n+1=>M_ k _ _ (Eh k n)
variable(u)(a b)(fi)
def fP:Nat->Int->Nat->Int
|0,x,_=>x
|n+1,x,i=>if i=n+1 then x else fP n (TZ u (runF u a b fi n).2 (Av u (b (fi+n+1))) x) i
def fR:Nat->Int->Nat->Int
|0,x,_=>if Ri u fi then JF u (oL u) (Av u (b fi)) x else pQ u (Av u (b fi)) x
|n+1,x,i=>if i=n+1 then JF u (runF u a b fi n).2 (Av u (b (fi+n+1))) x else fR n (TZ u (runF u a b fi n).2 (Av u (b (fi+n+1))) x) i
end
end Gx.Uo
namespace Gx.Uo
def Mz(U:Un)(H f n:Nat):Int:=if f+n+1<H then E3 (Dn U f n) U.tr else Dn U f n
def SM(U:Un)(a b:Nat->Rat)(H f n:Nat):Int:=E3 (D7 0 (runF U a b f n).2) (Mz U H f n)
end Gx.Uo
namespace Gx
open Go
inductive AV where
|int (k:IntKind) (n:Int)
|bool (b:Bool)
|str (s:List UInt8)
|nsl
|imm (c:List AV) (len sz:Nat) (tight org:Bool)
|iptr (c:List AV) (org:Bool)
|pagg (c:List AV) (org:Bool)
|own (b off len:Nat)
|optr (b off:Nat)
|agg (c:List AV)
|tup (c:List AV)
|fn (f:Nat) (caps:List AV)
|nilptr
|nilfn
|undef
|omap (b:Nat)
abbrev Ahf(k n:Nat):AV:=.own (300000+k) 0 n
abbrev Ahg:AV:=.int .i64 0
structure Blk where
 dead:Bool
 sealed:Bool
 pure:Bool
 taint:Bool
 sz:Nat
 cells:List AV
 mp:Bool:=false
 ty:Option (Nat×Nat):=none
abbrev LA:=List AV
abbrev O(R:Type):=Option R
abbrev Ap:=List (Nat×Blk)
abbrev Ff:=List (Nat×AV)
def Ah:Ap->Nat->Option Blk
|[],_=>none
|(i,x)::r,b=>cond (beq i b) (some x) (Ah r b)
def D2:Ap->Nat->Blk->Ap
|[],b,y=>[(b,y)]
|(i,x)::r,b,y=>cond (beq i b) ((b,y)::r) (cond (Nat.blt b i) ((b,y)::(i,x)::r) ((i,x)::D2 r b y))
def Es:Ff->Nat->AV
|[],_=>.undef
|(i,x)::r,b=>cond (beq i b) x (Es r b)
def AW:Ff->Nat->AV->Ff
|[],b,y=>[(b,y)]
|(i,x)::r,b,y=>cond (beq i b) ((b,y)::r) (cond (Nat.blt b i) ((b,y)::(i,x)::r) ((i,x)::AW r b y))
structure St where
 s:Ff
 h:Ap
mutual
def M':Value->AV
|.int k n=>.int k n
|.bool b=>.bool b
|.string ⟨⟨s⟩⟩=>.str s
|.slice none 0 0=>.nsl
|.pointer none=>.nilptr
|.nilFunc=>.nilfn
|.agg ⟨cs⟩=>.agg (Hp cs)
|_=>.undef
def Hp:List Value->List AV
|[]=>[]
|v::r=>M' v::Hp r
end
def ev(s:Ff):Operand->AV
|.tmp t=>Es s t
|.const v=>M' v
|.func f=>cond (Nat.blt f 1000000) (.fn f []) .undef
|.global _=>.undef
def A9(P:Program)(t:TypeId):Option Nat:=(P.info? t).map (·.size)
def d9(P:Program)(t:TypeId):Option Nat:=(P.info? t).map (·.bytes)
def mM(P:Program)(t:TypeId):Bool:=((P.info? t).map (·.hasPointers)).getD true
def JH(P:Program)(t:TypeId):Option AV:=((P.info? t).bind (·.zero)).map M'
def Bs:LA->Bool
|[]=>true
|.int ..::r=>Bs r
|.bool _::r=>Bs r
|.str _::r=>Bs r
|.nsl::r=>Bs r
|.nilptr::r=>Bs r
|.nilfn::r=>Bs r
|_=>false
def FG(P:Program)(t:TypeId):Option LA:=(P.info? t).bind fun i=>(i.zero).bind fun v=>cond (Bs (Hp v.cells.toList)&&beq v.cells.toList.length i.size) (some (Hp v.cells.toList)) none
def NA(op:BinOp)(k:IntKind)(a b:Int):Option AV :=
 match op with
|.add=>some (.int k (k.wrap (a+b)))
|.sub=>some (.int k (k.wrap (a - b)))
|.mul=>some (.int k (k.wrap (a*b)))
|.and=>some (.int k (k.wrap ((BitVec.ofInt k.bits a &&& BitVec.ofInt k.bits b).toNat:Int)))
|.or=>some (.int k (k.wrap ((BitVec.ofInt k.bits a ||| BitVec.ofInt k.bits b).toNat:Int)))
|.xor=>some (.int k (k.wrap ((BitVec.ofInt k.bits a ^^^ BitVec.ofInt k.bits b).toNat:Int)))
|.andNot=>some (.int k (k.wrap ((BitVec.ofInt k.bits a &&& ~~~ (BitVec.ofInt k.bits b)).toNat:Int)))
|.eql=>some (.bool (a==b))
|.neq=>some (.bool (a != b))
|.lss=>some (.bool (decide (a<b)))
|.leq=>some (.bool (decide (a<=b)))
|.gtr=>some (.bool (decide (a>b)))
|.geq=>some (.bool (decide (a>=b)))
|_=>none
def G9(k k':IntKind):Bool:=decide (k=k')
def DL(P:Program)(t:TypeId):Bool:=match P.underlying t with|some .bool=>true|_=>false
def nU{R:Type}(P:Program)(t:TypeId)(op:BinOp)(x y:AV)(r:AV->O R):O R :=
 match x,y with
|.int k a,.int k' b =>
  match op with
  |.shl=>cond (decide (b<0)) none (r (.int k (k.wrap (a*2 ^ (min b.toNat k.bits)))))
  |.shr=>cond (decide (b<0)) none (r (.int k (a.fdiv (2 ^ (min b.toNat k.bits)))))
  |.quo=>cond (G9 k k') (cond (b==0) none (r (.int k (k.wrap (a.tdiv b))))) none
  |.rem=>cond (G9 k k') (cond (b==0) none (r (.int k (a.tmod b)))) none
  |op=>cond (G9 k k') ((NA op k a b).bind r) none
|.bool a,.bool b =>
  match op with
  |.eql=>cond (DL P t) (r (.bool (a==b))) none
  |.neq=>cond (DL P t) (r (.bool (!(a==b)))) none
  |_=>none
|.str a,.str b =>
  match op with
  |.add=>cond (ble (a.length+b.length) 140737488355328) (r (.str (a++b))) none
  |.eql=>r (.bool (a==b))
  |.neq=>r (.bool (!(a==b)))
  |.lss=>r (.bool (Op.bytesLess a b))
  |.leq=>r (.bool (Op.bytesLess a b||a==b))
  |.gtr=>r (.bool (!(Op.bytesLess a b||a==b)))
  |.geq=>r (.bool (!Op.bytesLess a b))
  |_=>none
|_,_=>none
def xK(op:UnOp)(x:AV):Option AV :=
 match op,x with
|.neg,.int k n=>some (.int k (k.wrap (0 - n)))
|.xor,.int k n=>NA .xor k (cond k.signed (-1) k.max) n
|.not,.bool b=>some (.bool (!b))
|_,_=>none
def FH(k:IntKind):AV->Option Int
|.int k' n=>cond (G9 k k') (some n) none
|_=>none
def asBool:AV->Option Bool
|.bool b=>some b
|_=>none
def UM:AV->Option Lu
|.str s=>some s
|_=>none
def pR(sz:Nat):AV->Option (LA×Nat)
|.imm c len sz' _ _=>cond (beq sz sz') (some (c,len)) none
|.nsl=>some ([],0)
|_=>none
def pS:AV->Option UInt8
|.int .u8 n=>some (UInt8.ofNat n.toNat)
|_=>none
def JI:LA->Option Lu
|[]=>some []
|x::r=>(pS x).bind fun b=>(JI r).bind fun l=>some (b::l)
def Vs{R:Type}(step:TypeId->LA->LA->(Bool->O R)->O R)(x y:LA):List (Nat×TypeId)->(Bool->O R)->O R
|[],k=>k true
|(off,t)::r,k=>step t (x.drop off) (y.drop off) fun b=>Vs step x y r fun c=>k (b&&c)
def d_(P:Program)(sz:Nat)(f:Field):Bool:=match A9 P f.type with
|some s => ble 1 s && (ble (f.offset + s) sz && !(f.name == "_"))
|none=>false
def SN{R:Type}(P:Program):Nat->TypeId->LA->LA->(Bool->O R)->O R
|0,_,_,_,_=>none
|d+1,t,x,y,k=>match P.underlying t with
  |some (.int kd)=>(x.head?).bind fun u=>(FH kd u).bind fun a=>(y.head?).bind fun v=>(FH kd v).bind fun b=>k (a==b)
  |some .bool=>(x.head?).bind fun u=>(asBool u).bind fun a=>(y.head?).bind fun v=>(asBool v).bind fun b=>k (a==b)
  |some .string=>(x.head?).bind fun u=>(UM u).bind fun a=>(y.head?).bind fun v=>(UM v).bind fun b=>k (a==b)
  |some (.struct fs)=>(A9 P t).bind fun sz=>cond (P.stoodInHeld t||!(fs.toList.all (d_ P sz))) none (Vs (SN P d) x y (fs.toList.map fun f=>(f.offset,f.type)) k)
  |some (.array n e)=>(A9 P e).bind fun s=>(A9 P t).bind fun sz=>cond (ble 1 s&&ble (n*s) sz) (Vs (SN P d) x y ((List.range n).map fun i=>(i*s,e)) k) none
  |_=>none
def eA:AV->Option LA
|.pagg c _=>some c
|.agg c=>some c
|_=>none
def pT(P:Program)(t:TypeId):Bool:=match P.underlying t with|some (.struct _)=>true|some (.array _ _)=>true|_=>false
def bH{R:Type}(P:Program)(t:TypeId)(op:BinOp)(x y:AV)(r:AV->O R):O R :=
 match eA x,eA y with
| some a,some b=>(A9 P t).bind fun s=>cond (ble 1 s&&(beq a.length s&&(beq b.length s&&(pT P t&&!(P.eqGuardType P.depth t)))))
  (match op with
   |.eql=>SN P 8 t a b fun c=>r (.bool c)
   |.neq=>SN P 8 t a b fun c=>r (.bool (!c))
   | _=>none) none
|_,_=>nU P t op x y r
def P3{R:Type}(P:Program)(t:TypeId)(c:LA)(org:Bool)(k:Bool->O R):O R:=cond (mM P t) (k org) (cond (!org||Bs c) (k false) none)
def AX{R:Type}(P:Program)(t:TypeId)(c:LA)(org:Bool)(k:AV->O R):O R :=
 match P.underlying t with
|some (.int kd)=>(c.head?).bind fun x=>(FH kd x).bind fun n=>k (.int kd n)
|some .bool=>(c.head?).bind fun x=>(asBool x).bind fun b=>k (.bool b)
|some .string=>(c.head?).bind fun x=>(UM x).bind fun s=>k (.str s)
|some (.slice e)=>(A9 P e).bind fun sz=>(c.head?).bind fun x=>(pR sz x).bind fun p=>k (.imm p.1 p.2 sz false org)
|some (.struct _)=>(A9 P t).bind fun n=>cond (ble n c.length) (P3 P t (c.take n) org fun o=>k (.pagg (c.take n) o)) none
|some (.array _ _)=>(A9 P t).bind fun n=>cond (ble n c.length) (P3 P t (c.take n) org fun o=>k (.pagg (c.take n) o)) none
|_=>none
def Xb{R:Type}(n:Nat)(k:AV->O R):LA->Nat->O R
|[],_=>none
|v::r,i=>cond (beq n i) (k v) (Xb n k r (i+1))
def P'{R:Type}(P:Program)(t:TypeId)(c:LA)(k:AV->O R):O R :=
 match P.underlying t with
|some (.struct _)=>(A9 P t).bind fun n=>cond (ble n c.length) (k (.agg (c.take n))) none
|some (.array _ _)=>(A9 P t).bind fun n=>cond (ble n c.length) (k (.agg (c.take n))) none
|some _=>(c.head?).bind k
|none=>none
def AY{R:Type}(P:Program)(t:TypeId)(c:LA)(off:Nat)(k:AV->O R):O R :=
 match P.underlying t with
|some (.struct _)=>(A9 P t).bind fun n=>cond (ble n (c.drop off).length) (k (.agg ((c.drop off).take n))) none
|some (.array _ _)=>(A9 P t).bind fun n=>cond (ble n (c.drop off).length) (k (.agg ((c.drop off).take n))) none
|some _=>Xb off k c 0
|none=>none
abbrev A1:=Nat->Option Blk
def Et(g:A1)(b:Nat):Option Blk:=(g b).bind fun x=>cond x.dead none (some x)
def UN{R:Type}(P:Program)(g:A1)(t:TypeId)(p:AV)(k:AV->O R):O R :=
 match p with
|.iptr c org=>AX P t c org k
|.optr b off=>(Et g b).bind fun x=>cond x.pure (AX P t (x.cells.drop off) x.taint k) (AY P t x.cells off k)
|_=>none
def Ab(i:Int)(n:Nat):Bool:=decide (0<=i)&&decide (i<(n:Int))
def M0{R:Type}(P:Program)(t:TypeId)(x i:AV)(k:AV->O R):O R :=
 match P.underlying t,x,i with
|some (.slice el),.imm c len sz _ org,.int _ i=>(A9 P el).bind fun sz'=>cond (beq sz sz') (cond (Ab i len) (k (.iptr (c.drop (i.toNat*sz)) org)) none) none
|some (.slice el),.own b off len,.int _ i=>(A9 P el).bind fun sz=>cond (Ab i len) (k (.optr b (off+i.toNat*sz))) none
|some (.array len el),.iptr c org,.int _ i=>(A9 P el).bind fun sz=>cond (Ab i len) (k (.iptr (c.drop (i.toNat*sz)) org)) none
|some (.array len el),.optr b off,.int _ i=>(A9 P el).bind fun sz=>cond (Ab i len) (k (.optr b (off+i.toNat*sz))) none
|_,_,_=>none
def QA{R:Type}(i:Int)(k:Nat->O R):Nat->Nat->O R
|0,_=>none
|m+1,j=>cond (i==(j:Int)) (k j) (QA i k m (j+1))
def T'(P:Program)(t:TypeId)(f:Nat):Option (Nat×TypeId) :=
 match P.underlying t with
|some (.struct fs)=>(fs[f]?).map fun x=>(x.offset,x.type)
|_=>none
def M1{R:Type}(P:Program)(t:TypeId)(x:AV)(f:Nat)(k:AV->O R):O R :=
 (T' P t f).bind fun p=>(A9 P p.2).bind fun n=>cond (beq n 0) none
 (match x with
|.iptr c org=>k (.iptr (c.drop p.1) org)
|.optr b off=>k (.optr b (off+p.1))
| _=>none)
def NB{R:Type}(P:Program)(t:TypeId)(x:AV)(f:Nat)(k:AV->O R):O R :=
 (T' P t f).bind fun p =>
 match x with
|.pagg c org=>AX P p.2 (c.drop p.1) org k
|.agg c=>P' P p.2 (c.drop p.1) k
|_=>none
def NC{R:Type}(P:Program)(t:TypeId)(x i:AV)(k:AV->O R):O R :=
 match P.underlying t,x,i with
|some .string,.str s,.int _ i=>cond (Ab i s.length) (k (.int .u8 ((s.getD i.toNat 0).toNat:Int))) none
|some (.array len el),.pagg c org,.int _ i=>(A9 P el).bind fun sz=>cond (Ab i len) (AX P el (c.drop (i.toNat*sz)) org k) none
|some (.array len el),.agg c,.int _ i=>(A9 P el).bind fun sz=>cond (Ab i len) (AY P el c (i.toNat*sz) k) none
|_,_,_=>none
def JJ(o:Option AV)(d:Nat):Option Int:=match o with|none=>some (d:Int)|some (.int _ i)=>some i|_=>none
def P4{R:Type}(lo hi mx:Option AV)(n:Nat)(k:Nat->Nat->O R):O R :=
 (JJ lo 0).bind fun l=>(JJ hi n).bind fun h=>(JJ mx n).bind fun m=>cond (mx.isSome&&!hi.isSome) none <|
 cond (decide (0<=l)&&(decide (l<=h)&&(decide (h<=m)&&decide (m<=(n:Int))))) (k l.toNat h.toNat) none
def mN(tight:Bool)(hi mx:Option AV):Bool:=match hi,mx with|none,none=>tight|some (.int _ a),some (.int _ b)=>a==b|_,_=>false
def ND{R:Type}(P:Program)(g:A1)(t:TypeId)(x:AV)(lo hi mx:Option AV)(k:AV->O R):O R :=
 match P.underlying t,x with
|some .string,.str s=>cond mx.isSome none (P4 lo hi none s.length fun l h=>k (.str ((s.drop l).take (h - l))))
|some (.slice el),.nsl=>(A9 P el).bind fun _=>P4 lo hi mx 0 fun _ _=>k .nsl
| some (.slice el),.imm c n sz tight org=>(A9 P el).bind fun sz'=>cond (beq sz sz') (P4 lo hi mx n fun l h =>
   k (.imm ((c.drop (l*sz)).take ((h - l)*sz)) (h - l) sz (mN tight hi mx) org)) none
|some (.slice el),.own b off n=>(A9 P el).bind fun sz=>(Et g b).bind fun y=>cond (beq sz y.sz) (P4 lo hi mx n fun l h=>k (.own b (off+l*sz) (h - l))) none
|some (.array n el),.optr b off=>(A9 P el).bind fun _=>(Et g b).bind fun y=>cond (beq y.sz 0&&(ble (off+n) y.cells.length&&(lo.isNone&&(hi.isNone&&mx.isNone)))) (k (.own b off n)) none
|_,_=>none
def tp(P:Program)(t:TypeId)(x:AV):Option AV :=
 match P.underlying t,x with
|some (.slice _),.nsl=>some (.int .i64 0)
|some (.slice _),.imm _ n _ _ _=>some (.int .i64 n)
|some (.slice _),.own _ _ n=>some (.int .i64 n)
|some .string,.str s=>some (.int .i64 s.length)
|some (.array n _),_=>some (.int .i64 n)
|_,_=>none
def bI(g:A1)(sz:Nat):AV->Option (LA×Nat×Bool)
|.nsl=>some ([],0,false)
|.imm c n sz' _ org=>cond (beq sz sz') (some (c,n,org)) none
|.own b off n=>(Et g b).bind fun x=>cond (x.pure&&beq sz x.sz) (some ((x.cells.drop off).take (n*sz),n,x.taint)) none
|.str s=>cond (beq sz 1) (some (s.map fun b=>.int .u8 (b.toNat:Int),s.length,false)) none
|_=>none
def G'{R:Type}(P:Program)(el:TypeId)(g:A1)(sz:Nat)(x:AV)(k:LA×Nat×Bool->O R):O R:=(bI g sz x).bind fun q=>P3 P el q.1 q.2.2 fun o=>k (q.1,q.2.1,o)
abbrev C5:=List (Nat×Option Blk)
def FI(g:A1):AV->Option (AV×C5×Bool)
|.own b off n=>(Et g b).bind fun x=>cond x.pure (some (.imm ((x.cells.drop off).take (n*x.sz)) n x.sz false x.taint,[(b,some {x with sealed:=true})],x.taint)) none
|.optr ..|.agg _|.tup _|.undef|.fn ..|.omap _=>none
|.imm c n sz t org=>some (.imm c n sz t org,[],org)
|.iptr c org=>some (.iptr c org,[],org)
|.pagg _ _=>none
|v=>some (v,[],false)
def Rj(g:A1):LA->Option (LA×C5×Bool)
|[]=>some ([],[],false)
|v::r=>(FI g v).bind fun p=>(Rj g r).bind fun q=>some (p.1::q.1,p.2.1++q.2.1,p.2.2||q.2.2)
def Qy(g:A1):AV->Option (LA×C5×Bool)
|.pagg c org=>some (c,[],org)
|.agg c=>Rj g c
|v=>Rj g [v]
def D8(c:LA)(off:Nat)(vs:LA):LA:=c.take off++vs++c.drop (off+vs.length)
def Ay:C5->Nat->Bool
|[],_=>false
|(i,_)::r,b=>cond (beq i b) true (Ay r b)
def Vt(g:A1):AV->Bool
|.own b _ _=>(Et g b).isSome
|.optr b _=>(Et g b).isSome
|.agg _=>false
|.pagg _ _=>false
|.tup _=>false
|.undef=>false
|.omap _=>false
|_=>true
def H4(g:A1):LA->Bool
|[]=>true
|v::r=>Vt g v&&H4 g r
def setCells(c:LA)(off:Nat)(vs:LA):LA:=match vs with|[y]=>c.set off y|ys=>D8 c off ys
def eB(P:Program):Nat->TypeId->Nat->List (Nat×TypeId)
|0,t,off=>[(off,t)]
|d+1,t,off=>match P.underlying t with
  |some (.struct fs)=>fs.toList.flatMap fun f=>eB P d f.type (off+f.offset)
  |_=>[(off,t)]
def pU(P:Program)(t:TypeId):Bool:=match P.underlying t with
|some (.int _)=>true|some .bool=>true|some .string=>true|some (.slice _)=>true|_=>false
def Zj{R:Type}(P:Program)(c:LA)(org:Bool):List (Nat×TypeId)->LA->(LA->O R)->O R
|[],acc,k=>k acc
|(off,t)::r,acc,k=>cond (beq off acc.length&&pU P t) (AX P t (c.drop off) org fun v=>Zj P c org r (acc++[v]) k) none
def NE {R:Type} (P:Program) (g:A1) (t:TypeId) (p v:AV) (k:AV->C5->O R):O R :=
  match p with
  | .optr b off=>(Et g b).bind fun x=>(A9 P t).bind fun n =>
    cond x.sealed none
    (cond x.pure
      ((Qy g v).bind fun q=>cond (beq q.1.length n&&(ble (off+n) x.cells.length&&!Ay q.2.1 b))
        (k .undef (q.2.1++[(b,some { x with cells:=setCells x.cells off q.1,taint:=x.taint||q.2.2 })])) none)
      (match v with
        |.agg c=>cond (H4 g c&&(beq c.length n&&ble (off+n) x.cells.length)) (k .undef [(b,some {x with cells:=D8 x.cells off c})]) none
        | .pagg c org=>cond (beq off 0&&(beq c.length n&&beq x.cells.length n)) (k .undef [(b,some { x with pure:=true,taint:=org,cells:=c })])
          (cond (beq off 0&&beq x.cells.length n) none (Zj P c org (eB P 4 t 0) [] fun l=>cond (beq c.length l.length&&(H4 g l&&(beq l.length n&&ble (off+n) x.cells.length))) (k .undef [(b,some {x with cells:=D8 x.cells off l})]) none))
        | v=>cond (Vt g v&&(beq n 1&&Nat.blt off x.cells.length)) (k .undef [(b,some { x with cells:=x.cells.set off v })]) none))
  |_=>none
def Fp:Nat:=1000000
def nid(d:Nat):Nat:=1000000+d*16
def eC(P:Program)(t:TypeId):Option (Nat×Nat) :=
 match P.underlying t with
| some (.struct fs)=>(fs[0]?).bind fun f=>match P.underlying f.type with
  |some (.pointer u)=>cond (beq u t) ((A9 P t).map fun n=>(t,n)) none
  |some (.struct gs)=>(gs[0]?).bind fun g=>match P.underlying g.type with
   |some (.pointer u)=>cond (beq u f.type) ((A9 P t).map fun n=>(t,n)) none
   |_=>none
  |_=>none
|_=>none
def Li(d:Nat)(pure taint:Bool)(sz:Nat)(cells:LA):C5:=[(nid d,some {dead:=false,sealed:=false,pure,taint,sz,cells})]
def iB{R:Type}(P:Program)(g:A1)(d:Nat)(t:TypeId)(v:AV)(k:AV->C5->O R):O R :=
 match v with
|.pagg c org=>k (.optr (nid d) 0) (Li d true org 0 c)
| .agg c =>
  cond (mM P t) (cond (H4 g c&&beq c.length ((A9 P t).getD 0)) (k (.optr (nid d) 0) [(nid d,some {dead:=false,sealed:=false,pure:=false,taint:=false,sz:=0,cells:=c,ty:=eC P t})]) none)
   ((Rj g c).bind fun q=>k (.optr (nid d) 0) (q.2.1++Li d true q.2.2 0 q.1))
|v=>cond (Vt g v) (k (.optr (nid d) 0) (Li d false false 0 [v])) none
def E4(sz:Nat):Blk:={dead:=false,sealed:=false,pure:=true,taint:=false,sz,cells:=[]}
def pV(co:Bool)(v:AV):AV:=match co,v with
|true,.agg c=>cond (Bs c) (.pagg c false) (.agg c)
|_,v=>v
def NF{R:Type}(P:Program)(g:A1)(co:Bool)(d:Nat)(t:TypeId)(k:AV->C5->O R):O R :=
 match P.underlying t,JH P t with
|some (.slice el),some .nsl=>(A9 P el).bind fun sz=>k (.optr (nid d) 0) [(nid d+1,some (E4 sz)),(nid d,some {dead:=false,sealed:=false,pure:=false,taint:=false,sz:=0,cells:=[.own (nid d+1) 0 0]})]
|_,some z=>iB P g d t (pV co z) k
|_,none=>none
def J8(place:Nat->Option (Nat×Nat)):List (Nat×LA)->LA->Option LA
|[],c=>some c
|(i,vs)::r,c=>(place i).bind fun p=>cond (beq vs.length p.2&&ble (p.1+p.2) c.length) (J8 place r (setCells c p.1 vs)) none
def QB{R:Type}(place:Nat->Option (Nat×Nat)):List (Nat×LA)->LA->(LA->O R)->O R
|[],c,k=>k c
|(i,vs)::r,c,k=>(place i).bind fun p=>cond (beq vs.length p.2&&ble (p.1+p.2) c.length) (QB place r (setCells c p.1 vs) k) none
def Dv(n:Nat)(z:LA):LA:=match z with|[v]=>replicate n v|z=>(replicate n z).flatten
def Qz(g:A1):List (Nat×AV)->Option (List (Nat×LA)×C5×Bool)
|[]=>some ([],[],false)
|(i,v)::r=>(Qy g v).bind fun q=>(Qz g r).bind fun q'=>some ((i,q.1)::q'.1,q.2.1++q'.2.1,q.2.2||q'.2.2)
def pW:AV->Bool
|.optr ..=>true
|.fn _ (_::_)=>true
|_=>false
def M2{R:Type}(P:Program)(g:A1)(d:Nat)(t:TypeId)(len:Nat)(parts:List (Nat×AV))(k:AV->C5->O R):O R :=
 match P.underlying t with
| some (.slice el)=>(A9 P el).bind fun sz=>(FG P el).bind fun z =>
  cond (beq sz 1&&(ble len 16777216&&H4 g (parts.map (·.2)))) ((J8 (fun i=>some (i*1,1)) (parts.map fun p=>(p.1,[p.2])) (Dv len z)).bind fun cells =>
   k (.own (nid d) 0 len) (Li d false false 1 cells)) none
|_=>none
def K4{R:Type}(P:Program)(g:A1)(d:Nat)(t:TypeId)(len:Nat)(parts:List (Nat×AV))(k:AV->C5->O R):O R :=
 match P.underlying t with
| some (.slice el)=>(A9 P el).bind fun sz=>(FG P el).bind fun z=>(Qz g parts).bind fun q =>
  cond (ble (len*sz) 16777216) (QB (fun i=>some (i*sz,sz)) q.1 (Dv len z) fun cells =>
   k (.own (nid d) 0 len) (q.2.1++Li d true q.2.2 sz cells)) none
|_=>none
def HA:AV->Bool
|.own ..|.optr ..|.fn ..|.undef|.agg _|.pagg _ _|.tup _|.omap _=>true
|_=>false
def UO:AV->Bool
|.agg c=>c.any HA
|.pagg _ _=>false
|v=>HA v
def cellsOf:AV->LA
|.agg c=>c
|.pagg c _=>c
|v=>[v]
def eD:AV->Bool
|.imm _ _ _ _ o=>o
|.iptr _ o=>o
|_=>false
def QC:AV->Bool
|.pagg _ o=>o
|.agg c=>c.any eD
|v=>eD v
def Xc:AV->Bool
|.pagg _ _=>true
|_=>false
def AZ(P:Program)(t:TypeId):Option (Nat->Option (Nat×Nat)) :=
 match P.underlying t with
|some (.array _ e)=>(P.info? e).map fun ie=>fun i=>some (i*ie.size,ie.size)
|some (.struct fs)=>(fs.toList.mapM fun f=>(P.info? f.type).map fun i=>(f.offset,i.size)).map fun pl=>fun i=>pl[i]?
|_=>none
def bJ(P:Program)(t:TypeId):Option LA:=(P.info? t).bind fun i=>(i.zero).map fun v=>Hp v.cells.toList
def Ei:List (Nat×AV)->List (Nat×LA)
|[]=>[]
|(i,v)::r=>(i,cellsOf v)::Ei r
def iC(o:Bool):AV->AV
|.imm c n s t _=>.imm c n s t o
|.iptr c _=>.iptr c o
|v=>v
def UP:AV->LA
|.agg c=>c
|.pagg c o=>c.map (iC o)
|v=>[v]
def Ha:List (Nat×AV)->List (Nat×LA)
|[]=>[]
|(i,v)::r=>(i,UP v)::Ha r
def A_:AV->Bool
|.undef=>false
|.tup _=>false
|.omap _=>false
|_=>true
def eE(P:Program)(t:TypeId)(parts:List (Nat×AV)):Option AV :=
 (AZ P t).bind fun place=>cond (parts.all fun p=>A_ p.2) (
 cond (parts.any fun p=>Xc p.2)
  (cond (parts.any fun p=>UO p.2) ((bJ P t).bind fun z=>(J8 place (Ha parts) z).map fun c=>.agg c) ((FG P t).bind fun z=>(J8 place (Ei parts) z).map fun c=>.pagg c (parts.any fun p=>QC p.2)))
  ((bJ P t).bind fun z=>(J8 place (Ei parts) z).map fun c=>.agg c)) none
def eF{R:Type}(P:Program)(t:TypeId)(parts:List (Nat×AV))(k:AV->O R):O R :=
 (AZ P t).bind fun place=>cond (parts.all fun p=>A_ p.2) (
 cond (parts.any fun p=>Xc p.2)
  (cond (parts.any fun p=>UO p.2) ((bJ P t).bind fun z=>QB place (Ha parts) z fun c=>k (.agg c)) ((FG P t).bind fun z=>QB place (Ei parts) z fun c=>k (.pagg c (parts.any fun p=>QC p.2))))
  ((bJ P t).bind fun z=>QB place (Ei parts) z fun c=>k (.agg c))) none
def DM{R:Type}(P:Program)(g:A1)(t:TypeId)(parts:List (Nat×AV))(k:AV->C5->O R):O R:=(AZ P t).bind fun place=>(FG P t).bind fun z=>(Qz g parts).bind fun q=>QB place q.1 z fun c=>k (.pagg c q.2.2) q.2.1
def nV(P:Program)(t:TypeId):List (Nat×Nat) :=
 match P.underlying t with
|some (.struct fs)=>fs.toList.filterMap fun f=>match P.underlying f.type with|some (.slice el)=>(A9 P el).map fun s=>(f.offset,s)|_=>none
|_=>[]
def mO(P:Program)(n:Nat)(e:TypeId)(off:Nat):List (Nat×Nat) :=
 match P.underlying e with
|some (.slice el)=>((A9 P el).map fun s=>(List.range (min n 7)).map fun i=>(off+i,s)).getD []
|_=>[]
def Lj(P:Program)(t:TypeId):List (Nat×Nat) :=
 match P.underlying t with
|some (.array n e)=>mO P n e 0
|some (.struct fs)=>fs.toList.flatMap fun f=>match P.underlying f.type with
  |some (.slice el)=>((A9 P el).map fun s=>(f.offset,s)).toList
  |some (.struct _)=>(nV P f.type).map fun p=>(f.offset+p.1,p.2)
  |some (.array n e)=>mO P n e f.offset
  |_=>[]
|_=>[]
def E6(d:Nat):List (Nat×Nat)->Nat->LA->LA×C5
|[],_,c=>(c,[])
|(o,sz)::r,j,c=>match c[o]? with
  |some .nsl=>((E6 d r (j+1) (c.set o (.own (nid d+j) 0 0))).1,(nid d+j,some (E4 sz))::(E6 d r (j+1) (c.set o (.own (nid d+j) 0 0))).2)
  |_=>E6 d r (j+1) c
def nW{R:Type}(P:Program)(t:TypeId)(co:Bool)(d:Nat)(v:AV)(k:AV->C5->O R):O R :=
 match co,v with
|true,.agg c=>cond (ble (Lj P t).length 15) (k (.agg (E6 d (Lj P t) 1 c).1) (E6 d (Lj P t) 1 c).2) none
|_,v=>k v []
def DN{R:Type}(P:Program)(g:A1)(d:Nat)(t:TypeId)(k:AV->C5->O R):O R :=
 match JH P t with
|some (.agg c)=>cond (ble (Lj P t).length 15&&H4 g c) (k (.optr (nid d) 0) ((E6 d (Lj P t) 1 c).2++Li d false false 0 (E6 d (Lj P t) 1 c).1)) none
|_=>none
def NG{R:Type}(P:Program)(co:Bool)(t:TypeId)(v:AV)(k:AV->O R):O R :=
 match co,v with
|true,.pagg c org=>Zj P c org (eB P 4 t 0) [] fun l=>cond (beq c.length l.length) (k (.agg l)) none
|_,v=>k v
def bK{R:Type}(P:Program)(d:Nat)(t:TypeId)(len cap:AV)(k:AV->C5->O R):O R :=
 match P.underlying t,len,cap with
| some (.slice el),.int .i64 l,.int .i64 c=>(A9 P el).bind fun sz=>(d9 P el).bind fun by_=>(FG P el).bind fun z =>
  cond (decide (0<=l)&&(decide (l<=c)&&(decide (c<=140737488355328)&&decide (c*(by_:Int)<=140737488355328)))) (
   k (.own (nid d) 0 l.toNat) (Li d true false sz (Dv l.toNat z))) none
|_,_,_=>none
def mP(g:A1)(sz:Nat)(s:AV):Option (LA×Nat×Bool×C5) :=
 match s with
|.nsl=>some ([],0,false,[])
|.imm _ n _ true _=>cond (beq n 0) (some ([],0,false,[])) none
|.own b off n=>(Et g b).bind fun x=>cond (x.pure&&(!x.sealed&&beq sz x.sz)) (some ((x.cells.drop off).take (n*sz),n,x.taint,[(b,none)])) none
|_=>none
def QD(P:Program)(g:A1)(el tx:TypeId)(s:AV):Option (Nat×Nat) :=
 match s with
|.nsl=>match P.underlying tx with|some .string=>some (el,0)|_=>none
|.own b off _=>(Et g b).bind fun x=>(x.ty).bind fun q=>cond (beq q.1 el&&(beq q.2 0&&beq off 0)) (some (el,0)) none
|_=>none
def eG(P:Program)(t:TypeId):Bool:=match P.underlying t with|some (.slice _)=>true|some .string=>true|_=>false
def DO{R:Type}(P:Program)(g:A1)(d:Nat)(t tx:TypeId)(s x:AV)(k:AV->C5->O R):O R :=
 match P.underlying t with
| some (.slice el)=>cond (eG P tx) ( (A9 P el).bind fun sz=>(d9 P el).bind fun by_=>(FG P el).bind fun _ =>
  (mP g sz s).bind fun old=>G' P el g sz x fun new =>
  cond (ble (old.2.1+new.2.1) 140737488355328&&ble ((old.2.1+new.2.1)*by_) 140737488355328) (
   k (.own (nid d) 0 (old.2.1+new.2.1)) (old.2.2.2++[(nid d,some { dead:=false,sealed:=false,pure:=true,taint:=old.2.2.1||new.2.2,sz,cells:=old.1++new.1,ty:=QD P g el tx s })])) none) none
|_=>none
def HB{R:Type}(kd:IntKind):Nat->LA->(LA->O R)->O R
|0,_,k=>k []
|n+1,c,k=>(c.head?).bind fun x=>(FH kd x).bind fun v=>HB kd n (c.drop 1) fun l=>k (.int kd v::l)
def NH{R:Type}(P:Program)(el sz b off n:Nat)(y:Blk)(new:LA×Nat×Bool)(k:AV->C5->O R):O R :=
 match P.underlying el with
| some (.int kd)=>cond (beq sz 1&&(ble 1 n&&(beq y.sz 0&&(!y.sealed&&(!y.pure&&(ble n new.2.1&&ble (off+n) y.cells.length)))))) (
   HB kd n new.1 fun vs=>k (.int .i64 (n:Nat)) [(b,some { y with cells:=D8 y.cells off vs })]) none
|_=>none
def bL{R:Type}(P:Program)(g:A1)(t:TypeId)(s x:AV)(k:AV->C5->O R):O R :=
 match P.underlying t,s with
| some (.slice el),.own b off n=>(A9 P el).bind fun sz=>(Et g b).bind fun y=>G' P el g sz x fun new =>
  cond (y.pure&&(!y.sealed&&beq sz y.sz)) (
   k (.int .i64 (min new.2.1 n:Nat)) [(b,some { y with cells:=D8 y.cells off (new.1.take ((min new.2.1 n)*sz)),taint:=y.taint||new.2.2 })]) (NH P el sz b off n y new k)
|some (.slice el),.nsl=>(A9 P el).bind fun sz=>G' P el g sz x fun _=>k (.int .i64 0) []
|_,_=>none
def NI{R:Type}(P:Program)(g:A1)(t:TypeId)(s:AV)(k:AV->C5->O R):O R :=
 match P.underlying t,s with
|some (.slice el),.own b off n=>(A9 P el).bind fun sz=>(FG P el).bind fun z=>(Et g b).bind fun y =>
  cond (y.pure&&(!y.sealed&&beq sz y.sz)) (k (.tup []) [(b,some {y with cells:=D8 y.cells off (Dv n z)})]) none
|_,_=>none
def bM {R:Type} (P:Program) (g:A1) (d:Nat) (src dst:TypeId) (x:AV) (k:AV->C5->O R):O R :=
 match P.underlying dst with
|some (.int kd)=>match x with|.int _ n=>cond (P.underlying src).isSome (k (.int kd (kd.wrap n)) []) none|_=>none
| some .string=>match P.underlying src with
  |some .string=>match x with|.str s=>k (.str s) []|_=>none
  | some (.slice el)=>match P.underlying el with
   |some (.int .u8)=>match x with
    |.str _=>none
    |x=>(bI g 1 x).bind fun q=>(JI q.1).bind fun s=>k (.str s) []
   |_=>none
  |_=>none
|some (.slice el)=>match P.underlying src,P.underlying el,x with
  |some (.slice _),some (.int .u8),.own b off n=>cond (beq src dst&&ble 1 n) ((Et g b).bind fun x=>cond x.sealed none (k (.own b off n) [])) none
  |some .string,some (.int .u8),.str s=>k (.own (nid d) 0 s.length) (Li d true false 1 (s.map fun b=>.int .u8 (b.toNat:Int)))
  |_,_,_=>none
|_=>none
def NJ {R:Type} (P:Program) (g:A1) (d:Nat) (src dst:TypeId) (x:AV) (k:AV->C5->O R):O R :=
 match P.underlying dst with
|some .unsafePointer=>match P.underlying src,x with
  |some (.pointer t),.optr b off=>(A9 P t).bind fun n=>(Et g b).bind fun y=>cond (!(beq n 0)&&Nat.blt off y.cells.length) (k (.optr b off) []) none
  |_,_=>none
|some (.pointer u)=>match P.underlying src,x with
  | some .unsafePointer,.optr b off=>(A9 P u).bind fun _=>(Et g b).bind fun y=>(y.ty).bind fun q =>
    cond (Nat.blt 0 q.2&&(Nat.blt 0 y.cells.length&&liesAt P P.depth q.1 (q.2/P.cellsOf q.1) off u 1)) (k (.optr b off) []) none
  |_,_=>none
|_=>bM P g d src dst x k
def eI:AV->Option UInt8
|.int .u8 n=>cond (decide (((UInt8.ofNat n.toNat).toNat:Int)=n)) (some (UInt8.ofNat n.toNat)) none
|_=>none
def BA:LA->Option Lu
|[]=>some []
|x::r=>(eI x).bind fun b=>(BA r).bind fun l=>some (b::l)
def M3{R:Type}(g:A1)(x:AV)(k:AV->C5->O R):O R :=
 match x with
|.nsl=>k .nilptr []
|.own b off n=>(Et g b).bind fun _=>cond (Nat.blt 0 n) (k (.optr b off) []) none
|_=>none
def M4 {R:Type} (P:Program) (g:A1) (t:TypeId) (x n:AV) (k:AV->C5->O R):O R :=
 match x,n with
|.nilptr,.int .i64 n=>cond (n==0) (k (.str []) []) none
|.optr b off,.int .i64 n=>(Et g b).bind fun y=>(y.ty).bind fun q=>match P.underlying t with
  | some (.pointer e)=>cond (beq q.1 e&&(beq (P.cellsOf e) 1&&(y.pure&&(!y.sealed&&(beq off 0&&(decide (0<n)&&(decide (n<=(y.cells.length:Int))&&decide (n<=9223372036854775807))))))))
    ((BA (y.cells.take n.toNat)).bind fun s=>k (.str s) [(b,none)]) none
  |_=>none
|_,_=>none
def UQ:LA->Int->Bool
|[],_=>false
|.int _ m::r,n=>cond (n==m) true (UQ r n)
|_::r,n=>UQ r n
def pX(c:LA)(n:Int):LA:=cond (UQ c n) c (c++[.int .i64 n])
def eJ(P:Program)(t:TypeId):Bool:=match P.underlying t with
|some (.map k e)=>(match P.underlying k with|some (.int .i64)=>true|_=>false)&&(match JH P e with|some (.bool false)=>true|_=>false)
|_=>false
def Rk{R:Type}(d:Nat)(r:Option AV)(k:AV->C5->O R):O R :=
 match r with
|none=>k (.omap (nid d)) [(nid d,some {dead:=false,sealed:=false,pure:=true,taint:=false,sz:=0,cells:=[],mp:=true})]
|some _=>none
def NK{R:Type}(P:Program)(g:A1)(t:TypeId)(m key val:AV)(k:AV->C5->O R):O R :=
 match m,key,val with
|.omap b,.int .i64 n,.bool true=>cond (eJ P t) ((Et g b).bind fun x=>cond (x.mp&&beq x.sz 0) (k .undef [(b,some {x with cells:=pX x.cells n})]) none) none
|_,_,_=>none
def bO{R:Type}(P:Program)(g:A1)(t:TypeId)(m key:AV)(comma:Bool)(k:AV->O R):O R :=
 match m,key,comma with
|.omap b,.int .i64 n,false=>cond (eJ P t) ((Et g b).bind fun x=>cond (x.mp&&beq x.sz 0) (k (.bool (UQ x.cells n))) none) none
|_,_,_=>none
def nX(s:Lu)(p:Int):Nat×Nat:=Utf8.decode ⟨⟨s⟩⟩ p.toNat
def NL{R:Type}(P:Program)(d:Nat)(t:TypeId)(x:AV)(k:AV->C5->O R):O R :=
 match P.underlying t,x with
|some .string,.str s=>k (.omap (nid d)) [(nid d,some {dead:=false,sealed:=false,pure:=true,taint:=false,sz:=1,cells:=[.str s,.int .i64 0],mp:=true})]
|_,_=>none
def bR{R:Type}(g:A1)(it:AV)(isString:Bool)(k:AV->C5->O R):O R :=
 match it,isString with
| .omap b,true=>(Et g b).bind fun x=>cond (x.mp&&beq x.sz 1)
  (match x.cells with
   | [.str s,.int .i64 p]=>cond (decide (p<(s.length:Int)))
     (k (.tup [.bool true,.int .i64 p,.int .i32 ((nX s p).1:Nat)]) [(b,some {x with cells:=[.str s,.int .i64 (p+((nX s p).2:Nat))]})]) (k (.tup [.bool false]) [])
   | _=>none) none
|_,_=>none
def pY(g:A1)(x y:AV):Option Bool :=
 match x,y with
|.nilptr,.nilptr=>some true
|.nilptr,.optr _ _=>some false
|.optr _ _,.nilptr=>some false
|.nilptr,.iptr _ _=>some false
|.iptr _ _,.nilptr=>some false
|.optr b o,.optr b' o'=>(Et g b).bind fun _=>cond (beq b b') (some (beq o o')) none
|_,_=>none
def kV(P:Program)(t:TypeId):Bool:=match P.underlying t with
|some (.pointer e)=>match A9 P e with|some n=>!(beq n 0)|none=>false
|_=>false
def bS{R:Type}(P:Program)(g:A1)(t:TypeId)(op:BinOp)(x y:AV)(r:AV->O R):O R :=
 match pY g x y with
| some b=>cond (kV P t) (match op with
  |.eql=>r (.bool b)
  |.neq=>r (.bool (!b))
  | _=>none) none
|none=>bH P t op x y r
mutual
def E9:AV->List Nat
|.own b _ _=>[b]
|.optr b _=>[b]
|.omap b=>[b]
|.agg c=>F8 c
|.tup c=>F8 c
|.fn _ c=>F8 c
|_=>[]
def F8:List AV->List Nat
|[]=>[]
|v::r=>E9 v++F8 r
end
mutual
def ES(ρ:Nat->Nat):AV->AV
|.own b off n=>.own (ρ b) off n
|.optr b off=>.optr (ρ b) off
|.omap b=>.omap (ρ b)
|.agg c=>.agg (Pe ρ c)
|.tup c=>.tup (Pe ρ c)
|.fn f c=>.fn f (Pe ρ c)
|v=>v
def Pe(ρ:Nat->Nat):List AV->List AV
|[]=>[]
|v::r=>ES ρ v::Pe ρ r
end
def Xd(g:A1):AV->Option (AV×Bool)
|.own b off n=>(Et g b).bind fun x=>cond x.pure (some (.imm ((x.cells.drop off).take (n*x.sz)) n x.sz false (!x.sealed||x.taint),!x.sealed||x.taint)) none
|.imm c n sz _ org=>some (.imm c n sz false org,org)
|.iptr c org=>some (.iptr c org,org)
|.optr ..|.agg _|.tup _|.undef|.fn ..|.pagg ..|.omap _=>none
|v=>some (v,false)
def Vu(g:A1):LA->Option (LA×Bool)
|[]=>some ([],false)
|v::r=>(Xd g v).bind fun p=>(Vu g r).bind fun q=>some (p.1::q.1,p.2||q.2)
def eK(g:A1):AV->Option (AV×Bool)
|.own b off n=>(Et g b).bind fun x=>cond x.pure (some (.imm ((x.cells.drop off).take (n*x.sz)) n x.sz false (!x.sealed||x.taint),!x.sealed)) none
|.imm c n sz _ org=>some (.imm c n sz false org,false)
|.optr b off=>(Et g b).bind fun x=>cond x.pure (some (.iptr (x.cells.drop off) (!x.sealed||x.taint),!x.sealed)) ((Vu g (x.cells.drop off)).bind fun q=>some (.iptr q.1 true,true))
|.agg c=>(Vu g c).bind fun q=>some (.pagg q.1 q.2,true)
|.fn f []=>some (.fn f [],false)
|.fn _ _|.tup _|.undef|.omap _=>none
|v=>some (v,false)
def Gj(d:Nat):List (Nat×Nat)->Nat->Nat
|[],_=>d
|(i,x)::r,b=>cond (beq i b) x (Gj d r b)
def D9:List Nat->Nat->Bool
|[],_=>false
|i::r,b=>cond (beq i b) true (D9 r b)
def QE:List Nat->List Nat->List Nat
|[],acc=>acc.reverse
|i::r,acc=>cond (D9 acc i) (QE r acc) (QE r (i::acc))
def BB:List Nat->Bool
|[]=>true
|i::r=>!D9 r i&&BB r
def An(base:Nat):List Nat->List (Nat×Nat)
|[]=>[]
|i::r=>(i,base)::An (base+1) r
def Hq(g:A1):List Nat->List Nat
|[]=>[]
|b::r=>(match g b with|some x=>cond x.pure [] (F8 x.cells)|none=>[])++Hq g r
def Rl(g:A1)(ids:List Nat):List Nat:=QE (ids++Hq g (ids++Hq g ids)) []
def BC(g:A1):List Nat->Bool
|[]=>true
|b::r=>(match g b with|some x=>!x.dead|none=>false)&&BC g r
def Jm(ρ:Nat->Nat)(x:Blk):Blk:={x with cells:=cond x.pure x.cells (Pe ρ x.cells)}
def sub(g:A1)(ρ:Nat->Nat):List Nat->Ap
|[]=>[]
|b::r=>match g b with
  |some x=>D2 (sub g ρ r) (ρ b) (Jm ρ x)
  |none=>sub g ρ r
structure Tw where
 runK:{R:Type}->List AV->Ap->(AV->Ap->O R)->O R
 eq:∀{R:Type}(args:List AV)(h:Ap)(k:AV->Ap->O R),runK args h k=(runK args h fun v h'=>some (v,h')).bind fun p=>k p.1 p.2
def JK{R:Type}:List (Nat×Tw)->Nat->LA->Ap->(AV->Ap->O R)->O R
|[],_,_,_,_=>none
|(g,t)::r,f,args,h,k=>cond (beq g f) (t.runK args h k) (JK r f args h k)
structure Env where
 P:Program
 nt:Nat
 muts:Nat->List Bool
 nils:List (Nat×Nat)
 free:List Nat
 cob:List Nat
 tbl:List (Nat×Tw)
mutual
def Ow:AV->Bool
|.imm _ _ _ _ o=>o
|.iptr _ o=>o
|.pagg _ o=>o
|.agg c=>Nx c
|.tup c=>Nx c
|.fn _ c=>Nx c
|_=>false
def Nx:List AV->Bool
|[]=>false
|v::r=>Ow v||Nx r
end
def JL:Ap->Bool
|[]=>false
|(_,x)::r=>x.taint||(cond x.pure false (Nx x.cells))||JL r
def F9(g:A1):LA->List Nat
|[]=>[]
|.own b _ _::r=>match g b with|some x=>cond x.sealed (F9 g r) (b::F9 g r)|none=>F9 g r
|_::r=>F9 g r
def Q3(g:A1):AV->List Nat
|.own b _ _=>match g b with|some x=>cond x.sealed [] [b]|none=>[]
|.optr b off=>match g b with|some x=>cond x.sealed [] [b]++cond x.pure [] (F9 g (x.cells.drop off))|none=>[]
|.agg c=>F9 g c
|_=>[]
def Vv(g:A1):List Bool->LA->Option (LA×List Nat×List Nat)
|_,[]=>some ([],[],[])
| ms,v::r =>
  cond (ms.headD false)
   ((Vv g ms.tail r).bind fun q=>some (v::q.1,E9 v++q.2.1,q.2.2))
   ((eK g v).bind fun p=>(Vv g ms.tail r).bind fun q=>some (p.1::q.1,q.2.1,Q3 g v++q.2.2))
def Zk(ids:List Nat):List Nat->Bool
|[]=>true
|b::r=>D9 ids b&&Zk ids r
def iD:List Nat->List Nat->Bool
|[],_=>true
|i::r,l=>!D9 l i&&iD r l
def HC:List Nat->Bool
|[]=>true
|_=>false
mutual
def Mr:AV->AV->Bool
|.int k n,.int k' n'=>G9 k k'&&decide (n=n')
|.bool b,.bool b'=>decide (b=b')
|.str s,.str s'=>decide (s=s')
|.nsl,.nsl=>true
|.imm c n z t o,.imm c' n' z' t' o'=>U5 c c'&&(beq n n'&&(beq z z'&&(decide (t=t')&&decide (o=o'))))
|.iptr c o,.iptr c' o'=>U5 c c'&&decide (o=o')
|.pagg c o,.pagg c' o'=>U5 c c'&&decide (o=o')
|.own b f n,.own b' f' n'=>beq b b'&&(beq f f'&&beq n n')
|.optr b f,.optr b' f'=>beq b b'&&beq f f'
|.agg c,.agg c'=>U5 c c'
|.undef,.undef=>true
|.nilptr,.nilptr=>true
|_,_=>false
def U5:List AV->List AV->Bool
|[],[]=>true
|a::r,b::s=>Mr a b&&U5 r s
|_,_=>false
end
def pZ(x y:Blk):Bool:=decide (x.dead=y.dead)&&(decide (x.sealed=y.sealed)&&(decide (x.pure=y.pure)&&(decide (x.taint=y.taint)&&(beq x.sz y.sz&&(U5 x.cells y.cells&&(decide (x.mp=y.mp)&&decide (x.ty=y.ty)))))))
def iE(g:A1)(b:Nat)(x:Blk):Bool:=match g b with|some y=>pZ x y|none=>false
def Zl(g:A1):C5->C5
|[]=>[]
|(b,some x)::r=>cond (iE g b x) (Zl g r) ((b,some x)::Zl g r)
|p::r=>p::Zl g r
def UA:AV->AV
|.pagg c _=>.pagg c false
|.imm c n sz t _=>.imm c n sz t false
|v=>v
def bT {R:Type} (E:Env) (g:A1) (d:Nat) (f:Nat) (args:LA) (k:AV->C5->O R):O R :=
 (Vv g (E.muts f) args).bind fun q =>
 let ids:=Rl g q.2.1
 let tin:=An 100000 ids
 let outs:=tin.map (·.2)
 cond (BC g ids&&(Zk ids q.2.1&&(Zk ids (Hq g ids)&&(iD q.2.2 ids&&(BB (ids.map (Gj 0 tin))&&ble ids.length 100000))))) (
  JK E.tbl f (Pe (Gj 0 tin) q.1) (sub g (Gj 0 tin) ids) fun rv rh =>
  let all:=Rl (Ah rh) (E9 rv++outs)
  let new:=all.filter fun b=>!D9 outs b
  let tnew:=An (nid d) new
  let σ:=Gj 0 ((tin.map fun p=>(p.2,p.1))++tnew)
  cond (!HC q.2.2&&(Ow rv||JL rh)) none
   (cond (BC (Ah rh) new&&(ble new.length 16&&(Zk all (E9 rv)&&(Zk all outs&&(Zk all (Hq (Ah rh) all)&&BB (all.map σ))))))
    (k (ES σ (cond (HC q.2.2) rv (UA rv))) (cond (D9 E.cob (d+7000000)) (Zl g (tin.map fun p=>(p.1,(Ah rh p.2).map (Jm σ)))) (tin.map fun p=>(p.1,(Ah rh p.2).map (Jm σ)))++tnew.map fun p=>(p.2,(Ah rh p.1).map (Jm σ)))) none)) none
def bU{R:Type}(c a b:AV)(k:AV->O R):O R :=
 match c,a,b with
|.bool t,.bool x,.bool y=>k (.bool (cond t x y))
|.bool t,x,.tup []=>cond t (k x) none
|.bool t,.tup [],y=>cond t none (k y)
|.bool t,x,y=>cond t (k x) (k y)
|_,_,_=>none
def eM(P : Program)(f : Nat): Bool := match P.funcs[f]? with|some fn => fn.body.isSome && !(fn.name == "runtime.NumGoroutine")|none => false
def p8(P : Program)(f : Nat): Bool := match P.funcs[f]? with|some fn => fn.body.isNone && (fn.name == "internal/abi.NoEscape" && fn.origin == "")|none => false
def Fg(a b:Int):Int:=cond (decide (b<a)) b a
def Ij(a b:Int):Int:=cond (decide (b>a)) b a
def nY:AV->AV->Option AV
|.int k a,.int _ b=>some (.int k (Fg a b))
|_,_=>none
def nZ:AV->AV->Option AV
|.int k a,.int _ b=>some (.int k (Ij a b))
|_,_=>none
def ZI{R:Type}(E:Env)(g:A1)(d:Nat)(v:Operand->AV)(o:Op)(k:AV->C5->O R):O R :=
 match o with
|.move x=>k (v x) []
|.assign x=>k (v x) []
|.pick c a b=>bU (v c) (v a) (v b) fun r=>k r []
|.alloc t=>cond (D9 E.cob (d+1000000)) (DN E.P g d t k) (NF E.P g (D9 E.cob d) d t k)
|.box t x=>NG E.P (D9 E.cob d) t (v x) fun u=>iB E.P g d t u k
|.build t parts=>cond (D9 E.cob (d+4000000)) (DM E.P g t (parts.toList.map fun p=>(p.1,v p.2)) k) (eF E.P t (parts.toList.map fun p=>(p.1,v p.2)) fun r=>nW E.P t (D9 E.cob d) d r k)
|.buildSlice t len parts=>cond ((parts.toList.map fun p=>(p.1,v p.2)).any fun p=>pW p.2) (M2 E.P g d t len (parts.toList.map fun p=>(p.1,v p.2)) k) (K4 E.P g d t len (parts.toList.map fun p=>(p.1,v p.2)) k)
|.load t a=>UN E.P g t (v a) fun r=>k r []
|.store t a x=>NE E.P g t (v a) (v x) k
|.nilCheck x=>match v x with|.iptr c o=>k (.iptr c o) []|.optr b o=>k (.optr b o) []|_=>none
|.binOp op t x y _=>bS E.P g t op (v x) (v y) fun r=>k r []
|.unOp op _ x=>(xK op (v x)).bind fun r=>k r []
|.convert s t x=>NJ E.P g d s t (v x) k
|.makeFunc (.func f) first caps=>cond (Nat.blt f 1000000) (k (.fn (f+1000000*first.toList.length) ((first.toList++caps.toList).map v)) []) none
|.makeSlice t l c=>bK E.P d t (v l) (v c) k
|.slice t x lo hi mx=>ND E.P g t (v x) (lo.map v) (hi.map v) (mx.map v) fun r=>k r []
|.fieldAddr t x f=>M1 E.P t (v x) f fun r=>k r []
|.field t x f=>NB E.P t (v x) f fun r=>k r []
|.indexAddr t x i=>M0 E.P t (v x) (v i) fun r=>k r []
|.index t x i=>NC E.P t (v x) (v i) fun r=>k r []
|.makeMap _ r=>Rk d (r.map v) k
|.mapUpdate t m x y=>NK E.P g t (v m) (v x) (v y) k
|.lookup t m x c=>bO E.P g t (v m) (v x) c fun r=>k r []
|.range t x=>NL E.P d t (v x) k
|.next it s=>bR g (v it) s k
|.extract t i=>match v t with|.tup vs=>(vs[i]?).bind fun r=>k r []|_=>none
| .call c=>match c.callee with
  |.builtin .len=>match c.args.toList,c.argTypes.toList with|[x],[t]=>(tp E.P t (v x)).bind fun r=>k r []|_,_=>none
  |.builtin .append=>match c.args.toList,c.argTypes.toList with|[s,x],[t,tx]=>DO E.P g d t tx (v s) (v x) k|_,_=>none
  |.builtin .copy=>match c.args.toList,c.argTypes.toList with|[s,x],[t,_]=>bL E.P g t (v s) (v x) k|_,_=>none
  |.builtin .clear=>match c.args.toList,c.argTypes.toList with|[x],[t]=>NI E.P g t (v x) k|_,_=>none
  |.builtin .min=>match c.args.toList with|[x,y]=>(nY (v x) (v y)).bind fun r=>k r []|[x,y,z]=>(nY (v x) (v y)).bind fun q=>(nY q (v z)).bind fun r=>k r []|_=>none
  |.builtin .max=>match c.args.toList with|[x,y]=>(nZ (v x) (v y)).bind fun r=>k r []|[x,y,z]=>(nZ (v x) (v y)).bind fun q=>(nZ q (v z)).bind fun r=>k r []|_=>none
  |.builtin .unsafeSliceData=>match c.args.toList with|[x]=>M3 g (v x) k|_=>none
  |.builtin .unsafeString=>match c.args.toList,c.argTypes.toList with|[x,y],[t,_]=>M4 E.P g t (v x) (v y) k|_,_=>none
  |.value fo=>match v fo with
   | .fn f caps=>cond (eM E.P (f%1000000)) (bT E g d (f%1000000) (caps.take (f/1000000)++(c.args.toList.map v++caps.drop (f/1000000))) k)
     (cond (p8 E.P (f%1000000)) (match caps,c.args.toList.map v with|[],[x]=>k x []|_,_=>none) none)
   |_=>none
  |_=>none
|_=>none
structure Foot where
 r:List Nat
 w:Option Nat
 f:List Nat
 u:List Nat
def HD:List Operand->List Nat
|[]=>[]
|.tmp t::r=>t::HD r
|_::r=>HD r
def Ai:C5->Ap->Ap
|[],h=>h
|(b,some x)::r,h=>Ai r (D2 h b x)
|(b,none)::r,h=>Ai r (match Ah h b with|some x=>D2 h b {x with dead:=true,pure:=true,cells:=[]}|none=>h)
def DP(ops:Array Oper)(o:Oper):Option (Nat×Bool) :=
 match o.guard with
|none=>none
|some (j,want)=>((ops[j]?).bind (·.dst)).map fun t=>(t,want)
def Xe(ops:Array Oper)(s:Ff)(o:Oper):Option Bool :=
 match o.guard with
|none=>some true
| some (j,want)=>match (ops[j]?).bind (·.dst) with
  |some t=>match Es s t with
   |.bool b=>some (b==want)
   |.tup []=>some false
   |_=>none
  |none=>some false
def kW(nt:Nat)(s:Ff)(d:Option Nat)(v:AV):Ff:=match d with|some d=>cond (Nat.blt d nt) (AW s d v) s|none=>s
def mQ:Op->Bool
|.binOp op ..=>match op with|.eql|.neq=>true|_=>false
|.move _|.assign _|.pick ..|.unOp ..|.makeFunc ..|.fieldAddr ..|.field ..|.indexAddr ..|.index ..|.extract ..|.nilCheck _=>false
|.call c=>match c.callee with
  |.builtin .len|.builtin .min|.builtin .max=>false
  |_=>true
|_=>true
def mR:Op->Bool
|.load ..|.binOp ..=>true
|_=>false
def Ox(h:Ap)(op:Op)(vals:LA):List Nat:=cond (mQ op) (cond (mR op) (QE (F8 vals) []) (Rl (Ah h) (F8 vals))) []
def Vw(d b:Nat):Bool:=ble (nid d) b&&Nat.blt b (nid d+16)
def FJ(d:Nat)(F:List Nat)(h:Ap):C5->Bool
|[]=>true
|(b,_)::r=>cond (Vw d b) (Ah h b).isNone (D9 F b&&(Ah h b).isSome)&&FJ d F h r
def iF{R:Type}(E:Env)(ops:Array Oper)(o:Oper)(st:St)(k:St->Foot->O R):O R :=
 (Xe ops st.s o).bind fun wanted=>cond wanted (
  ZI E (fun b=>cond (D9 (Ox st.h o.op (o.op.operands.toList.map (ev st.s))) b) (Ah st.h b) none) (o.dst.getD 50000) (ev st.s) o.op fun v ups =>
  cond (FJ (o.dst.getD 50000) (Ox st.h o.op (o.op.operands.toList.map (ev st.s))) st.h ups)
   (k { s:=kW E.nt st.s o.dst v,h:=Ai ups st.h } { r:=(match DP ops o with | some p=>[p.1] | none=>[])++HD o.op.operands.toList,w:=o.dst,f:=Ox st.h o.op (o.op.operands.toList.map (ev st.s)),u:=ups.map (·.1) }) none)
  (k {st with s:=kW E.nt st.s o.dst (.tup [])} {r:=(match DP ops o with|some p=>[p.1]|none=>[]),w:=o.dst,f:=[],u:=[]})
def NM{R:Type}(ops:Array Oper)(o:Oper)(st:St)(k:St->O R):O R :=
 match o.guard with
|none=>k st
| some (j,want)=>match (ops[j]?).bind (·.dst) with
  |none=>k st
  |some t=>match Es st.s t with
   |.bool b=>cond (b==want) (k {s:=AW st.s t (.bool want),h:=st.h}) (k {s:=AW st.s t (.bool (!want)),h:=st.h})
   |_=>k st
def DQ{R:Type}(E:Env)(o:Oper)(st:St)(k:St->O R):O R :=
 match o.op,o.dst with
| .move (.tmp i),some d=>cond (D9 E.cob (d+6000000)) (match Es st.s i with
  |.int kd n=>QA n (fun j=>k {s:=AW st.s i (.int kd j),h:=st.h}) 7 0
  | _=>k st) (k st)
|_,_=>k st
def UR{R:Type}(E:Env)(ops:Array Oper):List Oper->St->List Foot->(St->List Foot->O R)->O R
|[],st,tr,k=>k st tr
|o::r,st,tr,k=>NM ops o st fun st=>DQ E o st fun st=>iF E ops o st fun st f=>UR E ops r st (f::tr) k
def ww:Option Nat->List Nat->Bool
|none,_=>false
|some d,l=>D9 l d
def QF(a b:Foot):Bool:=!ww a.w b.r&&!ww b.w a.r&&(match a.w,b.w with|some x,some y=>!beq x y|_,_=>true)&&iD a.u (b.f++b.u)&&iD b.u a.f
def BD(e:Edge):Bool:=match e.ground with|.textOnly _=>false|.gcOnly _=>false|_=>true
def Xf(o:Oper):List Nat:=(o.after.toList.filter BD).map (·.on)
def eN{α:Type}:List Nat->(List Nat->α)->α
|[],k=>k []
|i::r,k=>eN r fun s=>k (i::s)
def Vx{α:Type}:∀(l:List Nat)(k:List Nat->α),eN l k=k l
|[],_=>rfl
|i::r,k=>by rw[eN,Vx r]
def Fb:List Oper->List (List Nat)->List (List Nat)
|[],acc=>acc
|o::r,acc=>eN (QE (Xf o++((Xf o).flatMap fun i=>(acc[i]?).getD [])) []) fun a=>Fb r (acc++[a])
def Q4:Nat->List Oper->Bool
|_,[]=>true
|i,o::r=>(o.after.toList.all fun e=>!BD e||Nat.blt e.on i)&&Q4 (i+1) r
def JM(f:Foot)(anc:List Nat):Nat->List Foot->Bool
|_,[]=>true
|i,g::r=>(D9 anc i||QF g f)&&JM f anc (i+1) r
def DR:List Foot->List (List Nat)->List Foot->Bool
|[],_,_=>true
|f::r,a::az9,seen=>JM f a 0 seen&&DR r az9 (seen++[f])
|_::_,[],_=>false
def Hr(b:Nat):Nat:=cond (ble Fp b) (b - Fp) b
mutual
def Rm(g:A1):AV->AV
|.own b off n=>match Et g b with|some _=>.own (Hr b) off n|none=>.undef
|.optr b off=>match Et g b with|some _=>.optr (Hr b) off|none=>.undef
|.omap b=>match Et g b with|some _=>.omap (Hr b)|none=>.undef
|.agg c=>.agg (Hb g c)
|.tup c=>.tup (Hb g c)
|.fn f c=>.fn f (Hb g c)
|v=>v
def Hb(g:A1):List AV->List AV
|[]=>[]
|v::r=>Rm g v::Hb g r
end
def NN(g:A1)(K:List Nat):Ff->Ff
|[]=>[]
|(t,v)::r=>cond (D9 K t) ((t,Rm g v)::NN g K r) (NN g K r)
def US(K:List Nat):Ff->List Nat
|[]=>[]
|(t,v)::r=>cond (D9 K t) (E9 v++US K r) (US K r)
def Ro(g:A1):List Nat->Ap
|[]=>[]
|b::r=>match Et g b with
  |some x=>D2 (Ro g r) (Hr b) {x with cells:=cond x.pure x.cells (Hb g x.cells)}
  |none=>Ro g r
def Tp(g:A1)(ids:List Nat):List Nat:=ids.filter fun b=>match Et g b with|some _=>true|none=>false
def UT(g:A1)(ids:List Nat):List Nat->Bool
|[]=>true
|b::r=>(D9 ids b||(Et g b).isNone)&&UT g ids r
def mS:List Nat->Bool
|[]=>true
|b::r=>cond (ble Fp b) (Nat.blt (Hr b) 100000) true&&mS r
def clean(K roots:List Nat)(st:St):Option St :=
 let g:=Ah st.h
 let ids:=Tp g (Rl g (US K st.s++roots))
 cond (BB (ids.map Hr)&&(UT g ids (US K st.s)&&(UT g ids (Hq g ids)&&mS ids))) (some {s:=NN g K st.s,h:=Ro g ids}) none
def Xg{R:Type}(E:Env)(roots:List Nat)(ops:Array Oper)(draw:Bool)(st:St)(k:St->O R):O R :=
 UR E ops ops.toList st [] fun st tr =>
  cond (!draw||(Q4 0 ops.toList&&DR tr.reverse (Fb ops.toList []) [])) ((clean (st.s.map (·.1)) roots st).bind k) none
def UU(b:Nat):Bool:=ble 100000 b&&Nat.blt b 200000
def Xh(live:List Nat):List (Nat×Nat)->St->Option St
|[],st=>some st
|(t,sz)::r,st=>cond (ble 1000000 sz)
  (match D9 live t,Es st.s t with
  |true,.nsl=>Xh live r {s:=AW st.s t (.imm [] 0 (sz - 1000000) false false),h:=st.h}
  |true,.own b off n=>(FI (Ah st.h) (.own b off n)).bind fun q=>Xh live r {s:=AW st.s t q.1,h:=Ai q.2.1 st.h}
  | _,_=>Xh live r st)
  (match D9 live t,Es st.s t with
  |true,.nsl=>cond (Ah st.h (nid t+15)).isSome none (Xh live r {s:=AW st.s t (.own (nid t+15) 0 0),h:=D2 st.h (nid t+15) (E4 sz)})
  | _,_=>Xh live r st)
def Vy(free:List Nat)(b:Nat):Bool:=UU b&&!D9 free b
def p9(free ids:List Nat):List (Nat×Nat):=An 300000 (ids.filter fun b=>!Vy free b)
def Rp(free ids:List Nat)(b:Nat):Nat:=cond (Vy free b) b (Gj 0 (p9 free ids) b)
def p_(ρ:Nat->Nat)(K:List Nat):Ff->Ff
|[]=>[]
|(t,v)::r=>cond (D9 K t) ((t,ES ρ v)::p_ ρ K r) (p_ ρ K r)
def Zm(E:Env)(live roots:List Nat)(st:St):Option St :=
 (Xh live E.nils st).bind fun st =>
 let g:=Ah st.h
 let ids:=Tp g (Rl g (US live st.s++roots))
 cond (BB (ids.map (Rp E.free ids))&&(Zk ids (US live st.s)&&(Zk ids (Hq g ids)&&ble ids.length 100000))) (some {s:=p_ (Rp E.free ids) live st.s,h:=sub g (Rp E.free ids) ids}) none
inductive Hint where
|leaf
|node (live:List Nat) (a b:Hint)
|join (live:List Nat) (a b:Hint)
def Hint.live:Hint->List Nat
|.leaf=>[]
|.node l _ _=>l
|.join l _ _=>l
def Hint.a:Hint->Hint
|.leaf=>.leaf
|.node _ a _=>a
|.join _ a _=>a
def Hint.b:Hint->Hint
|.leaf=>.leaf
|.node _ _ b=>b
|.join _ _ b=>b
def Hint.isJoin:Hint->Bool
|.join _ _ _=>true
|_=>false
noncomputable def Ak{α:Type}(a:α):{x:α // x=a}:=Classical.choice ⟨⟨a,rfl⟩⟩
noncomputable def pd{R:Type}(j:Bool)(f:St->O R):St->O R:=cond j (Ak f).1 f
def Ny{R:Type}(j:Bool)(f:St->O R):pd j f=f:=by cases j;rfl;exact(Ak f).2
noncomputable def iG{R:Type}(E:Env)(roots:List Nat)(H:Hint)(f:St->O R)(st:St):O R:=cond H.isJoin ((Zm E H.live roots st).bind (pd true f)) (f st)
def Zn{R:Type}(cn:St->Option St)(body:(St->O R)->St->O R):Nat->St->O R
|0,_=>none
|n+1,st=>body (fun st=>(cn st).bind (Zn cn body n)) st
noncomputable def Cw{R:Type}(E:Env)(roots:List Nat)(N:Nat):Code->Hint->(St->O R)->(Nat->St->O R)->(St->O R)->St->O R
|.skip,_,k,_,_,st=>k st
|.region _ ops draw,_,k,_,_,st=>Xg E roots ops draw st k
|.seq a b,H,k,x,r,st=>Cw E roots N a H.a (iG E roots H fun st=>Cw E roots N b H.b k x r st) x r st
|.cond c a b,H,k,x,r,st=>match ev st.s c with
  |.bool t=>cond t (Cw E roots N a H.a k x r st) (Cw E roots N b H.b k x r st)
  |_=>none
|.block id c,H,k,x,r,st=>Cw E roots N c H.a k (fun j st=>cond (beq j id) (k st) (x j st)) r st
|.loop c,H,_,x,r,st=>(Zm E H.live roots st).bind (pd true (Zn (Zm E H.live roots) (fun k st=>Cw E roots N c H.a k x r st) N))
|.exit id,_,_,x,_,st=>x id st
|.ret,_,_,_,r,st=>r st
|.scope c,H,k,x,r,st=>Cw E roots N c H.a k x r st
|.label _,_,k,_,_,st=>k st
|_,_,_,_,_,_=>none
def Jn{R:Type}(E:Env)(st:St):List ResultVar->LA->(LA->O R)->O R
|[],acc,k=>k acc.reverse
|.tmp t::r,acc,k=>Jn E st r (Es st.s t::acc) k
|.cell a t::r,acc,k=>UN E.P (Ah st.h) t (Es st.s a) fun v=>Jn E st r (v::acc) k
def tq(g:A1)(i:Nat)(m:Nat×Nat)(v:AV):Option (AV×C5) :=
 cond (beq m.1 0) (some (v,[]))
 (cond (beq m.1 1) (match v with
  |.nsl=>some (.imm [] 0 m.2 false false,[])
  |.imm c n sz _ o=>some (.imm c n sz false o,[])
  |.own b off n=>(FI g (.own b off n)).bind fun q=>some (q.1,q.2.1)
  | _=>none)
 (cond (beq m.1 2) (match v with
  |.nsl=>cond (g (nid 90000+i)).isSome none (some (.own (nid 90000+i) 0 0,[(nid 90000+i,some (E4 m.2))]))
  | v=>some (v,[]))
 (match v with
  |.agg c=>(Rj g c).bind fun q=>some (.pagg q.1 q.2.2,q.2.1)
  |.pagg c o=>some (.pagg c o,[])
  | _=>none)))
def iH(h:Ap):Nat->List (Nat×Nat)->LA->Option (LA×Ap)
|_,_,[]=>some ([],h)
|i,ms,v::r=>(tq (Ah h) i (ms.headD (0,0)) v).bind fun p=>(iH (Ai p.2 h) (i+1) ms.tail r).bind fun q=>some (p.1::q.1,q.2)
def tt(l:LA):AV:=match l with|[v]=>v|l=>.tup l
def Nz{R:Type}(E:Env)(fn:Func)(modes:List (Nat×Nat))(outs:List Nat)(k:AV->Ap->O R)(st:St):O R :=
 Jn E st fn.results.toList [] fun l =>
 (iH st.h 0 modes l).bind fun q =>
 let v:=tt q.1
 let g:=Ah q.2
 let ids:=Tp g (Rl g (E9 v++outs))
 cond (BB (ids.map (Rp E.free ids))&&(Zk ids (E9 v)&&(Zk ids (Hq g ids)&&ble ids.length 100000))) (k (ES (Rp E.free ids) v) (sub g (Rp E.free ids) ids)) none
def UV:Nat->LA->Ff
|_,[]=>[]
|i,v::r=>(i,v)::UV (i+1) r
structure Hints where
 H:Hint
 nils:List (Nat×Nat):=[]
 modes:List (Nat×Nat):=[]
 free:List Nat:=[]
 cob:List Nat:=[]
def JN:Ap->Bool
|[]=>true
|(b,_)::r=>UU b&&JN r
noncomputable def QG{R:Type}(P:Program)(muts:Nat->List Bool)(T:List (Nat×Tw))(hs:Hints)(N f:Nat)(args:LA)(h:Ap)(k:AV->Ap->O R):O R :=
 match P.funcs[f]? with
|none=>none
| some fn=>match fn.body with
  |none=>none
  |some c =>
   let E:Env:={P,nt:=fn.ntmps,muts,nils:=hs.nils,free:=hs.free,cob:=hs.cob,tbl:=T}
   let outs:=h.map (·.1)
   let fin:=Nz E fn hs.modes outs k
   cond (ble args.length fn.ntmps&&JN h) (Cw E outs N c hs.H fin (fun _ _=>none) fin {s:=UV 0 args,h}) none
end Gx
namespace Gx
open Go
mutual
def RepC(J:Nat->Prop)(w:World):AV->Value->Prop
|.int k n,v=>v=.int k n
|.bool b,v=>v=.bool b
|.str s,v=>v=.string ⟨⟨s⟩⟩
|.nsl,v=>v=.slice none 0 0
| .imm c len sz tight _,v=>c.length=len*sz/\∃ A cap,v=.slice A len cap/\len<=cap/\(tight=true->cap=len) /\
   (len=0\/∃ a,A=some a/\J a.block/\RepCs J w c (fun j=>w.cell? (a.add j)) 0)
|.iptr c _,v=>∃ a,v=.pointer (some a)/\J a.block/\RepCs J w c (fun j=>w.cell? (a.add j)) 0
|.nilptr,v=>v=.pointer none
|.nilfn,v=>v=.nilFunc
|.fn f [],v=>v=.func (.func (f%1000000)) #[] #[]
|_,_=>False
def RepCs(J:Nat->Prop)(w:World):List AV->(Nat->Option Value)->Nat->Prop
|[],_,_=>True
|x::r,rd,i=>(∃ u,rd i=some u/\RepC J w x u)/\RepCs J w r rd (i+1)
end
def Bh{J:Nat->Prop}{w:World}:∀{c:LA}{rd:Nat->Option Value}{i:Nat},
  RepCs J w c rd i↔∀ j x,c[j]?=some x->∃ u,rd (i+j)=some u/\RepC J w x u:=by
 intro c
 induction c with
|nil=>intro rd i;simp[RepCs]
| cons x r C =>
  intro rd i
  rw[RepCs,C]
  constructor
  ·rintro⟨D,G⟩ j y k
   cases j with
   |zero=>simp at k;subst k;simpa using D
   |succ j=>have:=G j y (by simpa using k);rwa [show i+1+j=i+(j+1) by omega]at this
  ·intro h
   refine⟨by simpa using h 0 x (by simp),fun j y k=>?_⟩
   have:=h (j+1) y (by simpa using k)
   rwa [show i+(j+1)=i+1+j by omega]at this
def iI(J:Nat->Prop)(w w':World):Prop:=∀ k,J k->w'.heap[k]?=w.heap[k]?
def NO{J:Nat->Prop}{w w':World}(h:iI J w w'){a:Addr}(k:J a.block):w'.cell? a=w.cell? a:=by unfold World.cell?;rw[h a.block k]
def M5(a:Addr)(n:Nat):(a.add n).block=a.block:=by unfold Addr.add;split<;>rfl
mutual
def RepC.keep{J J':Nat->Prop}{w w':World}(hJ:∀ k,J k->J' k)(hk:iI J w w'):∀{x:AV}{v:Value},RepC J w x v->RepC J' w' x v
|.int ..,_,h=>h
|.bool _,_,h=>h
|.str _,_,h=>h
|.nsl,_,h=>h
| .imm c _ _ _ _,_,h=>by
  rw[RepC]at h ⊢
  obtain⟨h1,A,cap,h2,h3,h4,h5⟩:=h
  refine⟨h1,A,cap,h2,h3,h4,?_⟩
  rcases h5 with h5|⟨a,ha,hj,hc⟩
  ·exact .inl h5
  ·refine .inr ⟨a,ha,hJ _ hj,RepCs.keep hJ hk (c:=c) (fun j=>?_) hc⟩
   exact NO hk (by rw[M5];exact hj)
|.iptr c _,_,h=>by
  rw[RepC]at h ⊢
  obtain⟨a,ha,hj,hc⟩:=h
  exact⟨a,ha,hJ _ hj,RepCs.keep hJ hk (c:=c) (fun j=>NO hk (by rw[M5];exact hj)) hc⟩
|.nilptr,_,h=>h
|.nilfn,_,h=>h
|.fn _ [],_,h=>h
|.fn _ (_::_),_,h=>by simp[RepC]at h
|.pagg ..,_,h=>by simp[RepC]at h
|.agg _,_,h=>by simp[RepC]at h
|.tup _,_,h=>by simp[RepC]at h
|.own ..,_,h=>by simp[RepC]at h
|.optr ..,_,h=>by simp[RepC]at h
|.undef,_,h=>by simp[RepC]at h
|.omap _,_,h=>by simp[RepC]at h
def RepCs.keep{J J':Nat->Prop}{w w':World}(hJ:∀ k,J k->J' k)(hk:iI J w w'):∀{c:List AV}{rd rd':Nat->Option Value}{i:Nat},(∀ j,rd' j=rd j)->RepCs J w c rd i->RepCs J' w' c rd' i
|[],_,_,_,_,_=>trivial
|x::r,rd,rd',i,he,h=>by
  rw[RepCs]at h ⊢
  obtain⟨⟨u,hu,hx⟩,hr⟩:=h
  exact⟨⟨u,by rw[he];exact hu,RepC.keep hJ hk (x:=x) hx⟩,RepCs.keep hJ hk (c:=r) he hr⟩
end
abbrev Bt:=Nat->Option (Nat×Nat)
def Aw(w:World)(k:Nat):Nat:=match w.heap[k]? with|some (.cells cs _ _)=>cs.size|_=>0
def vY(sz k:Nat):Value:=match sz with|0=>.map (some k)|_+1=>.pointer (some ⟨k,0,none⟩)
mutual
def Rep(J:Bool->Nat->Prop)(β:Bt)(h:Ap)(w:World):AV->Value->Prop
| .own b off n,v=>∃ x A cap,(Ah h b=some x/\x.mp=false)/\v=.slice A n cap/\n<=cap/\(cap=0\/∃ k o,A=some ⟨k,o+off,none⟩ /\
   (x.dead=true\/(β b=some (k,o)/\o+off+cap*x.sz<=Aw w k/\off+n*x.sz<=x.cells.length)))
|.omap b,v=>∃ x k,(Ah h b=some x/\x.mp=true)/\(x.dead=true\/(β b=some (k,0)/\v=vY x.sz k))
|.optr b off,v=>∃ x k o,(Ah h b=some x/\x.mp=false)/\v=.pointer (some ⟨k,o+off,none⟩)/\(x.dead=true\/β b=some (k,o))
|.pagg c org,v=>∃ cs,v=.agg ⟨cs⟩/\cs.length=c.length/\RepCs (J org) w c (fun j=>cs[j]?) 0
|.agg c,v=>∃ cs,v=.agg ⟨cs⟩/\Reps J β h w c cs
|.tup c,v=>∃ cs,v=.tuple ⟨cs⟩/\Reps J β h w c cs
|.fn f c,v=>∃ cs:List Value,v=.func (.func (f%1000000)) ⟨cs.take (f/1000000)⟩ ⟨cs.drop (f/1000000)⟩/\Reps J β h w c cs
|.undef,_=>True
|.imm c n sz t org,v=>RepC (J org) w (.imm c n sz t org) v
|.iptr c org,v=>RepC (J org) w (.iptr c org) v
|.int k n,v=>v=.int k n
|.bool b,v=>v=.bool b
|.str s,v=>v=.string ⟨⟨s⟩⟩
|.nsl,v=>v=.slice none 0 0
|.nilptr,v=>v=.pointer none
|.nilfn,v=>v=.nilFunc
def Reps(J:Bool->Nat->Prop)(β:Bt)(h:Ap)(w:World):List AV->List Value->Prop
|[],cs=>cs=[]
|x::r,cs=>∃ u us,cs=u::us/\Rep J β h w x u/\Reps J β h w r us
end
structure Ext(J:Bool->Nat->Prop)(β:Bt)(h:Ap)(w:World)(J':Bool->Nat->Prop)(β':Bt)(h':Ap)(w':World):Prop where
 jsub:∀ o k,J o k->J' o k
 keep:∀ o,iI (J o) w w'
 blk:∀ b x,Ah h b=some x->∃ x',(Ah h' b=some x'/\x'.mp=x.mp)/\(x'.dead=true\/(x.dead=false/\β' b=β b/\x'.sz=x.sz/\(x.mp=false->x'.cells.length=x.cells.length)))
 size:∀ b k o,β b=some (k,o)->Aw w k<=Aw w' k
mutual
def Rep.ext{J J':Bool->Nat->Prop}{β β':Bt}{h h':Ap}{w w':World}(E:Ext J β h w J' β' h' w'):∀{x:AV}{v:Value},Rep J β h w x v->Rep J' β' h' w' x v
| .own b off n,v,hr=>by
  rw[Rep]at hr ⊢
  obtain⟨x,A,cap,⟨hx,hm⟩,h1,h2,hr⟩:=hr
  obtain⟨x',⟨hx',hm'⟩,hd⟩:=E.blk b x hx
  refine⟨x',A,cap,⟨hx',by rw[hm',hm]⟩,h1,h2,?_⟩
  rcases hr with hr|⟨k,o,h3,hr⟩
  ·exact .inl hr
  ·refine .inr ⟨k,o,h3,?_⟩
   rcases hd with hd|⟨hd,hβ,hs,hl⟩
   ·exact .inl hd
   ·rcases hr with hr|⟨h4,h5,h6⟩
    ·simp[hd]at hr
    ·exact .inr ⟨by rw[hβ];exact h4,by rw[hs];exact Aal h5 (E.size b k o h4),by rw[hs,hl hm];exact h6⟩
| .optr b off,v,hr=>by
  rw[Rep]at hr ⊢
  obtain⟨x,k,o,⟨hx,hm⟩,h1,hr⟩:=hr
  obtain⟨x',⟨hx',hm'⟩,hd⟩:=E.blk b x hx
  refine⟨x',k,o,⟨hx',by rw[hm',hm]⟩,h1,?_⟩
  rcases hd with hd|⟨hd,hβ,hs,hl⟩
  ·exact .inl hd
  ·rcases hr with hr|hr
   ·simp[hd]at hr
   ·exact .inr (by rw[hβ];exact hr)
| .omap b,v,hr=>by
  rw[Rep]at hr ⊢
  obtain⟨x,k,⟨hx,hm⟩,hr⟩:=hr
  obtain⟨x',⟨hx',hm'⟩,hd⟩:=E.blk b x hx
  refine⟨x',k,⟨hx',by rw[hm',hm]⟩,?_⟩
  rcases hd with hd|⟨hd,hβ,hs,hl⟩
  ·exact .inl hd
  ·rcases hr with hr|⟨hr,hv⟩
   ·simp[hd]at hr
   ·exact .inr ⟨by rw[hβ];exact hr,by rw[hs];exact hv⟩
|.pagg c org,v,hr=>by
  rw[Rep]at hr ⊢
  obtain⟨cs,h1,h2,h3⟩:=hr
  exact⟨cs,h1,h2,RepCs.keep (E.jsub org) (E.keep org) (fun _=>rfl) h3⟩
|.agg c,v,hr=>by
  rw[Rep]at hr ⊢
  obtain⟨cs,h1,h2⟩:=hr
  exact⟨cs,h1,Reps.ext E (c:=c) h2⟩
|.tup c,v,hr=>by
  rw[Rep]at hr ⊢
  obtain⟨cs,h1,h2⟩:=hr
  exact⟨cs,h1,Reps.ext E (c:=c) h2⟩
|.fn f c,v,hr=>by
  rw[Rep]at hr ⊢
  obtain⟨cs,h1,h2⟩:=hr
  exact⟨cs,h1,Reps.ext E (c:=c) h2⟩
|.undef,_,_=>by rw[Rep];trivial
|.imm c n sz t org,v,hr=>by rw[Rep]at hr ⊢;exact RepC.keep (E.jsub org) (E.keep org) hr
|.iptr c org,v,hr=>by rw[Rep]at hr ⊢;exact RepC.keep (E.jsub org) (E.keep org) hr
|.int ..,_,hr=>hr
|.bool _,_,hr=>hr
|.str _,_,hr=>hr
|.nsl,_,hr=>hr
|.nilptr,_,hr=>hr
|.nilfn,_,hr=>hr
def Reps.ext{J J':Bool->Nat->Prop}{β β':Bt}{h h':Ap}{w w':World}(E:Ext J β h w J' β' h' w'):∀{c:List AV}{cs:List Value},Reps J β h w c cs->Reps J' β' h' w' c cs
|[],_,hr=>hr
|x::r,cs,hr=>by
  rw[Reps]at hr ⊢
  obtain⟨u,us,h1,h2,h3⟩:=hr
  exact⟨u,us,h1,Rep.ext E (x:=x) h2,Reps.ext E (c:=r) h3⟩
end
end Gx
namespace Gx
open Go
def vZ:List (Nat×List Value):=[]
def tz:List Nat:=[]
end Gx
namespace Gx
open Go
def CellsRep(J:Bool->Nat->Prop)(β:Bt)(h:Ap)(w:World)(x:Blk)(rd:Nat->Option Value):Prop :=
 (x.pure=true->RepCs (J x.taint) w x.cells rd 0) /\
 (x.pure=false->∀ j c,x.cells[j]?=some c->∃ u,rd j=some u/\Rep J β h w c u/\u.oneCell'=true)
def FrOk(n:Nat)(fr:Nat×Nat):Prop:=fr.1=fr.2\/n<=fr.1
def FrOk.at{n:Nat}{fr:Nat×Nat}(h:FrOk n fr)(j:Nat)(k:j<n):¬ (fr.1<=j/\j<fr.2):=by rcases h with h|h<;>omega
def TyOk(X:Option (Nat×Nat))(ty:TypeId)(o n:Nat):Prop:=∀ t m,X=some (t,m)->ty=t/\o=0/\(m=0\/n=m)
def FrTy(X:Option (Nat×Nat))(ty:TypeId)(o n:Nat)(fr:Nat×Nat):Prop:=FrOk n fr/\TyOk X ty o n
def TyOk.none{ty:TypeId}{o n:Nat}:TyOk .none ty o n:=fun _ _ h=>by cases h
def FrOk.un{n:Nat}{fr:Nat×Nat}(h:FrOk n fr){ty:TypeId}{o:Nat}:FrTy .none ty o n fr:=⟨h,TyOk.none⟩
def FrTy.un0{ty:TypeId}{o n a:Nat}:FrTy .none ty o n (a,a):=⟨.inl rfl,TyOk.none⟩
def uA(J:Bool->Nat->Prop)(β:Bt)(h:Ap)(w:World)(b:Nat)(x:Blk):Prop :=
 (β b=none/\x.cells=[])\/∃ k o cs ty fr,β b=some (k,o)/\w.heap[k]?=some (.cells cs ty fr) /\
  FrTy x.ty ty o cs.size fr/\o+x.cells.length<=cs.size/\CellsRep J β h w x (fun j=>cs[o+j]?) /\
  (x.sealed=false->∀ g,¬ J g k)/\(x.sealed=true->J x.taint k)
def uB(c:LA)(es:Array MapEntry):Prop:=∃ l:List Int,c=l.map (fun n=>.int .i64 n)/\es.toList.map (fun e=>(e.key,e.val))=l.map (fun n=>(.int .i64 n,.bool true))
def ObjIs(x:Blk)(ob:Obj):Prop:=(x.sz=0/\∃ es clk,ob=.map es clk/\uB x.cells es)\/(x.sz=1/\∃ s pos,ob=.stringIter ⟨⟨s⟩⟩ pos/\x.cells=[.str s,.int .i64 (pos:Int)])
def MapRep(J:Bool->Nat->Prop)(β:Bt)(w:World)(b:Nat)(x:Blk):Prop:=x.pure=true/\x.sealed=false/\∃ k ob,β b=some (k,0)/\w.heap[k]?=some ob/\ObjIs x ob/\∀ g,¬ J g k
def ObjIs.row{x:Blk}{ob:Obj}(h:ObjIs x ob){cs:Array Value}{ty:TypeId}{fr:Nat×Nat}:ob≠.cells cs ty fr:=by rcases h with⟨_,es,clk,rfl,_⟩|⟨_,s,pos,rfl,_⟩<;>exact fun h=>by cases h
def GlobOk(J:Bool->Nat->Prop)(w:World):Prop:=(∀ p∈vZ,J false p.1/\∃ ty fr,w.heap[p.1]?=some (.cells p.2.toArray ty fr))/\∀ g∈tz,J false g/\∃ m,w.cell? ⟨g,0,none⟩=some (.int .i64 m)
def GlobOk.to {J J':Bool->Nat->Prop} {w w':World} (h:GlobOk J w) (G:∀ k,J false k->J' false k) (I:iI (J false) w w'):GlobOk J' w':=⟨fun p C =>
 ⟨G _ (h.1 p C).1,by rw[I _ (h.1 p C).1];exact(h.1 p C).2⟩,fun g D=>⟨G _ (h.2 g D).1,by rw[NO I (by exact(h.2 g D).1)];exact(h.2 g D).2⟩⟩
def GlobOk.ext{J J':Bool->Nat->Prop}{β β':Bt}{h h':Ap}{w w':World}(G:GlobOk J w)(E:Ext J β h w J' β' h' w'):GlobOk J' w':=G.to (E.jsub false) (E.keep false)
structure SimH(J:Bool->Nat->Prop)(β:Bt)(h:Ap)(w:World):Prop where
 jlt:∀ o k,J o k->k<w.heap.size
 jft:∀ k,J false k->J true k
 gl:GlobOk J w
 blk:∀ b x,Ah h b=some x->x.dead=false->x.mp=false->uA J β h w b x
 mblk:∀ b x,Ah h b=some x->x.dead=false->x.mp=true->MapRep J β w b x
 sep:∀ b b' x x' k o o',Ah h b=some x->Ah h b'=some x'->x.dead=false->x'.dead=false->x.sealed=false->β b=some (k,o)->β b'=some (k,o')->b=b'
mutual
def Xi{J:Bool->Nat->Prop}{β:Bt}{h:Ap}{w:World}:∀ v:Value,Rep J β h w (M' v) v
|.int ..=>by simp[M',Rep]
|.bool _=>by simp[M',Rep]
|.string ⟨⟨s⟩⟩=>by simp[M',Rep]
|.slice none 0 0=>by simp[M',Rep]
|.slice none 0 (_+1)=>by simp[M',Rep]
|.slice none (_+1) _=>by simp[M',Rep]
|.slice (some _) _ _=>by simp[M',Rep]
|.pointer none=>by simp[M',Rep]
|.pointer (some _)=>by simp[M',Rep]
|.nilFunc=>by simp[M',Rep]
|.agg ⟨cs⟩=>by rw[M',Rep];exact⟨cs,rfl,DS cs⟩
|.float ..=>by simp[M',Rep]
|.complex ..=>by simp[M',Rep]
|.map _=>by simp[M',Rep]
|.chan _=>by simp[M',Rep]
|.func ..=>by simp[M',Rep]
|.iface ..=>by simp[M',Rep]
|.nilIface=>by simp[M',Rep]
|.tuple _=>by simp[M',Rep]
def DS{J:Bool->Nat->Prop}{β:Bt}{h:Ap}{w:World}:∀ cs:List Value,Reps J β h w (Hp cs) cs
|[]=>by simp[Hp,Reps]
|v::r=>by rw[Hp,Reps];exact⟨v,r,rfl,Xi v,DS r⟩
end
structure SimS(J:Bool->Nat->Prop)(β:Bt)(h:Ap)(w:World)(s:Ff)(t:Array Value):Prop where
 slot:∀ i v,t[i]?=some v->Rep J β h w (Es s i) v
 out:∀ i,t.size<=i->Es s i=.undef
def A2{J:Bool->Nat->Prop}{β:Bt}{h:Ap}{w:World}{s:Ff}{a:Act}(H:SimS J β h w s a.tmps)(x:Operand):Rep J β h w (ev s x) (a.eval x):=by
 cases x with
| tmp t =>
  rw[ev,Act.eval,Aa8]
  cases k:a.tmps[t]? with
  |some v=>exact H.slot t v k
  |none =>
   have:a.tmps.size<=t:=by simpa using k
   rw[H.out t this];simp[Rep]
|const v=>exact Xi v
|global g=>simp[ev,Rep]
| func f =>
  rw[ev]
  cases C:Nat.blt f 1000000 with
  |false=>simp[Rep]
  |true =>
   have:f<1000000:=by simpa using C
   simp[Rep,Act.eval,Reps,zf this]
section
variable{R:Type}{r:R}{P:Program}{J:Bool->Nat->Prop}{β:Bt}{h:Ap}{w:World}
def eO{t:TypeId}{op:BinOp}{k:IntKind}{a b:Int}{v:AV}(C:NA op k a b=some v):
  ∃ vc,(binOp op t (.int k a) (.int k b)).run P w=.ok vc w/\Rep J β h w v vc:=by cases op<;>simp[NA]at C<;>subst C<;>simp[binOp,Op.intArith,Op.intBits,Op.intCmp,Rep]
def kX{op:BinOp}{t:TypeId}{x y:AV}{k:AV->O R}{vx vy:Value}(hh:nU P t op x y k=some r)(Y:Rep J β h w x vx)(hy:Rep J β h w y vy)(ox oy:Operand):
  ∃ v vc,k v=some r/\(do eqGuard op t ox oy vx vy;binOp op t vx vy:Sem Value).run P w=.ok vc w/\Rep J β h w v vc:=by
 unfold nU at hh
 split at hh
 ·rename_i I a T b
  rw[Rep]at Y hy;subst Y hy
  have D:(eqGuard op t ox oy (.int I a) (.int T b)).run P w=.ok () w:=by
   unfold eqGuard;cases op<;>simp
  split at hh
  ·cases C:decide (b<0)<;>rw[C]at hh<;>simp at hh C
   refine⟨_,_,hh,?_,by rw[Rep]⟩
   simp[D,binOp,Op.shift];intro hc;omega
  ·cases C:decide (b<0)<;>rw[C]at hh<;>simp at hh C
   refine⟨_,_,hh,?_,by rw[Rep]⟩
   simp[D,binOp,Op.shift];intro hc;omega
  ·cases L:G9 I T<;>rw[L]at hh<;>simp at hh
   have G:I=T:=by simpa[G9]using L
   subst G
   cases C:(b==0)<;>rw[C]at hh<;>simp at hh C
   refine⟨_,_,hh,?_,by rw[Rep]⟩
   simp[D,binOp,Op.intDiv,C]
  ·cases L:G9 I T<;>rw[L]at hh<;>simp at hh
   have G:I=T:=by simpa[G9]using L
   subst G
   cases C:(b==0)<;>rw[C]at hh<;>simp at hh C
   refine⟨_,_,hh,?_,by rw[Rep]⟩
   simp[D,binOp,Op.intDiv,C]
  ·cases L:G9 I T<;>rw[L]at hh<;>simp at hh
   have G:I=T:=by simpa[G9]using L
   subst G
   cases hi:NA op I a b with
   |none=>rw[hi]at hh;simp at hh
   |some v =>
    rw[hi]at hh
    obtain⟨vc,h1,h2⟩:=eO (P:=P) (J:=J) (β:=β) (h:=h) (w:=w) (t:=t) hi
    exact⟨v,vc,by simpa using hh,by simp[D,h1],h2⟩
 ·rename_i a b
  rw[Rep]at Y hy;subst Y hy
  split at hh
  ·cases C:DL P t<;>rw[C]at hh<;>simp at hh
   have ht:P.underlying t=some .bool:=by unfold DL at C;split at C<;>simp_all
   refine⟨_,_,hh,?_,by rw[Rep]⟩
   have he:(Op.equal t (.bool a) (.bool b)).run P w=.ok (a==b) w:=by
    have:∀ d,(Op.equalIn (d+1) t (.bool a) (.bool b)).run P w=.ok (a==b) w:=fun d=>by
     unfold Op.equalIn;simp only[Sem.run_bind,run_underlying ht,Result.andThen_ok,Sem.run_pure]
    exact this 9999
   have D:∀ op,(eqGuard op t ox oy (.bool a) (.bool b)).run P w=.ok () w:=fun op=>by unfold eqGuard;cases op<;>simp
   simp only[Sem.run_bind,D,Result.andThen_ok,binOp,he,Sem.run_pure]
  ·cases C:DL P t<;>rw[C]at hh<;>simp at hh
   have ht:P.underlying t=some .bool:=by unfold DL at C;split at C<;>simp_all
   refine⟨_,_,hh,?_,by rw[Rep]⟩
   have he:(Op.equal t (.bool a) (.bool b)).run P w=.ok (a==b) w:=by
    have:∀ d,(Op.equalIn (d+1) t (.bool a) (.bool b)).run P w=.ok (a==b) w:=fun d=>by
     unfold Op.equalIn;simp only[Sem.run_bind,run_underlying ht,Result.andThen_ok,Sem.run_pure]
    exact this 9999
   have D:∀ op,(eqGuard op t ox oy (.bool a) (.bool b)).run P w=.ok () w:=fun op=>by unfold eqGuard;cases op<;>simp
   simp only[Sem.run_bind,D,Result.andThen_ok,binOp,he,Sem.run_pure]
  ·simp at hh
 ·rename_i a b
  rw[Rep]at Y hy;subst Y hy
  have ea:(⟨⟨a⟩⟩:ByteArray).toList=a:=by simp[ByteArray.toList_eq]
  have eb:(⟨⟨b⟩⟩:ByteArray).toList=b:=by simp[ByteArray.toList_eq]
  have D:∀ op,(eqGuard op t ox oy (.string ⟨⟨a⟩⟩) (.string ⟨⟨b⟩⟩)).run P w=.ok () w:=fun op=>by unfold eqGuard;cases op<;>simp
  split at hh
  ·cases C:ble (a.length+b.length) 140737488355328<;>rw[C]at hh<;>simp at hh C
   refine⟨_,_,hh,?_,by rw[Rep]⟩
   have hl:¬ (((⟨⟨a⟩⟩:ByteArray).size+(⟨⟨b⟩⟩:ByteArray).size:Nat):Int)>IntKind.i64.max:=by
    show ¬ ((a.length+b.length:Nat):Int)>9223372036854775807
    omega
   have ec:(⟨⟨a⟩⟩:ByteArray)++⟨⟨b⟩⟩=⟨⟨a++b⟩⟩:=by
    apply ByteArray.ext;simp[ByteArray.data_append]
   simp only[Sem.run_bind,D,Result.andThen_ok,binOp,Op.stringOp,if_neg hl,Sem.run_pure,ec]
  all_goals first
   |(refine⟨_,_,hh,?_,by rw[Rep]⟩;simp only[Sem.run_bind,D,Result.andThen_ok,binOp,Op.stringOp,Sem.run_pure,ea,eb];done)
   |simp at hh
 ·simp at hh
end
end Gx
namespace Gx
open Go
section
variable{R:Type}{r:R}{P:Program}{J:Bool->Nat->Prop}{β:Bt}{h:Ap}{w:World}
def ub{α:Type}{o:Option α}{f:α->O R}(hh:o.bind f=some r):∃ x,o=some x/\f x=some r:=by
 cases o with
|none=>simp at hh
|some x=>exact⟨x,rfl,by simpa using hh⟩
def uc{b:Bool}{x:O R}(hh:cond b x none=some r):b=true/\x=some r:=by cases b<;>simp at hh;exact⟨rfl,hh⟩
def kO{b:Bool}{x:O R}(hh:cond b none x=some r):b=false/\x=some r:=by cases b<;>simp at hh;exact⟨rfl,hh⟩
def n6{op:UnOp}{x v:AV}{vx:Value}(hh:xK op x=some v)(D:Rep J β h w x vx):
  ∃ vc,(Op.unary op vx).run P w=.ok vc w/\Rep J β h w v vc:=by
 unfold xK at hh
 split at hh
 ·rename_i k n
  rw[Rep]at D;subst D;simp at hh;subst hh
  refine⟨.int k (k.wrap (-n)),by simp[Op.unary,Op.intArith],?_⟩
  rw[Rep]
 ·rename_i k n
  rw[Rep]at D;subst D
  have C:=hh
  rw[NA]at C
  simp only[Aba]at C;subst C
  refine⟨_,rfl,?_⟩
  rw[Rep];cases k.signed<;>rfl
 ·rename_i b
  rw[Rep]at D;subst D;simp at hh;subst hh
  exact⟨.bool (!b),by simp[Op.unary],by rw[Rep]⟩
 ·simp at hh
def QH(P:Program)(J:Bool->Nat->Prop)(β:Bt)(h:Ap)(w:World)(t:TypeId)(rd:Nat->Option Value)(v:AV):Prop :=
 (∃ d,P.underlying t=some d/\d.isRow=false/\∃ u,rd 0=some u/\Rep J β h w v u) \/
 (∃ d,P.underlying t=some d/\d.isRow=true/\∃ us:List Value,(P.info? t).map (·.size)=some us.length/\(∀ j u,us[j]?=some u->rd j=some u)/\Rep J β h w v (.agg us.toArray))
def RepCs.at{J:Nat->Prop}{c:LA}{rd:Nat->Option Value}(hc:RepCs J w c rd 0){j:Nat}{x:AV}(k:c[j]?=some x):∃ u,rd j=some u/\RepC J w x u:=by have:=Bh.1 hc j x k;simpa using this
def RepCs.drop{J:Nat->Prop}{c:LA}{rd:Nat->Option Value}(hc:RepCs J w c rd 0)(n:Nat):RepCs J w (c.drop n) (fun j=>rd (n+j)) 0:=by
 rw[Bh]at hc ⊢
 intro j x k
 rw[zk]at k
 simpa using hc (n+j) x k
def RepCs.take{J:Nat->Prop}{c:LA}{rd:Nat->Option Value}(hc:RepCs J w c rd 0)(n:Nat):RepCs J w (c.take n) rd 0:=by
 rw[Bh]at hc ⊢
 intro j x k
 rw[Aau]at k
 split at k
 ·exact hc j x k
 ·simp at k
def RepCs.list{J:Nat->Prop}{c:LA}{rd:Nat->Option Value}(hc:RepCs J w c rd 0):
  ∃ us:List Value,us.length=c.length/\(∀ j u,us[j]?=some u->rd j=some u)/\RepCs J w c (fun j=>us[j]?) 0:=by
 refine⟨c.zipIdx.map fun p=>(rd p.2).getD undef,by simp,fun j u k=>?_,?_⟩
 ·rw[Abo,Aer]at k
  cases D:c[j]? with
  |none=>rw[D]at k;simp at k
  |some x =>
   rw[D]at k
   obtain⟨I,C,_⟩:=hc.at D
   simp[C]at k
   rw[C,k]
 ·rw[Bh]
  intro j x k
  obtain⟨u,C,G⟩:=hc.at k
  refine⟨u,?_,G⟩
  simp[k,C]
def QI{J1 J2:Nat->Prop}:∀{c:LA}{rd:Nat->Option Value}{i:Nat},Bs c=true->RepCs J1 w c rd i->RepCs J2 w c rd i
|[],_,_,_,_=>trivial
|x::r,rd,i,k,hc=>by
  rw[RepCs]at hc ⊢
  obtain⟨⟨u,C,I⟩,D⟩:=hc
  have G:Bs r=true:=by unfold Bs at k;split at k<;>simp_all
  refine⟨⟨u,C,?_⟩,QI G D⟩
  unfold Bs at k
  split at k<;>simp_all[RepC]
def FK{t:TypeId}{c:LA}{org:Bool}{k:Bool->O R}{rd:Nat->Option Value}{i:Nat}(hh:P3 P t c org k=some r)(hc:RepCs (J org) w c rd i):∃ o,k o=some r/\RepCs (J o) w c rd i:=by
 unfold P3 at hh
 cases C:mM P t with
|true=>rw[C]at hh;exact⟨org,hh,hc⟩
|false =>
  rw[C,cond_false]at hh
  obtain⟨D,G⟩:=uc hh
  refine⟨false,G,?_⟩
  cases org with
  |false=>exact hc
  |true=>exact QI (by simpa using D) hc
def Oc{t:TypeId}{c:LA}{org:Bool}{k:AV->O R}{rd:Nat->Option Value}(hh:AX P t c org k=some r)(hc:RepCs (J org) w c rd 0):
  ∃ v,k v=some r/\QH P J β h w t rd v:=by
 unfold AX at hh
 have agg:∀{d:TypeDesc},P.underlying t=some d->d.isRow=true->((A9 P t).bind fun n=>cond (ble n c.length) (P3 P t (c.take n) org fun o=>k (.pagg (c.take n) o)) none)=some r ->
   ∃ v,k v=some r/\QH P J β h w t rd v:=by
  intro d G hd hh
  obtain⟨n,C,hh⟩:=ub hh
  obtain⟨hle,hh⟩:=uc hh
  have hle':n<=c.length:=by simpa using hle
  obtain⟨us,I,D,h3⟩:=(hc.take n).list
  have hl:us.length=n:=by rw[I];simp;omega
  obtain⟨o,hh,h4⟩:=FK hh h3
  refine⟨_,hh,.inr ⟨d,G,hd,us,?_,D,?_⟩⟩
  ·rw[hl];exact C
  ·rw[Rep];exact⟨us,rfl,by rw[I],h4⟩
 split at hh
 ·rename_i kd G
  obtain⟨x,L,hh⟩:=ub hh
  obtain⟨n,C,hh⟩:=ub hh
  obtain⟨u,I,D⟩:=hc.at (by rw[<-zj];exact L)
  refine⟨_,hh,.inl ⟨_,G,rfl,u,I,?_⟩⟩
  unfold FH at C
  split at C
  ·obtain⟨Y,hn'⟩:=uc C
   simp[G9]at Y hn';subst Y;subst hn'
   rw[RepC]at D;rw[Rep];exact D
  ·simp at C
 ·rename_i G
  obtain⟨x,L,hh⟩:=ub hh
  obtain⟨n,C,hh⟩:=ub hh
  obtain⟨u,I,D⟩:=hc.at (by rw[<-zj];exact L)
  refine⟨_,hh,.inl ⟨_,G,rfl,u,I,?_⟩⟩
  unfold asBool at C
  split at C
  ·simp at C;subst C
   rw[RepC]at D;rw[Rep];exact D
  ·simp at C
 ·rename_i G
  obtain⟨x,L,hh⟩:=ub hh
  obtain⟨n,C,hh⟩:=ub hh
  obtain⟨u,I,D⟩:=hc.at (by rw[<-zj];exact L)
  refine⟨_,hh,.inl ⟨_,G,rfl,u,I,?_⟩⟩
  unfold UM at C
  split at C
  ·simp at C;subst C
   rw[RepC]at D;rw[Rep];exact D
  ·simp at C
 ·rename_i e G
  obtain⟨sz,hsz,hh⟩:=ub hh
  obtain⟨x,L,hh⟩:=ub hh
  obtain⟨p,T,hh⟩:=ub hh
  obtain⟨u,I,D⟩:=hc.at (by rw[<-zj];exact L)
  refine⟨_,hh,.inl ⟨_,G,rfl,u,I,?_⟩⟩
  unfold pR at T
  rw[Rep,RepC]
  split at T
  ·obtain⟨Y,hp'⟩:=uc T
   simp at Y hp';subst Y;subst hp'
   rw[RepC]at D
   obtain⟨h3,A,cap,h4,h5,h6,h7⟩:=D
   exact⟨h3,A,cap,h4,h5,by simp,h7⟩
  ·simp at T;subst T
   rw[RepC]at D
   exact⟨by simp,none,0,D,by simp,by simp,.inl rfl⟩
  ·simp at T
 ·rename_i G;exact agg G rfl hh
 ·rename_i G;exact agg G rfl hh
 ·simp at hh
def Bq:∀{c:LA}{cs:List Value},Reps J β h w c cs↔cs.length=c.length/\∀(j:Nat)(x:AV)(u:Value),c[j]?=some x->cs[j]?=some u->Rep J β h w x u
|[],cs=>by rw[Reps];simp
| x::r,cs=>by
  rw[Reps]
  constructor
  ·rintro⟨u,us,rfl,D,G⟩
   rw[Bq]at G
   refine⟨by simp[G.1],fun j y v k C=>?_⟩
   cases j with
   |zero=>simp at k C;subst k C;exact D
   |succ j=>exact G.2 j y v (by simpa using k) (by simpa using C)
  ·rintro⟨I,D⟩
   cases cs with
   |nil=>simp at I
   |cons u us =>
    refine⟨u,us,rfl,D 0 x u (by simp) (by simp),?_⟩
    rw[Bq]
    exact⟨by simpa using I,fun j y v k C=>D (j+1) y v (by simpa using k) (by simpa using C)⟩
def BE{t:TypeId}{c:LA}{k:AV->O R}{rd:Nat->Option Value}(hh:P' P t c k=some r)
  (hc:∀ j x,c[j]?=some x->∃ u,rd j=some u/\Rep J β h w x u) :
  ∃ v,k v=some r/\QH P J β h w t rd v:=by
 unfold P' at hh
 have agg:∀{d:TypeDesc},P.underlying t=some d->d.isRow=true->((A9 P t).bind fun n=>cond (ble n c.length) (k (.agg (c.take n))) none)=some r ->
   ∃ v,k v=some r/\QH P J β h w t rd v:=by
  intro d D Y hh
  obtain⟨n,hn,hh⟩:=ub hh
  obtain⟨T,hh⟩:=uc hh
  have L:n<=c.length:=by simpa using T
  refine⟨_,hh,.inr ⟨d,D,Y,(c.take n).zipIdx.map fun p=>(rd p.2).getD undef,?_,fun j u I=>?_,?_⟩⟩
  ·simp;rw[zZ L];exact Option.map_eq_some_iff.1 hn
  ·rw[Abo,Aer]at I
   cases C:(c.take n)[j]? with
   |none=>rw[C]at I;simp at I
   | some x =>
    rw[C]at I
    rw[Aau]at C
    split at C
    ·obtain⟨u',G,_⟩:=hc j x C
     simp[G]at I
     rw[G,I]
    ·simp at C
  ·rw[Rep]
   refine⟨_,rfl,Bq.2 ⟨by simp,fun j x u C D=>?_⟩⟩
   simp[C]at D
   rw[Aau]at C
   split at C
   ·obtain⟨u',G,hr⟩:=hc j x C
    simp[G]at D;subst D;exact hr
   ·simp at C
 split at hh
 ·rename_i D;exact agg D rfl hh
 ·rename_i D;exact agg D rfl hh
 ·rename_i d _ _ D
  obtain⟨x,C,hh⟩:=ub hh
  obtain⟨u,h1,h2⟩:=hc 0 x (by rw[<-zj];exact C)
  refine⟨x,hh,.inl ⟨d,D,?_,u,h1,h2⟩⟩
  cases d<;>simp_all
 ·simp at hh
def bV{n:Nat}{k:AV->O R}:∀{c:LA}{i:Nat},Xb n k c i=some r->i<=n/\∃ x,c[n - i]?=some x/\k x=some r
|[],i,hh=>by simp[Xb]at hh
| v::c,i,hh=>by
  rw[Xb]at hh
  cases C:beq n i with
  |true =>
   rw[C]at hh
   have:n=i:=zM C
   subst this
   exact⟨zE _,v,by simp,hh⟩
  |false =>
   rw[C]at hh
   obtain⟨I,x,D,G⟩:=bV (c:=c) hh
   refine⟨by omega,x,?_,G⟩
   rw[show n - i=(n - (i+1))+1 by omega];simpa using D
def JO{t:TypeId}{c:LA}{off:Nat}{k:AV->O R}(hh:AY P t c off k=some r):P' P t (c.drop off) k=some r:=by
 unfold AY at hh
 unfold P'
 split at hh
 ·exact hh
 ·exact hh
 ·rename_i d I L T
  obtain⟨_,x,C,D⟩:=bV hh
  have G:(c.drop off).head?=some x:=by rw[zj,zk];simpa using C
  rw[G];exact D
 ·simp at hh
def DT{t:TypeId}{d:TypeDesc}(k:P.underlying t=some d):(isAgg t).run P w=.ok d.isRow w:=by
 unfold isAgg
 rw[Sem.run_bind,run_underlying k w]
 cases d<;>simp
def FL{t:TypeId}{a:Addr}{v:AV}(L:QH P J β h w t (fun j=>w.cell? (a.add j)) v):∃ vc,(loadVar t a).run P w=.ok vc w/\Rep J β h w v vc:=by
 rcases L with⟨d,C,D,u,k,G⟩|⟨d,C,D,us,k,G,T⟩
 ·refine⟨u,?_,G⟩
  have I:w.cell? a=some u:=by simpa[Addr.add]using k
  simp[loadVar,DT C,D,I]
 ·refine⟨_,?_,T⟩
  have Y:=run_loadCells_list (P:=P) w a us G
  cases hq:P.info? t with
  |none=>simp[hq]at k
  |some i =>
   have hs:i.size=us.length:=by simpa[hq]using k
   simp[loadVar,Sem.run_bind,DT C,D,Go.sizeOf,typeInfo,hq,hs,Y]
def N0{t:TypeId}{cs:List Value}{off:Nat}{v:AV}(L:QH P J β h w t (fun j=>cs[off+j]?) v):∃ vc,(part t ⟨cs⟩ off).run P w=.ok vc w/\Rep J β h w v vc:=by
 rcases L with⟨d,C,D,u,k,G⟩|⟨d,C,D,us,k,G,T⟩
 ·refine⟨u,?_,G⟩
  simp at k
  simp[part,DT C,D,k]
 ·refine⟨_,?_,T⟩
  cases hq:P.info? t with
  |none=>simp[hq]at k
  | some i =>
   have hs:i.size=us.length:=by simpa[hq]using k
   have:(⟨cs⟩:Array Value).extract off (off+us.length)=us.toArray:=by
    apply Aan
    simp
    apply List.ext_getElem?
    intro j
    rw[Aau,zk]
    split
    ·rename_i I
     rw[zD I]
     exact G j _ (zD I)
    ·rename_i I
     rw[zp (by omega)]
   simp only[part,Sem.run_bind,DT C,D,Go.sizeOf,typeInfo,run_program,Result.andThen_ok,hq,Sem.run_pure,hs,if_true,this]
end
end Gx
namespace Gx
open Go
section
variable{R:Type}{r:R}{P:Program}{J:Bool->Nat->Prop}{β:Bt}{h:Ap}{w:World}{g:A1}
def Iu{k:Nat}{cs:Array Value}{ty:TypeId}{fr:Nat×Nat}(C:w.heap[k]?=some (.cells cs ty fr))(i:Nat):w.cell? ⟨k,i,none⟩=cs[i]?:=by simp[World.cell?,C]
def Looks(g:A1)(h:Ap):Prop:=∀ b x,g b=some x->Ah h b=some x
def Cu{b:Nat}{x:Blk}(C:Looks g h)(k:Et g b=some x):Ah h b=some x/\x.dead=false:=by
 unfold Et at k
 obtain⟨y,D,k⟩:=ub k
 obtain⟨G,k⟩:=kO k
 simp at k;subst k
 exact⟨C b _ D,G⟩
def eQ{b off:Nat}{x:Blk}{v:Value}(S:SimH J β h w)(L:Ah h b=some x)(T:x.dead=false)(D:Rep J β h w (.optr b off) v):
  ∃ k o cs ty fr,β b=some (k,o)/\v=.pointer (some ⟨k,o+off,none⟩)/\w.heap[k]?=some (.cells cs ty fr) /\
  FrTy x.ty ty o cs.size fr/\o+x.cells.length<=cs.size/\CellsRep J β h w x (fun j=>cs[o+j]?) /\
  (x.sealed=false->∀ g,¬ J g k)/\(x.sealed=true->J x.taint k):=by
 rw[Rep]at D
 obtain⟨y,k,o,⟨G,hm⟩,hv,D⟩:=D
 rw[L]at G;simp at G;subst G
 rcases D with D|I
 ·simp[T]at D
 ·rcases S.blk b x L T hm with⟨Y,_⟩|⟨k',o',cs,ty,fr,C,h1,h2,h3,h4,h5,h6⟩
  ·rw[I]at Y;simp at Y
  ·rw[I]at C;simp at C;obtain⟨rfl,rfl⟩:=C
   exact⟨k,o,cs,ty,fr,I,hv,h1,h2,h3,h4,h5,h6⟩
def CellsRep.reads{t:TypeId}{x:Blk}{cs:Array Value}{o off:Nat}{k:AV->O R}(hc:CellsRep J β h w x (fun j=>cs[o+j]?))
  (hh:cond x.pure (AX P t (x.cells.drop off) x.taint k) (AY P t x.cells off k)=some r) :
  ∃ v,k v=some r/\QH P J β h w t (fun j=>cs[o+off+j]?) v:=by
 cases C:x.pure with
|true =>
  rw[C]at hh
  have:=(hc.1 C).drop off
  obtain⟨v,D,G⟩:=Oc (β:=β) (h:=h) hh this
  exact⟨v,D,by simpa[Aaf]using G⟩
| false =>
  rw[C]at hh
  obtain⟨v,D,G⟩:=BE (J:=J) (β:=β) (h:=h) (w:=w) (rd:=fun j=>cs[o+(off+j)]?) (JO hh) (fun j y I=>by
   rw[zk]at I
   obtain⟨u,L,T,_⟩:=hc.2 C _ _ I
   exact⟨u,L,T⟩)
  exact⟨v,D,by simpa[Aaf]using G⟩
def QJ{t:TypeId}{p:AV}{vp:Value}{k:AV->O R}(S:SimH J β h w)(Y:Looks g h)(hh:UN P g t p k=some r)(C:Rep J β h w p vp):
  ∃ v vc,k v=some r/\(Instr.loadAt t vp).run P w=.ok vc w/\Rep J β h w v vc:=by
 unfold UN at hh
 split at hh
 ·rename_i c org
  rw[Rep,RepC]at C
  obtain⟨a,rfl,_,hc⟩:=C
  obtain⟨v,D,G⟩:=Oc (β:=β) (h:=h) hh hc
  obtain⟨vc,I,L⟩:=FL G
  exact⟨v,vc,D,by simp[Instr.loadAt,Instr.sureAddr,I],L⟩
 ·rename_i b off
  obtain⟨x,hx,hh⟩:=ub hh
  obtain⟨hb,hd⟩:=Cu Y hx
  obtain⟨kk,o,cs,ty,fr,hβ,rfl,hk,_,_,hc,_⟩:=eQ S hb hd C
  obtain⟨v,D,G⟩:=hc.reads hh
  have T:QH P J β h w t (fun j=>w.cell? ((⟨kk,o+off,none⟩:Addr).add j)) v:=by
   simpa only[Addr.add_mid,Iu hk]using G
  obtain⟨vc,I,L⟩:=FL T
  exact⟨v,vc,D,by simp[Instr.loadAt,Instr.sureAddr,I],L⟩
 ·simp at hh
def Bw{t:TypeId}{n:Nat}(hs:A9 P t=some n)(w:World):(Go.sizeOf t).run P w=.ok n w:=by
 unfold A9 at hs
 cases hq:P.info? t with
|none=>simp[hq]at hs
|some i=>simp[hq]at hs;simp[Go.sizeOf,typeInfo,hq,hs]
def M6{i:Int}{n:Nat}(hi:Ab i n=true):0<=i/\i<(n:Int):=by simpa[Ab]using hi
def JP{J:Nat->Prop}{c:LA}{a:Addr}(hc:RepCs J w c (fun j=>w.cell? (a.add j)) 0)(n:Nat):RepCs J w (c.drop n) (fun j=>w.cell? ((a.add n).add j)) 0:=by
 have e:∀ j,(a.add n).add j=a.add (n+j):=fun j=>by
  unfold Addr.add
  by_cases k:n=0<;>by_cases C:j=0<;>simp[k,C,Aaf]
 simpa[e]using hc.drop n
def sD{b off n:Nat}{v:Value}(m:Nat)(C:Rep J β h w (.own b off n) v)(G:n≠0):
  ∃ k o cap,v=.slice (some ⟨k,o,none⟩) n cap/\Rep J β h w (.optr b (off+m)) (.pointer (some ⟨k,o+m,none⟩)):=by
 rw[Rep]at C
 obtain⟨x,A,cap,D,rfl,I,C⟩:=C
 rcases C with C|⟨k,o,rfl,C⟩
 ·omega
 ·refine⟨k,o+off,cap,rfl,?_⟩
  rw[Rep];exact⟨x,k,o,D,by rw[Aaf],C.imp id (·.1)⟩
def FM{t k:TypeId}{kd:IntKind}{i:Int}{len cap sz:Nat}{a:Addr}(C:P.underlying t=some (.slice k))(hs:A9 P k=some sz)(D:Ab i len=true):
  (Instr.indexAt t (.slice (some a) len cap) (.int kd i)).run P w=.ok (.pointer (some (a.add (i.toNat*sz)))) w:=by
 obtain⟨G,I⟩:=M6 D
 simp[Instr.indexAt,asIntOf,run_underlying C,G,I,Bw hs]
def FN{t k:TypeId}{kd:IntKind}{i:Int}{len sz:Nat}{a:Addr}(C:P.underlying t=some (.array len k))(hs:A9 P k=some sz)(D:Ab i len=true):
  (Instr.indexAt t (.pointer (some a)) (.int kd i)).run P w=.ok (.pointer (some (a.add (i.toNat*sz)))) w:=by
 obtain⟨G,I⟩:=M6 D
 simp[Instr.indexAt,asIntOf,run_underlying C,G,I,Bw hs,Instr.sureAddr]
def NP{t:TypeId}{x i:AV}{vx vi:Value}{k:AV->O R}(hh:M0 P t x i k=some r)(D:Rep J β h w x vx)(hi:Rep J β h w i vi):
  ∃ v vc,k v=some r/\(Instr.indexAt t vx vi).run P w=.ok vc w/\Rep J β h w v vc:=by
 unfold M0 at hh
 split at hh
 ·rename_i T c len sz tight org kd i G
  obtain⟨Y,hs,I⟩:=ub hh
  obtain⟨he,h2⟩:=uc I
  obtain⟨C,L⟩:=uc h2
  have he':Y=sz:=by simp at he;exact he.symm
  subst he'
  rw[Rep]at hi;subst hi
  rw[Rep,RepC]at D
  obtain⟨hlen,A,cap,rfl,hcap,_,hA⟩:=D
  rcases hA with hA|⟨a,rfl,hj,hc⟩
  ·have:=M6 C;omega
  refine⟨_,_,L,FM G hs C,?_⟩
  rw[Rep,RepC]
  exact⟨_,rfl,by rw[M5];exact hj,JP hc _⟩
 ·rename_i T b off len kd i G
  obtain⟨sz,hs,I⟩:=ub hh
  obtain⟨C,L⟩:=uc I
  rw[Rep]at hi;subst hi
  obtain⟨kk,o,cap,rfl,h4⟩:=sD (i.toNat*sz) D (by have:=M6 C;omega)
  exact⟨_,_,L,FM G hs C,by rw[Addr.add_mid];exact h4⟩
 ·rename_i len T c org kd i G
  obtain⟨sz,hs,I⟩:=ub hh
  obtain⟨C,L⟩:=uc I
  rw[Rep]at hi;subst hi
  rw[Rep,RepC]at D
  obtain⟨a,rfl,hj,hc⟩:=D
  refine⟨_,_,L,FN G hs C,?_⟩
  rw[Rep,RepC]
  exact⟨_,rfl,by rw[M5];exact hj,JP hc _⟩
 ·rename_i len T b off kd i G
  obtain⟨sz,hs,I⟩:=ub hh
  obtain⟨C,L⟩:=uc I
  rw[Rep]at hi;subst hi
  rw[Rep]at D
  obtain⟨y,kk,o,hy,rfl,h4⟩:=D
  refine⟨_,_,L,FN G hs C,?_⟩
  rw[Rep,Addr.add_mid]
  exact⟨y,kk,o,hy,by rw[Aaf],h4⟩
 ·simp at hh
def JQ{t:TypeId}{f:Nat}{p:Nat×TypeId}(k:T' P t f=some p):∃ fs fd,P.underlying t=some (.struct fs)/\fs[f]?=some fd/\fd.offset=p.1/\fd.type=p.2:=by
 unfold T' at k
 split at k
 ·rename_i fs C
  cases hq:fs[f]? with
  |none=>simp[hq]at k
  |some fd=>simp[hq]at k;subst k;exact⟨fs,fd,C,hq,rfl,rfl⟩
 ·simp at k
def NQ{t:TypeId}{x:AV}{f:Nat}{vx:Value}{k:AV->O R}(hh:M1 P t x f k=some r)(C:Rep J β h w x vx):
  ∃ v vc,k v=some r/\(Instr.fieldAt t vx f).run P w=.ok vc w/\Rep J β h w v vc:=by
 unfold M1 at hh
 obtain⟨p,I,L⟩:=ub hh
 obtain⟨n,T,Y⟩:=ub L
 obtain⟨h0,D⟩:=kO Y
 obtain⟨fs,fd,hu,hf,ho,ht⟩:=JQ I
 have G:n≠0:=by intro e;subst e;simp at h0
 have run:∀ a:Addr,(Instr.fieldAt t (.pointer (some a)) f).run P w=.ok (.pointer (some (a.add p.1))) w:=fun a=>by
  simp[Instr.fieldAt,run_underlying hu,hf,Instr.sureAddr,fieldPlace,ht,Bw T,G,ho]
 split at D
 ·rw[Rep,RepC]at C
  obtain⟨a,rfl,hj,hc⟩:=C
  refine⟨_,_,D,run a,?_⟩
  rw[Rep,RepC]
  exact⟨_,rfl,by rw[M5];exact hj,JP hc _⟩
 ·rw[Rep]at C
  obtain⟨y,kk,o,hy,rfl,h4⟩:=C
  refine⟨_,_,D,run _,?_⟩
  rw[Rep,Addr.add_mid]
  exact⟨y,kk,o,hy,by rw[Aaf],h4⟩
 ·simp at D
def eS{t:TypeId}{x:AV}{f:Nat}{vx:Value}{k:AV->O R}(hh:NB P t x f k=some r)(C:Rep J β h w x vx):
  ∃ v vc,k v=some r/\(Instr.field t vx f).run P w=.ok vc w/\Rep J β h w v vc:=by
 unfold NB at hh
 obtain⟨p,hp,D⟩:=ub hh
 obtain⟨fs,fd,hu,hf,ho,ht⟩:=JQ hp
 split at D
 ·rename_i c org
  rw[Rep]at C
  obtain⟨cs,rfl,hl,hc⟩:=C
  obtain⟨v,G,I⟩:=Oc (β:=β) (h:=h) D (hc.drop p.1)
  obtain⟨vc,L,T⟩:=N0 I
  exact⟨v,vc,G,by simp[Instr.field,run_underlying hu,hf,asAgg,ht,ho,L],T⟩
 ·rename_i c
  rw[Rep]at C
  obtain⟨cs,rfl,hc⟩:=C
  rw[Bq]at hc
  obtain⟨v,G,I⟩:=BE (J:=J) (β:=β) (h:=h) (w:=w) (rd:=fun j=>cs[p.1+j]?) D (fun j y Y=>by
   rw[zk]at Y
   have:p.1+j<cs.length:=by
    rw[hc.1];exact(zK.1 Y).1
   exact⟨cs[p.1+j],zD this,hc.2 _ _ _ Y (zD this)⟩)
  obtain⟨vc,L,T⟩:=N0 I
  exact⟨v,vc,G,by simp[Instr.field,run_underlying hu,hf,asAgg,ht,ho,L],T⟩
 ·simp at D
def eT{t:TypeId}{x i:AV}{vx vi:Value}{k:AV->O R}(hh:NC P t x i k=some r)(C:Rep J β h w x vx)(hi:Rep J β h w i vi):
  ∃ v vc,k v=some r/\(Instr.index t vx vi).run P w=.ok vc w/\Rep J β h w v vc:=by
 unfold NC at hh
 split at hh
 ·rename_i s kd i D
  obtain⟨G,I⟩:=uc hh
  obtain⟨L,Y⟩:=M6 G
  rw[Rep]at hi;rw[Rep]at C;subst hi C
  have T:i.toNat<s.length:=by omega
  refine⟨_,.int .u8 ((s.getD i.toNat 0).toNat:Int),I,?_,by rw[Rep]⟩
  have hg:(⟨⟨s⟩⟩:ByteArray)[i.toNat]?=some s[i.toNat]:=by
   have:i.toNat<(⟨⟨s⟩⟩:ByteArray).size:=T
   rw[getElem?_pos (⟨⟨s⟩⟩:ByteArray) i.toNat this];rfl
  simp only[Instr.index,asIntOf,Sem.run_bind,Sem.run_pure,Result.andThen_ok,run_underlying D,L,if_true,hg,zO,zD T,Option.getD_some]
 ·rename_i len el c org kd i D
  obtain⟨sz,hs,I⟩:=ub hh
  obtain⟨G,Y⟩:=uc I
  obtain⟨L,h3⟩:=M6 G
  rw[Rep]at hi;rw[Rep]at C;subst hi
  obtain⟨cs,rfl,hl,hc⟩:=C
  obtain⟨v,h4,h5⟩:=Oc (β:=β) (h:=h) Y (hc.drop (i.toNat*sz))
  obtain⟨vc,h6,h7⟩:=N0 h5
  exact⟨v,vc,h4,by simp[Instr.index,asIntOf,run_underlying D,L,h3,Bw hs,h6],h7⟩
 ·rename_i len el c kd i D
  obtain⟨sz,hs,I⟩:=ub hh
  obtain⟨G,Y⟩:=uc I
  obtain⟨L,h3⟩:=M6 G
  rw[Rep]at hi;rw[Rep]at C;subst hi
  obtain⟨cs,rfl,hc⟩:=C
  rw[Bq]at hc
  obtain⟨v,h4,h5⟩:=BE (J:=J) (β:=β) (h:=h) (w:=w) (rd:=fun j=>cs[i.toNat*sz+j]?) (JO Y) (fun j y hj=>by
   rw[zk]at hj
   have:i.toNat*sz+j<cs.length:=by
    rw[hc.1];exact(zK.1 hj).1
   exact⟨cs[i.toNat*sz+j],zD this,hc.2 _ _ _ hj (zD this)⟩)
  obtain⟨vc,h6,h7⟩:=N0 h5
  exact⟨v,vc,h4,by simp[Instr.index,asIntOf,run_underlying D,L,h3,Bw hs,h6],h7⟩
 ·simp at hh
def Oy(J:Bool->Nat->Prop)(β:Bt)(h:Ap)(w:World):Option AV->Option Value->Prop
|none,none=>True
|some x,some v=>Rep J β h w x v
|_,_=>False
def BF{o:Option AV}{vo:Option Value}{d:Nat}{i:Int}(C:JJ o d=some i)(D:Oy J β h w o vo):
  (o=none/\vo=none/\i=d)\/∃ k,vo=some (.int k i):=by
 unfold JJ at C
 split at C
 ·simp at C;subst C
  cases vo with
  |none=>exact .inl ⟨rfl,rfl,rfl⟩
  |some v=>simp[Oy]at D
 ·rename_i k j
  simp at C;subst C
  cases vo with
  |none=>simp[Oy]at D
  |some v=>rw[Oy,Rep]at D;subst D;exact .inr ⟨k,rfl⟩
 ·simp at C
def N1{lo hi mx:Option AV}{vlo vhi vmx:Option Value}{n cap:Nat}{k:Nat->Nat->O R}{isSlice:Bool}(hh:P4 lo hi mx n k=some r)
  (Y:Oy J β h w lo vlo)
  (G:Oy J β h w hi vhi)
  (I:Oy J β h w mx vmx) (hcap:n<=cap) :
  ∃ l D m,k l D=some r/\l<=D/\D<=n/\D<=m/\m<=cap/\(mx=none->m=cap)/\(∀ kd i,vmx=some (.int kd i)->(m:Int)=i)/\(∀ kd i,vhi=some (.int kd i)->(D:Int)=i)/\(hi=none->D=n) /\
   (Instr.sliceBounds isSlice n cap vlo vhi vmx).run P w=.ok (l,D,m) w:=by
 unfold P4 at hh
 obtain⟨l,h1,h2⟩:=ub hh
 obtain⟨C,h3,h4⟩:=ub h2
 obtain⟨m,h5,h6⟩:=ub h4
 obtain⟨hm,h6⟩:=kO h6
 obtain⟨hc,h7⟩:=uc h6
 simp at hc hm
 obtain⟨c1,c2,c3,c4⟩:=hc
 have run:∀(kd:IntKind)(i:Int)(y:Nat)(code:BoundsCode),0<=i->i<=(y:Int)->(Instr.sliceBound (.int kd i) y code).run P w=.ok i.toNat w:=fun kd i y code a b=>by
  simp[Instr.sliceBound,asIntOf,a,b]
 have bl:=BF (J:=J) (β:=β) (h:=h) (w:=w) h1 Y
 have bh:=BF (J:=J) (β:=β) (h:=h) (w:=w) h3 G
 have bm:=BF (J:=J) (β:=β) (h:=h) (w:=w) h5 I
 rcases bm with⟨rfl,rfl,rfl⟩|⟨km,rfl⟩
 ·refine⟨l.toNat,C.toNat,cap,h7,by omega,by omega,by omega,by omega,fun _=>rfl,by simp,?_,?_,?_⟩
  ·intro kd i L
   rcases bh with⟨_,rfl,_⟩|⟨kh,rfl⟩
   ·simp at L
   ·simp at L;omega
  ·intro T
   rcases bh with⟨_,_,rfl⟩|⟨kh,rfl⟩
   ·simp
   ·subst T;simp[Oy]at G
  ·rcases bh with⟨_,rfl,rfl⟩|⟨kh,rfl⟩<;>rcases bl with⟨_,rfl,rfl⟩|⟨kl,rfl⟩
   ·simp[Instr.sliceBounds]
   ·simp[Instr.sliceBounds,run _ l n _ c1 (by omega)]
   ·simp[Instr.sliceBounds,run _ C cap _ (by omega) (by omega)]
   ·simp[Instr.sliceBounds,run _ C cap _ (by omega) (by omega),run _ l C.toNat _ c1 (by omega)]
 ·rcases bh with⟨rfl,rfl,rfl⟩|⟨kh,rfl⟩
  ·have:mx.isSome=true:=by
    cases mx with
    |none=>simp[Oy]at I
    |some _=>rfl
   have:=hm this;simp at this
  ·refine⟨l.toNat,C.toNat,m.toNat,h7,by omega,by omega,by omega,by omega,?_,?_,?_,?_,?_⟩
   ·intro T;subst T;simp[Oy]at I
   ·intro kd i L;simp at L;omega
   ·intro kd i L;simp at L;omega
   ·intro T;subst T;simp[Oy]at G
   ·rcases bl with⟨_,rfl,rfl⟩|⟨kl,rfl⟩
    ·simp[Instr.sliceBounds,run _ m cap _ (by omega) (by omega),run _ C m.toNat _ (by omega) (by omega)]
    ·simp[Instr.sliceBounds,run _ m cap _ (by omega) (by omega),run _ C m.toNat _ (by omega) (by omega),run _ l C.toNat _ c1 (by omega)]
def eV {t:TypeId} {x:AV} {lo hi mx:Option AV} {vx:Value} {vlo vhi vmx:Option Value} {k:AV->O R} (S:SimH J β h w) (hl:Looks g h) (hh:ND P g t x lo hi mx k=some r)
  (hx:Rep J β h w x vx) (hlo:Oy J β h w lo vlo) (D:Oy J β h w hi vhi) (L:Oy J β h w mx vmx) :
  ∃ v vc,k v=some r/\(Instr.sliceAt t vx vlo vhi vmx).run P w=.ok vc w/\Rep J β h w v vc:=by
 unfold ND at hh
 split at hh
 ·rename_i s hu
  obtain⟨hm,h1⟩:=kO hh
  have hmn:mx=none:=by cases mx<;>simp_all
  subst hmn
  have hv:vmx=none:=by cases vmx<;>simp_all[Oy]
  subst hv
  rw[Rep]at hx;subst hx
  obtain⟨l,C,m,h2,h3,h4,_,_,h5,_,_,_,h6⟩:=N1 (P:=P) (isSlice:=false) h1 hlo D (vmx:=none) (by simp[Oy]) (zE _)
  refine⟨_,_,h2,?_,by rw[Rep]⟩
  have hs:(⟨⟨s⟩⟩:ByteArray).size=s.length:=rfl
  have he:(⟨⟨s⟩⟩:ByteArray).extract l C=⟨⟨(s.drop l).take (C - l)⟩⟩:=by
   apply ByteArray.ext
   rw[ByteArray.data_extract]
   simp
  simp[Instr.sliceAt,Instr.slice,run_underlying hu,hs,h6,he]
 ·rename_i el hu
  rw[Rep]at hx;subst hx
  obtain⟨sz,hs,hh⟩:=ub hh
  obtain⟨l,C,m,h2,h3,h4,h5,h6,_,_,_,_,h7⟩:=N1 (P:=P) (isSlice:=true) hh hlo D L (zE _)
  have:l=0:=by omega
  have:C=0:=by omega
  have:m=0:=by omega
  subst l;subst C;subst m
  refine⟨_,.slice none 0 0,h2,?_,by rw[Rep]⟩
  simp[Instr.sliceAt,Instr.slice,run_underlying hu,h7,Bw hs]
 ·rename_i el c n sz tight org hu
  obtain⟨sz',hs,h1⟩:=ub hh
  obtain⟨he,h2⟩:=uc h1
  have he':sz'=sz:=by simp at he;exact he.symm
  subst he'
  rw[Rep,RepC]at hx
  obtain⟨hlen,A,cap,rfl,T,ht,hA⟩:=hx
  obtain⟨l,C,m,h3,h4,h5,h6,h7,h8,h9,h10,h11,h12⟩:=N1 (P:=P) (isSlice:=true) h2 hlo D L T
  refine⟨_,.slice (if m=l then A else A.map (·.add (l*sz'))) (C - l) (m - l),h3,?_,?_⟩
  ·simp[Instr.sliceAt,Instr.slice,run_underlying hu,h12,Bw hs]
  ·rw[Rep,RepC]
   refine⟨?_,_,_,rfl,by omega,?_,?_⟩
   ·simp;rw[hlen,<-Nat.sub_mul]
    exact zZ (zI _ (by omega))
   ·intro Y
    unfold mN at Y
    split at Y
    ·have:=ht Y
     have:=h8 rfl
     have:=h11 rfl
     omega
    ·rename_i ka a kb b
     cases vhi with
     |none=>simp[Oy]at D
     | some u1=>cases vmx with
      |none=>simp[Oy]at L
      |some u2 =>
       rw[Oy,Rep]at D L;subst D L
       have e1:=h10 _ _ rfl
       have e2:=h9 _ _ rfl
       simp at Y
       omega
    ·simp at Y
   ·by_cases hz:C - l=0
    ·exact .inl hz
    ·right
     rcases hA with hA|⟨a,rfl,hj,hc⟩
     ·omega
     ·refine⟨a.add (l*sz'),by rw[if_neg (by omega)];rfl,by rw[M5];exact hj,(JP hc _).take _⟩
 ·rename_i el b off n hu
  obtain⟨sz,hs,h1⟩:=ub hh
  obtain⟨y,hy,h2⟩:=ub h1
  obtain⟨he,h3⟩:=uc h2
  obtain⟨hb,hd⟩:=Cu hl hy
  have he':sz=y.sz:=by simpa using he
  rw[Rep]at hx
  obtain⟨x,A,cap,⟨G,hmp⟩,rfl,T,I⟩:=hx
  rw[hb]at G;simp at G;subst G
  obtain⟨l,C,m,h4,h5,h6,h7,h8,_,_,_,_,h9⟩:=N1 (P:=P) (isSlice:=true) h3 hlo D L T
  refine⟨_,.slice (if m=l then A else A.map (·.add (l*sz))) (C - l) (m - l),h4,?_,?_⟩
  ·simp[Instr.sliceAt,Instr.slice,run_underlying hu,h9,Bw hs]
  ·rw[Rep]
   refine⟨y,_,_,⟨hb,hmp⟩,rfl,by omega,?_⟩
   by_cases hz:m - l=0
   ·exact .inl hz
   ·right
    rcases I with I|⟨kk,o,rfl,I⟩
    ·omega
    ·refine⟨kk,o,by rw[if_neg (by omega)];simp[Addr.add_mid,Aaf],?_⟩
     rcases I with I|⟨r1,r2,r3⟩
     ·simp[hd]at I
     ·refine .inr ⟨r1,?_,?_⟩
      ·have:l*sz+(m - l)*y.sz<=cap*y.sz:=by
        rw[he',<-zS];exact zI _ (by omega)
       omega
      ·have:l*sz+(C - l)*y.sz<=n*y.sz:=by
        rw[he',<-zS];exact zI _ (by omega)
       omega
 ·rename_i n el b off hu
  obtain⟨sz,hs,h1⟩:=ub hh
  obtain⟨y,hy,h2⟩:=ub h1
  obtain⟨he,h3⟩:=uc h2
  simp at he
  obtain⟨e1,e2,e3,e4,e5⟩:=he
  subst e3;subst e4;subst e5
  obtain⟨hb,hd⟩:=Cu hl hy
  have nlo:vlo=none:=by cases vlo<;>simp_all[Oy]
  have nhi:vhi=none:=by cases vhi<;>simp_all[Oy]
  have nmx:vmx=none:=by cases vmx<;>simp_all[Oy]
  subst nlo;subst nhi;subst nmx
  rw[Rep]at hx
  obtain⟨x,kk,o,⟨G,hmp⟩,rfl,I⟩:=hx
  rw[hb]at G;simp at G;subst G
  refine⟨_,.slice (some ⟨kk,o+off,none⟩) n n,h3,?_,?_⟩
  ·have e1:(Addr.add ⟨kk,o+off,none⟩ 0)=⟨kk,o+off,none⟩:=rfl
   simp[Instr.sliceAt,Instr.sureAddr,run_underlying hu,Instr.sliceBounds,Bw hs,e1]
  ·rw[Rep]
   refine⟨y,_,_,⟨hb,hmp⟩,rfl,zE _,.inr ⟨kk,o,rfl,?_⟩⟩
   rcases I with I|I
   ·exact .inl I
   ·rcases S.blk b y hb hd hmp with⟨hn',_⟩|⟨k',o',cs,ty',fr,hβ',g1,g2,g3,_⟩
    ·rw[I]at hn';simp at hn'
    ·rw[I]at hβ';simp at hβ';obtain⟨rfl,rfl⟩:=hβ'
     refine .inr ⟨I,?_,?_⟩
     ·rw[e1,show Aw w kk=cs.size by simp[Aw,g1]];omega
     ·rw[e1];omega
 ·simp at hh
def kY{t:TypeId}{x v:AV}{vx:Value}{ty:TypeId}(hh:tp P t x=some v)(C:Rep J β h w x vx):
  ∃ vc,(Builtin.len_ #[t] ty #[vx]).run P w=.ok vc w/\Rep J β h w v vc:=by
 unfold tp at hh
 split at hh
 ·rename_i k
  simp at hh;subst hh;rw[Rep]at C;subst C
  exact⟨.int .i64 0,by simp[Builtin.len_,run_underlying k,goInt],by rw[Rep]⟩
 ·rename_i n _ _ _ k
  simp at hh;subst hh;rw[Rep,RepC]at C
  obtain⟨_,A,cap,rfl,_⟩:=C
  exact⟨.int .i64 n,by simp[Builtin.len_,run_underlying k,goInt],by rw[Rep]⟩
 ·rename_i n k
  simp at hh;subst hh;rw[Rep]at C
  obtain⟨_,A,cap,_,rfl,_⟩:=C
  exact⟨.int .i64 n,by simp[Builtin.len_,run_underlying k,goInt],by rw[Rep]⟩
 ·rename_i s k
  simp at hh;subst hh;rw[Rep]at C;subst C
  refine⟨.int .i64 s.length,?_,by rw[Rep]⟩
  have hs:(⟨⟨s⟩⟩:ByteArray).size=s.length:=rfl
  simp[Builtin.len_,run_underlying k,goInt,hs]
 ·rename_i n _ k
  simp at hh;subst hh
  exact⟨.int .i64 n,by simp[Builtin.len_,run_underlying k,goInt],by rw[Rep]⟩
 ·simp at hh
def JR{J:Nat->Prop}:∀{x:AV}{u:Value},RepC J w x u->u.oneCell'=true
|.int ..,_,k=>by rw[RepC]at k;subst k;rfl
|.bool _,_,k=>by rw[RepC]at k;subst k;rfl
|.str _,_,k=>by rw[RepC]at k;subst k;rfl
|.nsl,_,k=>by rw[RepC]at k;subst k;rfl
|.imm ..,_,k=>by rw[RepC]at k;obtain⟨_,A,cap,rfl,_⟩:=k;rfl
|.iptr ..,_,k=>by rw[RepC]at k;obtain⟨a,rfl,_⟩:=k;rfl
|.nilptr,_,k=>by rw[RepC]at k;subst k;rfl
|.nilfn,_,k=>by rw[RepC]at k;subst k;rfl
|.fn _ [],_,k=>by rw[RepC]at k;subst k;rfl
|.fn _ (_::_),_,k=>by simp[RepC]at k
|.pagg ..,_,k=>by simp[RepC]at k
|.agg _,_,k=>by simp[RepC]at k
|.tup _,_,k=>by simp[RepC]at k
|.own ..,_,k=>by simp[RepC]at k
|.optr ..,_,k=>by simp[RepC]at k
|.undef,_,k=>by simp[RepC]at k
|.omap _,_,k=>by simp[RepC]at k
def RepCs.one{J:Nat->Prop}{c:LA}{us:List Value}(hc:RepCs J w c (fun j=>us[j]?) 0)(L:us.length=c.length):∀ u∈us,u.oneCell'=true:=by
 intro u D
 obtain⟨j,G,rfl⟩:=Aey D
 have C:j<c.length:=by omega
 obtain⟨T,k,I⟩:=hc.at (zD C)
 simp[zD G]at k
 rw[k];exact JR I
structure Yield(P:Program)(w:World)(sz:Nat)(vx:Value)(n:Nat)(us:List Value):Prop where
 len:∀ w':World,(Builtin.lenOf vx).run P w'=.ok n w'
 cells:∀(w':World)(m:Nat),(∀ a,w'.cell? a=w.cell? a)->m<=n->(Builtin.firstCells sz m vx).run P w'=.ok (us.take (m*sz)).toArray w'
 length:us.length=n*sz
def QK{sz:Nat}{x:AV}{vx:Value}{q:LA×Nat×Bool}(S:SimH J β h w)(hl:Looks g h)(hh:bI g sz x=some q)(G:Rep J β h w x vx):
  ∃ us:List Value,Yield P w sz vx q.2.1 us/\q.1.length=us.length/\RepCs (J q.2.2) w q.1 (fun j=>us[j]?) 0:=by
 have ofSlice:∀(a:Addr)(n cap:Nat)(us:List Value),us.length=n*sz->(∀ j u,us[j]?=some u->w.cell? (a.add j)=some u)->Yield P w sz (.slice (some a) n cap) n us:=fun a n cap us C hu =>
  ⟨fun _=>rfl,fun w' m D hm=>by
   have hle:m*sz<=n*sz:=zI _ hm
   refine run_firstCells_some (P:=P) w' sz m a n cap (us.take (m*sz)) (by simp;omega) (fun j v hv=>?_)
   rw[D]
   rw[Aau]at hv
   split at hv
   ·exact hu j v hv
   ·simp at hv,C⟩
 have ofEmpty:∀(A:Option Addr)(cap:Nat),Yield P w sz (.slice A 0 cap) 0 []:=fun A cap =>
  ⟨fun _=>rfl,fun w' m D hm=>by
   have:m=0:=by omega
   subst this
   cases A with
   |none=>simp[run_firstCells_none]
   | some a=>have:=run_firstCells_some (P:=P) w' sz 0 a 0 cap [] (by simp) (fun j v hv=>by simp at hv);simpa using this,by simp⟩
 unfold bI at hh
 split at hh
 ·simp at hh;subst hh;rw[Rep]at G;subst G
  exact⟨[],ofEmpty _ _,rfl,by simp[RepCs]⟩
 ·rename_i c n sz' tight org
  obtain⟨D,L⟩:=uc hh
  have he':sz'=sz:=by simp at D;exact D.symm
  subst he'
  simp at L;subst L
  rw[Rep,RepC]at G
  obtain⟨C,A,cap,rfl,hcap,ht,hA⟩:=G
  rcases hA with rfl|⟨a,rfl,hj,hc⟩
  ·have:c=[]:=by simpa using C
   subst this
   exact⟨[],ofEmpty _ _,rfl,by simp[RepCs]⟩
  ·obtain⟨us,I,h3,h4⟩:=hc.list
   exact⟨us,ofSlice a n cap us (by rw[I,C]) h3,I.symm,h4⟩
 ·rename_i b off n
  obtain⟨y,hy,L⟩:=ub hh
  obtain⟨D,I⟩:=uc L
  obtain⟨hb,hd⟩:=Cu hl hy
  simp at D I
  obtain⟨hp,D⟩:=D
  subst I;subst D
  rw[Rep]at G
  obtain⟨x,A,cap,⟨T,hmp⟩,rfl,hcap,hr⟩:=G
  rw[hb]at T;simp at T;subst T
  rcases hr with hr|⟨kk,o,rfl,hr⟩
  ·have:n=0:=by omega
   subst this
   exact⟨[],ofEmpty _ _,by simp,by simp[RepCs]⟩
  ·rcases hr with hr|⟨r1,r2,r3⟩
   ·simp[hd]at hr
   ·rcases S.blk b y hb hd hmp with⟨hn,_⟩|⟨k',o',cs,ty,fr,Y,g1,g2,g3,g4,g5,g6⟩
    ·rw[r1]at hn;simp at hn
    ·rw[r1]at Y;simp at Y;obtain⟨rfl,rfl⟩:=Y
     obtain⟨us,I,h3,h4⟩:=(((g4.1 hp).drop off).take (n*y.sz)).list
     have C:us.length=n*y.sz:=by rw[I];simp;omega
     refine⟨us,ofSlice _ n cap us C (fun j u hj=>?_),I.symm,h4⟩
     have:=h3 j u hj
     rw[Addr.add_mid,Iu g1,Aaf];exact this
 ·rename_i s
  obtain⟨D,L⟩:=uc hh
  simp at D L
  subst D;subst L
  rw[Rep]at G;subst G
  refine⟨s.map fun b=>.int .u8 (b.toNat:Int),⟨fun _=>rfl,fun w' m _ hm=>?_,by simp⟩,by simp,?_⟩
  ·simp[Builtin.firstCells]
  ·rw[Bh]
   intro j x hj
   simp at hj
   obtain⟨b,hb,rfl⟩:=hj
   exact⟨_,by simp[hb];rfl,by rw[RepC]⟩
 ·simp at hh
def Xj{I:TypeId}{sz:Nat}{x:AV}{vx:Value}{k:LA×Nat×Bool->O R}(S:SimH J β h w)(L:Looks g h)(hh:G' P I g sz x k=some r)(T:Rep J β h w x vx):
  ∃(q:LA×Nat×Bool)(us:List Value),k q=some r/\Yield P w sz vx q.2.1 us/\q.1.length=us.length/\RepCs (J q.2.2) w q.1 (fun j=>us[j]?) 0:=by
 unfold G' at hh
 obtain⟨q,hq,h1⟩:=ub hh
 obtain⟨us,Y,C,D⟩:=QK (P:=P) S L hq T
 obtain⟨o,h2,h3⟩:=FK h1 D
 exact⟨_,us,h2,Y,C,h3⟩
end
end Gx
namespace Gx
open Go
def AK{a b:Nat}(h:a≠b):beq a b=false:=by
 cases k:beq a b with
|false=>rfl
|true=>exact absurd (zM k) h
def Pf{a b:Nat}(h:beq a b=false):a≠b:=fun e=>by subst e;rw[Nat.beq_refl]at h;cases h
def Ae:∀(h:Ap)(b:Nat)(y:Blk)(c:Nat),Ah (D2 h b y) c=if c=b then some y else Ah h c
| [],b,y,c=>by
  by_cases e:c=b
  ·subst e;simp[D2,Ah]
  ·have:beq b c=false:=AK (fun e'=>e e'.symm)
   simp[D2,Ah,e,this]
| (i,x)::r,b,y,c=>by
  rw[D2]
  cases D:beq i b with
  | true =>
   have k:i=b:=by simpa using D
   subst k
   by_cases e:c=i
   ·subst e;simp[Ah]
   ·have:beq i c=false:=AK (fun e'=>e e'.symm)
    simp[Ah,e,this]
  | false =>
   have k:i≠b:=Pf D
   cases I:Nat.blt b i with
   | true =>
    by_cases e:c=b
    ·subst e;simp[Ah]
    ·have:beq b c=false:=AK (fun e'=>e e'.symm)
     simp[Ah,e,this]
   | false =>
    simp only[cond_false]
    rw[Ah]
    cases G:beq i c with
    |true =>
     have C:i=c:=by simpa using G
     subst C
     simp[Ah,k]
    |false=>simp[Ah,G,Ae r b y c]
def H5:∀(h:Ff)(b:Nat)(y:AV)(c:Nat),Es (AW h b y) c=if c=b then y else Es h c
| [],b,y,c=>by
  by_cases e:c=b
  ·subst e;simp[AW,Es]
  ·have:beq b c=false:=AK (fun e'=>e e'.symm)
   simp[AW,Es,e,this]
| (i,x)::r,b,y,c=>by
  rw[AW]
  cases D:beq i b with
  | true =>
   have k:i=b:=by simpa using D
   subst k
   by_cases e:c=i
   ·subst e;simp[Es]
   ·have:beq i c=false:=AK (fun e'=>e e'.symm)
    simp[Es,e,this]
  | false =>
   have k:i≠b:=Pf D
   cases I:Nat.blt b i with
   | true =>
    by_cases e:c=b
    ·subst e;simp[Es]
    ·have:beq b c=false:=AK (fun e'=>e e'.symm)
     simp[Es,e,this]
   | false =>
    simp only[cond_false]
    rw[Es]
    cases G:beq i c with
    |true =>
     have C:i=c:=by simpa using G
     subst C
     simp[Es,k]
    |false=>simp[Es,G,H5 r b y c]
def iJ(β:Bt)(h:Ap)(k:Nat):Prop:=∃ b x o,Ah h b=some x/\x.dead=false/\x.sealed=false/\β b=some (k,o)
structure Step(J:Bool->Nat->Prop)(β:Bt)(h:Ap)(w:World)(J':Bool->Nat->Prop)(β':Bt)(h':Ap)(w':World):Prop where
 ext:Ext J β h w J' β' h' w'
 sim:SimH J' β' h' w'
 os:w'.os=w.os
 tape:w'.tape=w.tape
 output:w'.output=w.output
 size:w.heap.size<=w'.heap.size
 frame:∀ k,k<w.heap.size->¬ iJ β h k->w'.heap[k]?=w.heap[k]?
 wr:∀ k,iJ β' h' k->k<w.heap.size->iJ β h k
 jup:∀ o k,J' o k->J o k\/iJ β h k\/w.heap.size<=k
section
variable{J J' J'':Bool->Nat->Prop}{β β' β'':Bt}{h h' h'':Ap}{w w' w'':World}
def Ext.refl:Ext J β h w J β h w:=⟨fun _ _ k=>k,fun _ _ _=>rfl,fun b x C=>⟨x,⟨C,rfl⟩,by cases D:x.dead<;>simp⟩,fun _ _ _ _=>zE _⟩
def Ext.trans(A:Ext J β h w J' β' h' w')(B:Ext J' β' h' w' J'' β'' h'' w'')(hs:∀ b k o,β b=some (k,o)->Aw w k<=Aw w'' k):Ext J β h w J'' β'' h'' w'' where
 jsub o k D:=B.jsub o k (A.jsub o k D)
 keep o k D:=(B.keep o k (A.jsub o k D)).trans (A.keep o k D)
 blk b x L:=by
  obtain⟨x',⟨T,m1⟩,G⟩:=A.blk b x L
  obtain⟨x'',⟨Y,m3⟩,C⟩:=B.blk b x' T
  refine⟨x'',⟨Y,m3.trans m1⟩,?_⟩
  rcases C with C|⟨C,h5,h6,h7⟩
  ·exact .inl C
  ·rcases G with G|⟨g1,g2,g3,g4⟩
   ·simp[C]at G
   ·exact .inr ⟨g1,h5.trans g2,h6.trans g3,fun I=>(h7 (m1.trans I)).trans (g4 I)⟩
 size:=hs
def Step.refl(S:SimH J β h w):Step J β h w J β h w:=⟨Ext.refl,S,rfl,rfl,rfl,zE _,fun _ _ _=>rfl,fun _ k _=>k,fun _ _ C=>.inl C⟩
def Step.trans(A:Step J β h w J' β' h' w')(B:Step J' β' h' w' J'' β'' h'' w'')(hs:∀ b k o,β b=some (k,o)->Aw w k<=Aw w'' k):Step J β h w J'' β'' h'' w'' where
 ext:=A.ext.trans B.ext hs
 sim:=B.sim
 os:=B.os.trans A.os
 tape:=B.tape.trans A.tape
 output:=B.output.trans A.output
 size:=Aal A.size B.size
 frame k C G:=(B.frame k (zV C A.size) (fun I=>G (A.wr k I C))).trans (A.frame k C G)
 wr k G C:=A.wr k (B.wr k G (zV C A.size)) C
 jup o k L:=by
  rcases B.jup o k L with D|D|D
  ·exact A.jup o k D
  ·by_cases C:k<w.heap.size
   ·exact .inr (.inl (A.wr k D C))
   ·exact .inr (.inr (by omega))
  ·exact .inr (.inr (Aal A.size D))
def CellsRep.ext(E:Ext J β h w J' β' h' w'){x:Blk}{rd:Nat->Option Value}(hc:CellsRep J β h w x rd):CellsRep J' β' h' w' x rd :=
 ⟨fun k=>RepCs.keep (E.jsub _) (E.keep _) (fun _=>rfl) (hc.1 k),fun k j c C=>by
  obtain⟨u,D,G,I⟩:=hc.2 k j c C
  exact⟨u,D,Rep.ext E G,I⟩⟩
def C0{k:Nat}{cs:Array Value}{ty:TypeId}{fr:Nat×Nat}(C:w.heap[k]?=some (.cells cs ty fr)):Aw w k=cs.size:=by simp[Aw,C]
def P5{k:Nat}{o:Obj}(G:w.heap[k]?=some o):k<w.heap.size:=by
 rcases Ado k w.heap.size with C|D
 ·exact C
 ·rw[Aas D]at G;cases G
def MapRep.keep{b:Nat}{x:Blk}(M:MapRep J β w b x)(D:β' b=β b)(G:∀ k o,β b=some (k,o)->w'.heap[k]?=w.heap[k]?)(I:∀ g k o,β b=some (k,o)->J' g k->J g k):MapRep J' β' w' b x:=by
 obtain⟨L,T,k,ob,C,Y,h5,h6⟩:=M
 exact⟨L,T,k,ob,by rw[D];exact C,by rw[G k 0 C];exact Y,h5,fun g hg=>h6 g (I g k 0 C hg)⟩
def Step.drew(S:SimH J β h w):Step J β h w J β h w.drew where
 ext:=⟨fun _ _ C=>C,fun _ _ _=>rfl,fun b x D=>⟨x,⟨D,rfl⟩,by cases G:x.dead<;>simp⟩,fun _ _ _ _=>zE _⟩
 sim:=by
  have E:Ext J β h w J β h w.drew:=⟨fun _ _ C=>C,fun _ _ _=>rfl,fun b x D=>⟨x,⟨D,rfl⟩,by cases G:x.dead<;>simp⟩,fun _ _ _ _=>zE _⟩
  refine⟨S.jlt,S.jft,S.gl.ext E,fun b x D G I=>?_,fun b x D G I=>(S.mblk b x D G I).keep rfl (fun _ _ _=>rfl) (fun _ _ _ _ C=>C),S.sep⟩
  rcases S.blk b x D G I with L|⟨k,o,cs,ty,fr,L,T,Y,h4,h5,h6⟩
  ·exact .inl L
  ·exact .inr ⟨k,o,cs,ty,fr,L,T,Y,h4,h5.ext E,h6⟩
 os:=rfl
 tape:=rfl
 output:=rfl
 size:=zE _
 frame _ _ _:=rfl
 wr _ I _:=I
 jup _ _ C:=.inl C
def Cx(w:World)(o:Obj){k:Nat}(C:k<w.heap.size):(w.alloc o).heap[k]?=w.heap[k]?:=by
 show(w.heap.push o)[k]?=_
 rw[Array.getElem?_push,if_neg (by omega)]
def M7(S:SimH J β h w){b:Nat}{x:Blk}{k o:Nat}(I:Ah h b=some x)(L:x.dead=false)(D:β b=some (k,o)):k<w.heap.size:=by
 cases T:x.mp with
|false =>
  rcases S.blk b x I L T with⟨Y,_⟩|⟨k',o',cs,ty,fr,C,G,_⟩
  ·rw[D]at Y;simp at Y
  ·rw[D]at C;simp at C;obtain⟨rfl,rfl⟩:=C;exact P5 G
|true =>
  obtain⟨_,_,k',ob,C,G,_⟩:=S.mblk b x I L T
  rw[D]at C;simp at C;obtain⟨rfl,_⟩:=C;exact P5 G
def Step.new(S:SimH J β h w){d:Nat}{x:Blk}{cs:Array Value}{ty:TypeId}{fr:Nat×Nat}(hn:Ah h d=none)(hxd:x.dead=false)(hxs:x.sealed=false)
  (hfr:FrTy x.ty ty 0 cs.size fr) (hlen:x.cells.length<=cs.size) (hc:CellsRep J β h w x (fun j=>cs[j]?)) (hxm:x.mp=false:=by rfl) :
  Step J β h w J (fun b=>if b=d then some (w.heap.size,0)else β b) (D2 h d x) (w.alloc (.cells cs ty fr)):=by
 have ne:∀{b y},Ah h b=some y->b≠d:=fun C e=>by subst e;rw[hn]at C;cases C
 have E:Ext J β h w J (fun b=>if b=d then some (w.heap.size,0)else β b) (D2 h d x) (w.alloc (.cells cs ty fr)):=by
  refine⟨fun _ _ G=>G,fun o k G=>Cx w _ (S.jlt o k G),fun b y C=>⟨y,⟨by rw[Ae,if_neg (ne C)];exact C,rfl⟩,?_⟩,fun b k o D=>?_⟩
  ·cases T:y.dead
   ·exact .inr ⟨rfl,by simp[ne C],rfl,fun _=>rfl⟩
   ·exact .inl rfl
  ·by_cases Y:k<w.heap.size
   ·simp[Aw,Cx w _ Y]
   ·simp[Aw,Aas (Aa7 Y)]
 have hnew:(w.alloc (.cells cs ty fr)).heap[w.heap.size]?=some (.cells cs ty fr):=by
  show(w.heap.push _)[_]?=_;simp
 have hsz:(w.alloc (.cells cs ty fr)).heap.size=w.heap.size+1:=by show(w.heap.push _).size=_;simp
 refine⟨E,⟨fun o k G=>by have:=S.jlt o k G;omega,S.jft,S.gl.ext E,fun b y C T hm=>?_,fun b y C T hm=>by
   rw[Ae]at C
   by_cases e:b=d
   ·rw[if_pos e]at C;simp at C;subst C;simp[hxm]at hm
   ·rw[if_neg e]at C
    exact(S.mblk b y C T hm).keep (by simp[e]) (fun k o D=>Cx w _ (M7 S C T D)) (fun _ _ _ _ G=>G),?_⟩,rfl,rfl,rfl,by omega,fun k Y _=>Cx w _ Y,?_,fun _ _ G=>.inl G⟩
 ·rw[Ae]at C
  by_cases e:b=d
  ·subst e;simp at C;subst C
   exact .inr ⟨w.heap.size,0,cs,ty,fr,by simp,hnew,hfr,by omega,by simpa using hc.ext E,fun _ g G=>by have:=S.jlt g _ G;omega,fun hs=>by simp[hxs]at hs⟩
  ·rw[if_neg e]at C
   rcases S.blk b y C T hm with h1|⟨k,o,cs',ty',fr',h1,h2,h3,h4,h5,h6⟩
   ·exact .inl ⟨by simp[e,h1.1],h1.2⟩
   ·exact .inr ⟨k,o,cs',ty',fr',by simp[e,h1],by rw[Cx w _ (P5 h2)];exact h2,h3,h4,h5.ext E,h6⟩
 ·intro b b' y y' k o o' C I T hd' hs D L
  rw[Ae]at C I
  by_cases e:b=d<;>by_cases e':b'=d
  ·rw[e,e']
  ·rw[if_neg e']at I
   simp[e]at D;simp[e']at L
   have:=M7 S I hd' L;omega
  ·rw[if_neg e]at C
   simp[e']at L;simp[e]at D
   have:=M7 S C T D;omega
  ·rw[if_neg e]at C;rw[if_neg e']at I
   simp[e]at D;simp[e']at L
   exact S.sep b b' y y' k o o' C I T hd' hs D L
 ·rintro k ⟨b,y,o,C,T,hs,D⟩ Y
  rw[Ae]at C
  by_cases e:b=d
  ·simp[e]at D;omega
  ·rw[if_neg e]at C;simp[e]at D
   exact⟨b,y,o,C,T,hs,D⟩
def Step.newNone(S:SimH J β h w){d:Nat}{x:Blk}(hn:Ah h d=none)(hc:x.cells=[])(hxm:x.mp=false:=by rfl):
  Step J β h w J (fun b=>if b=d then none else β b) (D2 h d x) w:=by
 have ne:∀{b y},Ah h b=some y->b≠d:=fun C e=>by subst e;rw[hn]at C;cases C
 have E:Ext J β h w J (fun b=>if b=d then none else β b) (D2 h d x) w:=by
  refine⟨fun _ _ T=>T,fun o k T=>rfl,fun b y C=>⟨y,⟨by rw[Ae,if_neg (ne C)];exact C,rfl⟩,?_⟩,fun b k o D=>zE _⟩
  cases G:y.dead
  ·exact .inr ⟨rfl,by simp[ne C],rfl,fun _=>rfl⟩
  ·exact .inl rfl
 refine⟨E,⟨S.jlt,S.jft,S.gl.ext E,fun b y C G Y=>?_,fun b y C G Y=>by
   rw[Ae]at C
   by_cases e:b=d
   ·rw[if_pos e]at C;simp at C;subst C;simp[hxm]at Y
   ·rw[if_neg e]at C
    exact(S.mblk b y C G Y).keep (by simp[e]) (fun k o D=>rfl) (fun _ _ _ _ T=>T),?_⟩,rfl,rfl,rfl,zE _,fun k hk _=>rfl,?_,fun _ _ T=>.inl T⟩
 ·rw[Ae]at C
  by_cases e:b=d
  ·subst e;simp at C;subst C
   exact .inl ⟨by simp,hc⟩
  ·rw[if_neg e]at C
   rcases S.blk b y C G Y with h1|⟨k,o,cs',ty',fr',h1,h2,h3,h4,h5,h6⟩
   ·exact .inl ⟨by simp[e,h1.1],h1.2⟩
   ·exact .inr ⟨k,o,cs',ty',fr',by simp[e,h1],h2,h3,h4,h5.ext E,h6⟩
 ·intro b b' y y' k o o' C I G hd' hs D L
  rw[Ae]at C I
  by_cases e:b=d
  ·simp[e]at D
  ·by_cases e':b'=d
   ·simp[e']at L
   ·rw[if_neg e]at C;rw[if_neg e']at I
    simp[e]at D;simp[e']at L
    exact S.sep b b' y y' k o o' C I G hd' hs D L
 ·rintro k ⟨b,y,o,C,G,hs,D⟩ hk
  rw[Ae]at C
  by_cases e:b=d
  ·simp[e]at D
  ·rw[if_neg e]at C;simp[e]at D
   exact⟨b,y,o,C,G,hs,D⟩
def Step.newObj(S:SimH J β h w){d:Nat}{x:Blk}{ob:Obj}(hn:Ah h d=none)(hxd:x.dead=false)(hxs:x.sealed=false)(hxp:x.pure=true)(hxc:ObjIs x ob)(hxm:x.mp=true):
  Step J β h w J (fun b=>if b=d then some (w.heap.size,0)else β b) (D2 h d x) (w.alloc ob):=by
 have ne:∀{b y},Ah h b=some y->b≠d:=fun C e=>by subst e;rw[hn]at C;cases C
 have E:Ext J β h w J (fun b=>if b=d then some (w.heap.size,0)else β b) (D2 h d x) (w.alloc ob):=by
  refine⟨fun _ _ G=>G,fun o k G=>Cx w _ (S.jlt o k G),fun b y C=>⟨y,⟨by rw[Ae,if_neg (ne C)];exact C,rfl⟩,?_⟩,fun b k o D=>?_⟩
  ·cases T:y.dead
   ·exact .inr ⟨rfl,by simp[ne C],rfl,fun _=>rfl⟩
   ·exact .inl rfl
  ·by_cases Y:k<w.heap.size
   ·simp[Aw,Cx w _ Y]
   ·simp[Aw,Aas (Aa7 Y)]
 have hnew:(w.alloc ob).heap[w.heap.size]?=some ob:=by
  show(w.heap.push _)[_]?=_;simp
 have hsz:(w.alloc ob).heap.size=w.heap.size+1:=by show(w.heap.push _).size=_;simp
 refine⟨E,⟨fun o k G=>by have:=S.jlt o k G;omega,S.jft,S.gl.ext E,fun b y C T hm=>?_,fun b y C T hm=>?_,?_⟩,rfl,rfl,rfl,by omega,fun k Y _=>Cx w _ Y,?_,fun _ _ G=>.inl G⟩
 ·rw[Ae]at C
  by_cases e:b=d
  ·rw[if_pos e]at C;simp at C;subst C;simp[hxm]at hm
  ·rw[if_neg e]at C
   rcases S.blk b y C T hm with h1|⟨k,o,cs',ty',fr',h1,h2,h3,h4,h5,h6⟩
   ·exact .inl ⟨by simp[e,h1.1],h1.2⟩
   ·exact .inr ⟨k,o,cs',ty',fr',by simp[e,h1],by rw[Cx w _ (P5 h2)];exact h2,h3,h4,h5.ext E,h6⟩
 ·rw[Ae]at C
  by_cases e:b=d
  ·rw[if_pos e]at C;simp at C;subst C
   exact⟨hxp,hxs,w.heap.size,ob,by simp[e],hnew,hxc,fun g G=>by have:=S.jlt g _ G;omega⟩
  ·rw[if_neg e]at C
   exact(S.mblk b y C T hm).keep (by simp[e]) (fun k o D=>Cx w _ (M7 S C T D)) (fun _ _ _ _ G=>G)
 ·intro b b' y y' k o o' C I T hd' hs D L
  rw[Ae]at C I
  by_cases e:b=d<;>by_cases e':b'=d
  ·rw[e,e']
  ·rw[if_neg e']at I
   simp[e]at D;simp[e']at L
   have:=M7 S I hd' L;omega
  ·rw[if_neg e]at C
   simp[e']at L;simp[e]at D
   have:=M7 S C T D;omega
  ·rw[if_neg e]at C;rw[if_neg e']at I
   simp[e]at D;simp[e']at L
   exact S.sep b b' y y' k o o' C I T hd' hs D L
 ·rintro k ⟨b,y,o,C,T,hs,D⟩ Y
  rw[Ae]at C
  by_cases e:b=d
  ·simp[e]at D;omega
  ·rw[if_neg e]at C;simp[e]at D
   exact⟨b,y,o,C,T,hs,D⟩
def Step.kill(S:SimH J β h w){d:Nat}{x y:Blk}(hx:Ah h d=some x)(I:y.dead=true)(hym:y.mp=x.mp:=by rfl):Step J β h w J β (D2 h d y) w:=by
 have E:Ext J β h w J β (D2 h d y) w:=by
  refine⟨fun _ _ L=>L,fun o k L=>rfl,fun b z C=>?_,fun b k o T=>zE _⟩
  by_cases e:b=d
  ·subst e;rw[hx]at C;simp at C;subst C;exact⟨y,⟨by rw[Ae,if_pos rfl],hym⟩,.inl I⟩
  ·refine⟨z,⟨by rw[Ae,if_neg e];exact C,rfl⟩,?_⟩
   cases G:z.dead
   ·exact .inr ⟨rfl,rfl,rfl,fun _=>rfl⟩
   ·exact .inl rfl
 refine⟨E,⟨S.jlt,S.jft,S.gl.ext E,fun b z C G hm=>?_,fun b z C G hm=>by
   rw[Ae]at C
   by_cases e:b=d
   ·rw[if_pos e]at C;simp at C;subst C;simp[I]at G
   ·rw[if_neg e]at C
    exact(S.mblk b z C G hm).keep rfl (fun k o T=>rfl) (fun _ _ _ _ L=>L),?_⟩,rfl,rfl,rfl,zE _,fun k hk _=>rfl,?_,fun _ _ L=>.inl L⟩
 ·rw[Ae]at C
  by_cases e:b=d
  ·rw[if_pos e]at C;simp at C;subst C;simp[I]at G
  ·rw[if_neg e]at C
   rcases S.blk b z C G hm with h1|⟨k,o,cs',ty',fr',h1,h2,h3,h4,h5,h6⟩
   ·exact .inl h1
   ·exact .inr ⟨k,o,cs',ty',fr',h1,h2,h3,h4,h5.ext E,h6⟩
 ·intro b b' z z' k o o' C D G Y hs T hβ'
  rw[Ae]at C D
  by_cases e:b=d
  ·rw[if_pos e]at C;simp at C;subst C;simp[I]at G
  ·by_cases e':b'=d
   ·rw[if_pos e']at D;simp at D;subst D;simp[I]at Y
   ·rw[if_neg e]at C;rw[if_neg e']at D
    exact S.sep b b' z z' k o o' C D G Y hs T hβ'
 ·rintro k ⟨b,z,o,C,G,hs,T⟩ hk
  rw[Ae]at C
  by_cases e:b=d
  ·rw[if_pos e]at C;simp at C;subst C;simp[I]at G
  ·rw[if_neg e]at C
   exact⟨b,z,o,C,G,hs,T⟩
def Step.giveUp(S:SimH J β h w){d k o:Nat}{x y:Blk}(hx:Ah h d=some x)(hd:x.dead=false)(hs:x.sealed=false)(hβ:β d=some (k,o))(hxm:x.mp=false)(hy:y.dead=true)
  (other:∀ j,j≠k->w'.heap[j]?=w.heap[j]?) (size:w'.heap.size=w.heap.size) (os:w'.os=w.os) (tape:w'.tape=w.tape) (output:w'.output=w.output) (hsz:Aw w k<=Aw w' k) (hym:y.mp=x.mp:=by rfl) :
  Step J β h w J β (D2 h d y) w':=by
 have nj:∀ g j,J g j->j≠k:=fun g j I e=>by
  subst e
  rcases S.blk d x hx hd hxm with⟨L,_⟩|⟨k',o',cs0,ty0,fr0,T,h2,h3,h4,h5,h6,h7⟩
  ·rw[hβ]at L;simp at L
  ·rw[hβ]at T;simp at T;obtain⟨rfl,rfl⟩:=T
   exact h6 hs g I
 have E:Ext J β h w J β (D2 h d y) w':=by
  refine⟨fun _ _ I=>I,fun o j I=>other j (nj o j I),fun b z C=>?_,fun b j oo C=>?_⟩
  ·by_cases e:b=d
   ·subst e;rw[hx]at C;simp at C;subst C;exact⟨y,⟨by rw[Ae,if_pos rfl],hym⟩,.inl hy⟩
   ·refine⟨z,⟨by rw[Ae,if_neg e];exact C,rfl⟩,?_⟩
    cases hd:z.dead
    ·exact .inr ⟨rfl,rfl,rfl,fun _=>rfl⟩
    ·exact .inl rfl
  ·by_cases e:j=k
   ·subst e;exact hsz
   ·simp[Aw,other j e]
 have live:∀{b z},Ah (D2 h d y) b=some z->z.dead=false->b≠d/\Ah h b=some z:=fun{b z} C D=>by
  rw[Ae]at C
  by_cases e:b=d
  ·rw[if_pos e]at C;simp at C;subst C;simp[hy]at D
  ·rw[if_neg e]at C;exact⟨e,C⟩
 have apart:∀{b z j oo},b≠d->Ah h b=some z->z.dead=false->β b=some (j,oo)->j≠k:=fun{b z j oo} e C D G ej=>by
  subst ej;exact e (S.sep d b x z j o oo hx C hd D hs hβ G).symm
 refine⟨E,⟨fun g j I=>by rw[size];exact S.jlt g j I,S.jft,S.gl.ext E,fun b z C D hm=>?_,fun b z C D hm=>by
   obtain⟨e,C⟩:=live C D
   exact(S.mblk b z C D hm).keep rfl (fun j oo G=>other j (apart e C D G)) (fun _ _ _ _ I=>I),fun b b' z z' j oo oo' C hb' D hz' Y G hbj'=>?_⟩,os,tape,output,by rw[size];exact zE _,fun j I hm=>other j (fun e=>by subst e;exact hm ⟨d,x,o,hx,hd,hs,hβ⟩),?_,fun _ _ I=>.inl I⟩
 ·obtain⟨e,C⟩:=live C D
  rcases S.blk b z C D hm with L|⟨j,oo,cs,ty,fr,L,h2,h3⟩
  ·exact .inl L
  ·exact .inr ⟨j,oo,cs,ty,fr,L,by rw[other j (apart e C D L)];exact h2,h3.1,h3.2.1,h3.2.2.1.ext E,h3.2.2.2⟩
 ·exact S.sep b b' z z' j oo oo' (live C D).2 (live hb' hz').2 D hz' Y G hbj'
 ·rintro j ⟨b,z,oo,C,D,Y,G⟩ _
  exact⟨b,z,oo,(live C D).2,D,Y,G⟩
end
end Gx
namespace Gx
open Go
section
variable{J J' J'':Bool->Nat->Prop}{β β' β'':Bt}{h h' h'':Ap}{w w' w'':World}
def Step.shutB(S:SimH J β h w){d:Nat}{x:Blk}(hx:Ah h d=some x)(T:x.dead=false)(hxm:x.mp=false):
  Step J β h w (fun o k=>J o k\/∃ o',β d=some (k,o')/\(x.taint=true->o=true)) β (D2 h d {x with sealed:=true}) w:=by
 have E:Ext J β h w (fun o k=>J o k\/∃ o',β d=some (k,o')/\(x.taint=true->o=true)) β (D2 h d {x with sealed:=true}) w:=by
  refine⟨fun _ _ G=>.inl G,fun o k G=>rfl,fun b z C=>?_,fun b k o D=>zE _⟩
  by_cases e:b=d
  ·subst e;rw[hx]at C;simp at C;subst C
   exact⟨{x with sealed:=true},⟨by rw[Ae,if_pos rfl],rfl⟩,.inr ⟨T,rfl,rfl,fun _=>rfl⟩⟩
  ·refine⟨z,⟨by rw[Ae,if_neg e];exact C,rfl⟩,?_⟩
   cases T:z.dead
   ·exact .inr ⟨rfl,rfl,rfl,fun _=>rfl⟩
   ·exact .inl rfl
 refine⟨E,⟨?_,?_,S.gl.ext E,fun b z C L hm=>?_,fun b z C L hm=>by
   rw[Ae]at C
   by_cases e:b=d
   ·rw[if_pos e]at C;simp at C;subst C;simp[hxm]at hm
   ·rw[if_neg e]at C
    have M:=S.mblk b z C L hm
    refine M.keep rfl (fun k o D=>rfl) (fun g k o D G=>?_)
    rcases G with G|⟨o',hβ',_⟩
    ·exact G
    ·exact absurd (S.sep b d z x k o o' C hx L T M.2.1 D hβ') e,?_⟩,rfl,rfl,rfl,zE _,fun k hk _=>rfl,?_,?_⟩
 ·rintro o k (G|⟨o',D,_⟩)
  ·exact S.jlt o k G
  ·exact M7 S hx T D
 ·rintro k (G|⟨o',D,ht⟩)
  ·exact .inl (S.jft k G)
  ·exact .inr ⟨o',D,fun _=>rfl⟩
 ·rw[Ae]at C
  by_cases e:b=d
  ·rw[if_pos e]at C;simp at C;subst C;subst e
   rcases S.blk b x hx T hxm with I|⟨k,o,Y,ty',fr',I,h2,h3,h4,h5,h6,h7⟩
   ·exact .inl I
   ·exact .inr ⟨k,o,Y,ty',fr',I,h2,h3,h4,h5.ext E,fun hs=>by simp at hs,fun _=>.inr ⟨o,I,id⟩⟩
  ·rw[if_neg e]at C
   rcases S.blk b z C L hm with I|⟨k,o,Y,ty',fr',I,h2,h3,h4,h5,h6,h7⟩
   ·exact .inl I
   ·refine .inr ⟨k,o,Y,ty',fr',I,h2,h3,h4,h5.ext E,fun hs g G=>?_,fun hs=>.inl (h7 hs)⟩
    rcases G with G|⟨o',D,_⟩
    ·exact h6 hs g G
    ·exact e (S.sep b d z x k o o' C hx L T hs I D)
 ·intro b b' z z' k o o' C hb' hd1 hd2 hs D hβ'
  have get:∀{c y},Ah (D2 h d {x with sealed:=true}) c=some y->y.dead=false->∃ y',Ah h c=some y'/\y'.dead=false/\(y.sealed=false->y'.sealed=false):=by
   intro c y hc hyd
   rw[Ae]at hc
   by_cases e:c=d
   ·subst e;exact⟨x,hx,T,fun hs=>by simp at hc;subst hc;simp at hs⟩
   ·rw[if_neg e]at hc;exact⟨y,hc,hyd,id⟩
  obtain⟨y1,g1,g2,g3⟩:=get C hd1
  obtain⟨y2,g4,g5,g6⟩:=get hb' hd2
  exact S.sep b b' y1 y2 k o o' g1 g4 g2 g5 (g3 hs) D hβ'
 ·rintro k ⟨b,z,o,C,L,hs,D⟩ hk
  rw[Ae]at C
  by_cases e:b=d
  ·rw[if_pos e]at C;simp at C;subst C;simp at hs
  ·rw[if_neg e]at C
   exact⟨b,z,o,C,L,hs,D⟩
 ·rintro o k (G|⟨o',D,ht⟩)
  ·exact .inl G
  ·cases hs:x.sealed with
   |false=>exact .inr (.inl ⟨d,x,o',hx,T,hs,D⟩)
   | true =>
    left
    rcases S.blk d x hx T hxm with⟨I,_⟩|⟨k',o1,Y,ty',fr',I,h2,h3,h4,h5,h6,h7⟩
    ·rw[D]at I;simp at I
    ·rw[D]at I;simp at I;obtain⟨rfl,rfl⟩:=I
     have:=h7 hs
     cases htt:x.taint with
     |true=>rw[htt]at this;rw[ht htt];exact this
     |false =>
      rw[htt]at this
      cases o
      ·exact this
      ·exact S.jft _ this
structure OnlyBlk(w w':World)(k:Nat)(cs cs':Array Value)(ty:TypeId)(fr:Nat×Nat):Prop where
 old:w.heap[k]?=some (.cells cs ty fr)
 new:w'.heap[k]?=some (.cells cs' ty fr)
 sz:cs'.size=cs.size
 other:∀ j,j≠k->w'.heap[j]?=w.heap[j]?
 size:w'.heap.size=w.heap.size
 os:w'.os=w.os
 tape:w'.tape=w.tape
 output:w'.output=w.output
def OnlyBlk.setCell{k i:Nat}{cs:Array Value}{ty:TypeId}{fr:Nat×Nat}(C:w.heap[k]?=some (.cells cs ty fr))(u:Value):
  OnlyBlk w (w.setCell ⟨k,i,none⟩ u) k cs (cs.setIfInBounds i u) ty fr:=by
 refine⟨C,?_,by simp,fun j D=>?_,by simp[World.setCell],rfl,rfl,rfl⟩
 ·simp[World.setCell,Aaj,C]
 ·simp only[World.setCell,Aaj];rw[if_neg (fun e=>D e.symm)]
def OnlyBlk.setCells{k:Nat}{ty:TypeId}{fr:Nat×Nat}:∀(us:List Value)(i:Nat)(w:World)(cs:Array Value),w.heap[k]?=some (.cells cs ty fr) ->
  ∃ C,OnlyBlk w (w.setCells k i us) k cs C ty fr/\∀ j,C[j]?=if i<=j/\j<i+us.length/\j<cs.size then us[j - i]? else cs[j]?
|[],i,w,cs,D=>⟨cs,⟨D,D,rfl,fun _ _=>rfl,rfl,rfl,rfl,rfl⟩,fun j=>by rw[if_neg (by simp;omega)]⟩
| u::us,i,w,cs,D=>by
  have A:=OnlyBlk.setCell (i:=i) D u
  obtain⟨C,B,hB⟩:=OnlyBlk.setCells us (i+1) (w.setCell ⟨k,i,none⟩ u) _ A.new
  refine⟨C,⟨D,B.new,B.sz.trans A.sz,fun j G=>(B.other j G).trans (A.other j G),B.size.trans A.size,B.os.trans A.os,B.tape.trans A.tape,B.output.trans A.output⟩,fun j=>?_⟩
  rw[hB j]
  simp only[Ad3,z8]
  by_cases G:j=i
  ·subst G
   rw[if_neg (by omega)]
   by_cases hs:j<cs.size
   ·rw[if_pos (by omega)];simp[hs]
   ·rw[if_neg (by omega)];simp[hs]
  ·by_cases I:i+1<=j/\j<i+1+us.length/\j<cs.size
   ·rw[if_pos I,if_pos (by omega),show j - i=(j - (i+1))+1 by omega];simp
   ·rw[if_neg I,if_neg (by omega),Acy (by omega)]
def Step.set(S:SimH J β h w){d k o:Nat}{x x':Blk}{cs T:Array Value}{ty:TypeId}{fr:Nat×Nat}(Y:Ah h d=some x)(I:x.dead=false)(hs:x.sealed=false)(hβ:β d=some (k,o))
  (O:OnlyBlk w w' k cs T ty fr) (hd':x'.dead=false) (hs':x'.sealed=false) (hz:x'.sz=x.sz) (hl:x'.cells.length=x.cells.length) (hc:CellsRep J β h w x' (fun j=>T[o+j]?)) (hxm:x.mp=false) (L:x'.mp=x.mp:=by rfl) (hty:x'.ty=x.ty:=by rfl) :
  Step J β h w J β (D2 h d x') w':=by
 obtain⟨k',o',cs0,ty0,fr0,hβ',h2,h3,h4,h5,h6,h7⟩:∃ k' o' cs0 ty0 fr0,β d=some (k',o')/\w.heap[k']?=some (.cells cs0 ty0 fr0) /\
   FrTy x.ty ty0 o' cs0.size fr0/\o'+x.cells.length<=cs0.size/\CellsRep J β h w x (fun j=>cs0[o'+j]?)/\(x.sealed=false->∀ g,¬ J g k')/\(x.sealed=true->J x.taint k'):=by
  rcases S.blk d x Y I hxm with⟨h1,_⟩|h1
  ·rw[hβ]at h1;simp at h1
  ·exact h1
 rw[hβ]at hβ';simp at hβ';obtain⟨rfl,rfl⟩:=hβ'
 rw[O.old]at h2;simp at h2;obtain⟨rfl,rfl,rfl⟩:=h2
 have nj:∀ g j,J g j->j≠k:=fun g j G e=>by subst e;exact h6 hs g G
 have E:Ext J β h w J β (D2 h d x') w':=by
  refine⟨fun _ _ G=>G,fun o j G=>O.other j (nj o j G),fun b z C=>?_,fun b j oo C=>?_⟩
  ·by_cases e:b=d
   ·subst e;rw[Y]at C;simp at C;subst C
    exact⟨_,⟨by rw[Ae,if_pos rfl],L⟩,.inr ⟨I,rfl,hz,fun _=>hl⟩⟩
   ·refine⟨z,⟨by rw[Ae,if_neg e];exact C,rfl⟩,?_⟩
    cases I:z.dead
    ·exact .inr ⟨rfl,rfl,rfl,fun _=>rfl⟩
    ·exact .inl rfl
  ·by_cases e:j=k
   ·subst e;rw[C0 O.old,C0 O.new,O.sz];exact zE _
   ·simp[Aw,O.other j e]
 refine⟨E,⟨fun g j G=>by rw[O.size];exact S.jlt g j G,S.jft,S.gl.ext E,fun b z C D hm=>?_,fun b z C D hm=>by
   rw[Ae]at C
   by_cases e:b=d
   ·rw[if_pos e]at C;simp at C;subst C;simp[L,hxm]at hm
   ·rw[if_neg e]at C
    exact(S.mblk b z C D hm).keep rfl (fun k2 o2 hβ2=>O.other k2 (fun e2=>by subst e2;exact e (S.sep d b x z k2 o o2 Y C I D hs hβ hβ2).symm)) (fun _ _ _ _ G=>G),?_⟩,O.os,O.tape,O.output,by rw[O.size];exact zE _,fun j G hm=>?_,?_,fun _ _ G=>.inl G⟩
 ·rw[Ae]at C
  by_cases e:b=d
  ·rw[if_pos e]at C;simp at C;subst C;subst e
   refine .inr ⟨k,o,T,ty,fr,hβ,O.new,?_,by rw[hl,O.sz];exact h4,hc.ext E,fun _=>h6 hs,fun hh=>by simp[hs']at hh⟩
   rw[O.sz,hty];exact h3
  ·rw[if_neg e]at C
   rcases S.blk b z C D hm with g1|⟨k2,o2,cs2,ty2,fr2,g1,g2,g3,g4,g5,g6,g7⟩
   ·exact .inl g1
   ·have hne:k2≠k:=fun e2=>by
     subst e2;exact e (S.sep d b x z k2 o o2 Y C I D hs hβ g1).symm
    exact .inr ⟨k2,o2,cs2,ty2,fr2,g1,by rw[O.other k2 hne];exact g2,g3,g4,g5.ext E,g6,g7⟩
 ·intro b b' z z' kk oo oo' C hb' hd1 hd2 hs1 hβ1 hβ2
  have get:∀{c y},Ah (D2 h d x') c=some y->y.dead=false->∃ y',Ah h c=some y'/\y'.dead=false/\(y.sealed=false->y'.sealed=false):=by
   intro c y hc hyd
   rw[Ae]at hc
   by_cases e:c=d
   ·subst e;exact⟨x,Y,I,fun _=>hs⟩
   ·rw[if_neg e]at hc;exact⟨y,hc,hyd,id⟩
  obtain⟨y1,g1,g2,g3⟩:=get C hd1
  obtain⟨y2,g4,g5,g6⟩:=get hb' hd2
  exact S.sep b b' y1 y2 kk oo oo' g1 g4 g2 g5 (g3 hs1) hβ1 hβ2
 ·exact O.other j (fun e=>hm (by subst e;exact⟨d,x,o,Y,I,hs,hβ⟩))
 ·rintro j ⟨b,z,oo,C,D,hsz,hβz⟩ G
  rw[Ae]at C
  by_cases e:b=d
  ·subst e;exact⟨b,x,oo,Y,I,hs,hβz⟩
  ·rw[if_neg e]at C
   exact⟨b,z,oo,C,D,hsz,hβz⟩
def Step.setObj(S:SimH J β h w){d k:Nat}{x x':Blk}{ob ob':Obj}(hx:Ah h d=some x)(hd:x.dead=false)(hm:x.mp=true)(hβ:β d=some (k,0))
  (old:w.heap[k]?=some ob) (new:w'.heap[k]?=some ob') (other:∀ j,j≠k->w'.heap[j]?=w.heap[j]?) (size:w'.heap.size=w.heap.size) (os:w'.os=w.os) (tape:w'.tape=w.tape) (output:w'.output=w.output)
  (hc:ObjIs x' ob') (hx'd:x'.dead=false) (hx's:x'.sealed=false) (hx'p:x'.pure=true) (hx'z:x'.sz=x.sz) (Y:x'.mp=true):Step J β h w J β (D2 h d x') w':=by
 have M:=S.mblk d x hx hd hm
 have nJ:∀ g,¬ J g k:=by
  obtain⟨_,_,k',_,I,_,_,L⟩:=M
  rw[hβ]at I;simp at I;subst I;exact L
 have nj:∀ g j,J g j->j≠k:=fun g j D e=>by subst e;exact nJ g D
 have E:Ext J β h w J β (D2 h d x') w':=by
  refine⟨fun _ _ D=>D,fun o j D=>other j (nj o j D),fun b z C=>?_,fun b j oo C=>?_⟩
  ·by_cases e:b=d
   ·subst e;rw[hx]at C;simp at C;subst C
    exact⟨_,⟨by rw[Ae,if_pos rfl],by rw[Y,hm]⟩,.inr ⟨hd,rfl,hx'z,fun h=>by simp[hm]at h⟩⟩
   ·refine⟨z,⟨by rw[Ae,if_neg e];exact C,rfl⟩,?_⟩
    cases hd:z.dead
    ·exact .inr ⟨rfl,rfl,rfl,fun _=>rfl⟩
    ·exact .inl rfl
  ·by_cases e:j=k
   ·subst e
    have r0:∀ cs ty fr,ob≠.cells cs ty fr:=by
     obtain⟨_,_,k',ob0,I,L,h3,_⟩:=M
     rw[hβ]at I;simp at I;subst I
     rw[old]at L;simp at L;subst L
     exact fun _ _ _=>h3.row
    have z0:Aw w j=0:=by
     unfold Aw;rw[old]
     split
     ·rename_i e;simp at e;exact absurd e (r0 _ _ _)
     ·rfl
    rw[z0];exact Abx _
   ·simp[Aw,other j e]
 refine⟨E,⟨fun g j D=>by rw[size];exact S.jlt g j D,S.jft,S.gl.ext E,fun b z C G T=>?_,fun b z C G T=>?_,?_⟩,os,tape,output,by rw[size];exact zE _,fun j D hm=>?_,?_,fun _ _ D=>.inl D⟩
 ·rw[Ae]at C
  by_cases e:b=d
  ·rw[if_pos e]at C;simp at C;subst C;simp[Y]at T
  ·rw[if_neg e]at C
   rcases S.blk b z C G T with g1|⟨k2,o2,cs2,ty2,fr2,g1,g2,g3,g4,g5,g6,g7⟩
   ·exact .inl g1
   ·have hne:k2≠k:=fun e2=>by
     subst e2;rw[old]at g2;simp at g2
     obtain⟨_,_,k',ob0,I,L,h3,_⟩:=M
     rw[hβ]at I;simp at I;subst I
     rw[old]at L;simp at L;subst L
     exact absurd g2 h3.row
    exact .inr ⟨k2,o2,cs2,ty2,fr2,g1,by rw[other k2 hne];exact g2,g3,g4,g5.ext E,g6,g7⟩
 ·rw[Ae]at C
  by_cases e:b=d
  ·rw[if_pos e]at C;simp at C;subst C;subst e
   exact⟨hx'p,hx's,k,ob',hβ,new,hc,nJ⟩
  ·rw[if_neg e]at C
   exact(S.mblk b z C G T).keep rfl (fun k2 o2 hβ2=>other k2 (fun e2=>by subst e2;exact e (S.sep d b x z k2 0 o2 hx C hd G M.2.1 hβ hβ2).symm)) (fun _ _ _ _ D=>D)
 ·intro b b' z z' kk oo oo' C hb' hd1 hd2 hs1 hβ1 hβ2
  have get:∀{c y},Ah (D2 h d x') c=some y->y.dead=false->∃ y',Ah h c=some y'/\y'.dead=false/\(y.sealed=false->y'.sealed=false):=by
   intro c y hc hyd
   rw[Ae]at hc
   by_cases e:c=d
   ·subst e;exact⟨x,hx,hd,fun _=>M.2.1⟩
   ·rw[if_neg e]at hc;exact⟨y,hc,hyd,id⟩
  obtain⟨y1,g1,g2,g3⟩:=get C hd1
  obtain⟨y2,g4,g5,g6⟩:=get hb' hd2
  exact S.sep b b' y1 y2 kk oo oo' g1 g4 g2 g5 (g3 hs1) hβ1 hβ2
 ·exact other j (fun e=>hm (by subst e;exact⟨d,x,0,hx,hd,M.2.1,hβ⟩))
 ·rintro j ⟨b,z,oo,C,G,hsz,hβz⟩ D
  rw[Ae]at C
  by_cases e:b=d
  ·subst e;exact⟨b,x,oo,hx,hd,M.2.1,hβz⟩
  ·rw[if_neg e]at C
   exact⟨b,z,oo,C,G,hsz,hβz⟩
def Step.mark(S:SimH J β h w){d k o:Nat}{x:Blk}{cs:Array Value}{ty:TypeId}{fr L:Nat×Nat}(hx:Ah h d=some x)(hd:x.dead=false)(hs:x.sealed=false)(hβ:β d=some (k,o))
  (old:w.heap[k]?=some (.cells cs ty fr)) (new:w'.heap[k]?=some (.cells cs ty L)) (hf:FrOk cs.size L) (other:∀ j,j≠k->w'.heap[j]?=w.heap[j]?) (size:w'.heap.size=w.heap.size) (os:w'.os=w.os) (tape:w'.tape=w.tape) (output:w'.output=w.output) (hxm:x.mp=false) :
  Step J β h w J β h w':=by
 have nj:∀ g j,J g j->j≠k:=fun g j C e=>by
  subst e
  rcases S.blk d x hx hd hxm with⟨h1,_⟩|⟨k',o',cs0,ty0,fr0,T,h2,h3,h4,h5,h6,h7⟩
  ·rw[hβ]at h1;simp at h1
  ·rw[hβ]at T;simp at T;obtain⟨rfl,rfl⟩:=T
   exact h6 hs g C
 have E:Ext J β h w J β h w':=by
  refine⟨fun _ _ C=>C,fun o j C=>other j (nj o j C),fun b z D=>⟨z,⟨D,rfl⟩,?_⟩,fun b j oo D=>?_⟩
  ·cases hd:z.dead
   ·exact .inr ⟨rfl,rfl,rfl,fun _=>rfl⟩
   ·exact .inl rfl
  ·by_cases e:j=k
   ·subst e;rw[C0 old,C0 new];exact zE _
   ·simp[Aw,other j e]
 refine⟨E,⟨fun g j C=>by rw[size];exact S.jlt g j C,S.jft,S.gl.ext E,fun b z D G I=>?_,fun b z D G I=>by
   refine(S.mblk b z D G I).keep rfl (fun Y o2 hβ2=>other Y (fun e2=>?_)) (fun _ _ _ _ C=>C)
   subst e2
   have:=S.sep d b x z Y o o2 hx D hd G hs hβ hβ2
   subst this
   rw[hx] at D;simp at D;subst D;simp[hxm] at I,S.sep⟩,os,tape,output,by rw[size];exact zE _,fun j C I=>?_,fun _ I _=>I,fun _ _ C=>.inl C⟩
 ·rcases S.blk b z D G I with g1|⟨Y,o2,cs2,ty2,fr2,g1,g2,g3,g4,g5,g6,g7⟩
  ·exact .inl g1
  ·by_cases e:Y=k
   ·subst e
    rw[old]at g2;simp at g2;obtain⟨rfl,rfl,rfl⟩:=g2
    exact .inr ⟨Y,o2,cs,ty,L,g1,new,⟨hf,g3.2⟩,g4,g5.ext E,g6,g7⟩
   ·exact .inr ⟨Y,o2,cs2,ty2,fr2,g1,by rw[other Y e];exact g2,g3,g4,g5.ext E,g6,g7⟩
 ·exact other j (fun e=>I (by subst e;exact⟨d,x,o,hx,hd,hs,hβ⟩))
def Step.move(S:SimH J β h w){d I k o o':Nat}{x x' y:Blk}{cs cs':Array Value}{ty:TypeId}{fr:Nat×Nat}(Y:Ah h d=some x)(hd:x.dead=false)(hs:x.sealed=false)(hβ:β d=some (k,o))
  (hn:Ah h I=none) (hy:y.dead=true)
  (O:OnlyBlk w w' k cs cs' ty fr) (hd':x'.dead=false) (hs':x'.sealed=false) (hl:o'+x'.cells.length<=cs.size) (hc:CellsRep J β h w x' (fun j=>cs'[o'+j]?)) (hxm:x.mp=false) (hym:y.mp=x.mp:=by rfl) (hxm':x'.mp=false:=by rfl) (hty:TyOk x'.ty ty o' cs.size:=by exact TyOk.none) :
  Step J β h w J (fun b=>if b=I then some (k,o')else β b) (D2 (D2 h d y) I x') w':=by
 obtain⟨k',o1,cs0,ty0,fr0,hβ',h2,h3,h4,h5,h6,h7⟩:∃ k' o' cs0 ty0 fr0,β d=some (k',o')/\w.heap[k']?=some (.cells cs0 ty0 fr0) /\
   FrTy x.ty ty0 o' cs0.size fr0/\o'+x.cells.length<=cs0.size/\CellsRep J β h w x (fun j=>cs0[o'+j]?)/\(x.sealed=false->∀ g,¬ J g k')/\(x.sealed=true->J x.taint k'):=by
  rcases S.blk d x Y hd hxm with⟨h1,_⟩|h1
  ·rw[hβ]at h1;simp at h1
  ·exact h1
 rw[hβ]at hβ';simp at hβ';obtain⟨rfl,rfl⟩:=hβ'
 rw[O.old]at h2;simp at h2;obtain⟨rfl,rfl,rfl⟩:=h2
 have nj:∀ g j,J g j->j≠k:=fun g j L e=>by subst e;exact h6 hs g L
 have ndd:d≠I:=fun e=>by subst e;rw[hn]at Y;cases Y
 have ne:∀{b z},Ah h b=some z->b≠I:=fun C e=>by subst e;rw[hn]at C;cases C
 have get:∀ b,Ah (D2 (D2 h d y) I x') b=if b=I then some x' else if b=d then some y else Ah h b:=fun b=>by rw[Ae,Ae]
 have E:Ext J β h w J (fun b=>if b=I then some (k,o')else β b) (D2 (D2 h d y) I x') w':=by
  refine⟨fun _ _ L=>L,fun o j L=>O.other j (nj o j L),fun b z C=>?_,fun b j oo C=>?_⟩
  ·by_cases e:b=d
   ·have hb0:=C;subst e;rw[Y]at C;simp at C;subst C;exact⟨y,⟨by rw[get,if_neg (ne hb0),if_pos rfl],hym⟩,.inl hy⟩
   ·refine⟨z,⟨by rw[get,if_neg (ne C),if_neg e];exact C,rfl⟩,?_⟩
    cases hd:z.dead
    ·exact .inr ⟨rfl,by simp[ne C],rfl,fun _=>rfl⟩
    ·exact .inl rfl
  ·by_cases e:j=k
   ·subst e;rw[C0 O.old,C0 O.new,O.sz];exact zE _
   ·simp[Aw,O.other j e]
 have live:∀{b z},Ah (D2 (D2 h d y) I x') b=some z->z.dead=false->(b=I/\z=x')\/(b≠I/\b≠d/\Ah h b=some z):=by
  intro b z C hz
  rw[get]at C
  by_cases e:b=I
  ·rw[if_pos e]at C;simp at C;exact .inl ⟨e,C.symm⟩
  ·rw[if_neg e]at C
   by_cases e2:b=d
   ·rw[if_pos e2]at C;simp at C;subst C;simp[hy]at hz
   ·rw[if_neg e2]at C;exact .inr ⟨e,e2,C⟩
 refine⟨E,⟨fun g j L=>by rw[O.size];exact S.jlt g j L,S.jft,S.gl.ext E,fun b z C D hm=>?_,fun b z C D hm=>by
   rcases live C D with⟨rfl,rfl⟩|⟨e1,e2,C⟩
   ·simp[hxm']at hm
   ·exact(S.mblk b z C D hm).keep (by simp[e1]) (fun k2 o2 G=>O.other k2 (fun e=>by subst e;exact e2 (S.sep d b x z k2 o o2 Y C hd D hs hβ G).symm)) (fun _ _ _ _ L=>L),?_⟩,O.os,O.tape,O.output,by rw[O.size];exact zE _,fun j L hm=>?_,?_,fun _ _ L=>.inl L⟩
 ·rcases live C D with⟨rfl,rfl⟩|⟨e1,e2,C⟩
  ·refine .inr ⟨k,o',cs',ty,fr,by simp,O.new,?_,by rw[O.sz];exact hl,hc.ext E,fun _=>h6 hs,fun hh=>by simp[hs']at hh⟩
   rw[O.sz];exact⟨h3.1,hty⟩
  ·rcases S.blk b z C D hm with g1|⟨k2,o2,cs2,ty2,fr2,g1,g2,g3,g4,g5,g6,g7⟩
   ·exact .inl ⟨by simp[e1,g1.1],g1.2⟩
   ·have hne:k2≠k:=fun e=>by
     subst e;exact e2 (S.sep d b x z k2 o o2 Y C hd D hs hβ g1).symm
    exact .inr ⟨k2,o2,cs2,ty2,fr2,by simp[e1,g1],by rw[O.other k2 hne];exact g2,g3,g4,g5.ext E,g6,g7⟩
 ·intro b b' z z' kk oo oo' C hb' hd1 hd2 hs1 T G
  rcases live C hd1 with⟨e0,_⟩|⟨e1,e2,hbb⟩<;>rcases live hb' hd2 with⟨e0',_⟩|⟨e3,e4,hbb'⟩
  ·rw[e0,e0']
  ·simp[e0]at T;simp[e3]at G
   obtain⟨rfl,rfl⟩:=T
   exact absurd (S.sep d b' x z' k o oo' Y hbb' hd hd2 hs hβ G).symm e4
  ·simp[e0']at G;simp[e1]at T
   obtain⟨rfl,rfl⟩:=G
   exact absurd (S.sep d b x z k o oo Y hbb hd hd1 hs hβ T).symm e2
  ·simp[e1]at T;simp[e3]at G
   exact S.sep b b' z z' kk oo oo' hbb hbb' hd1 hd2 hs1 T G
 ·exact O.other j (fun e=>hm (by subst e;exact⟨d,x,o,Y,hd,hs,hβ⟩))
 ·rintro j ⟨b,z,oo,C,D,hsz,hβz⟩ L
  rcases live C D with⟨rfl,rfl⟩|⟨e1,e2,C⟩
  ·simp at hβz;obtain⟨rfl,rfl⟩:=hβz
   exact⟨d,x,o,Y,hd,hs,hβ⟩
  ·simp[e1]at hβz;exact⟨b,z,oo,C,D,hsz,hβz⟩
end
end Gx
namespace Gx
open Go
def Bu:∀(a b:C5)(h:Ap),Ai (a++b) h=Ai b (Ai a h)
|[],_,_=>rfl
|(_,some _)::r,b,h=>by simp only[Aax,Ai];exact Bu r b _
|(_,none)::r,b,h=>by simp only[Aax,Ai];exact Bu r b _
def LooksS(g:A1)(h:Ap):Prop:=∀ b x,g b=some x->∃ y,Ah h b=some y/\{y with sealed:=true}={x with sealed:=true}
def Looks.s{g:A1}{h:Ap}(k:Looks g h):LooksS g h:=fun b x C=>⟨x,k b x C,rfl⟩
section
variable{R:Type}{r:R}{P:Program}{J J':Bool->Nat->Prop}{β:Bt}{h:Ap}{w:World}{g:A1}
def LooksS.shutB(k:LooksS g h){b:Nat}{x:Blk}(C:g b=some x):LooksS g (D2 h b {x with sealed:=true}):=by
 intro c y hc
 rw[Ae]
 by_cases e:c=b
 ·subst e;rw[C]at hc;simp at hc;subst hc
  exact⟨{x with sealed:=true},by simp,rfl⟩
 ·rw[if_neg e];exact k c y hc
def mT(S:SimH J β h w){b off n:Nat}{y:Blk}{v:Value}(hb:Ah h b=some y)(hd:y.dead=false)(hp:y.pure=true)(C:Rep J β h w (.own b off n) v)
  (hJ:∀ k o,β b=some (k,o)->J' y.taint k) (L:∀ o k,J o k->J' o k) (t o:Bool):RepC (J' y.taint) w (.imm ((y.cells.drop off).take (n*y.sz)) n y.sz t o) v↔(t=true->∃ A cap,v=.slice A n cap/\cap=n):=by
 rw[Rep]at C
 obtain⟨x,A,cap,⟨G,Y⟩,rfl,D,C⟩:=C
 rw[hb]at G;simp at G;subst G
 rw[RepC]
 constructor
 ·rintro⟨_,A',cap',hv,_,ht,_⟩ h1
  exact⟨A',cap',hv,ht h1⟩
 ·intro ht
  have T:t=true->cap=n:=fun h1=>by
   obtain⟨A',cap',hv,hc⟩:=ht h1
   simp at hv;omega
  rcases C with C|⟨kk,oo,rfl,C⟩
  ·have:n=0:=by omega
   subst this
   exact⟨by simp,A,cap,rfl,D,T,.inl rfl⟩
  ·rcases C with C|⟨r1,r2,r3⟩
   ·simp[hd]at C
   ·rcases S.blk b y hb hd Y with⟨hn,_⟩|⟨k',o',cs,ty,fr,I,g1,g2,g3,g4,g5,g6⟩
    ·rw[r1]at hn;simp at hn
    ·rw[r1]at I;simp at I;obtain⟨rfl,rfl⟩:=I
     refine⟨by simp;omega,_,cap,rfl,D,T,.inr ⟨_,rfl,hJ _ _ r1,?_⟩⟩
     have:=((g4.1 hp).drop off).take (n*y.sz)
     refine RepCs.keep (fun k hk=>L _ k hk) (fun _ _=>rfl) (fun j=>?_) this
     rw[Addr.add_mid,Iu g1,Aaf]
def pe{b off n:Nat}{y:Blk}{v:Value}(G:Ah h b=some y)(D:Rep J β h w (.own b off n) v):y.mp=false:=by
 rw[Rep]at D
 obtain⟨x,A,cap,⟨k,C⟩,_⟩:=D
 rw[G]at k;simp at k;subst k;exact C
def sE{b off:Nat}{y:Blk}{v:Value}(I:Ah h b=some y)(G:Rep J β h w (.optr b off) v):y.mp=false:=by
 rw[Rep]at G
 obtain⟨x,k,o,⟨C,D⟩,_⟩:=G
 rw[I]at C;simp at C;subst C;exact D
def BG{v v':AV}{ups:C5}{org:Bool}{vc:Value}(S:SimH J β h w)(L:LooksS g h)(hh:FI g v=some (v',ups,org))(G:Rep J β h w v vc):
    ∃ J',Step J β h w J' β (Ai ups h) w/\RepC (J' org) w v' vc/\LooksS g (Ai ups h):=by
  unfold FI at hh
  split at hh
  · rename_i b off n
    obtain⟨x,D,h1⟩:=ub hh
    obtain⟨hp,Y⟩:=uc h1
    simp at Y
    obtain⟨rfl,rfl,rfl⟩:=Y
    unfold Et at D
    obtain⟨x0,I,D⟩:=ub D
    obtain⟨hd,D⟩:=kO D
    simp at D;subst D
    obtain⟨y,T,C⟩:=L b _ I
    have e1:y.cells=x0.cells:=by have:=congrArg Blk.cells C;simpa using this
    have e2:y.sz=x0.sz:=by have:=congrArg Blk.sz C;simpa using this
    have e3:y.taint=x0.taint:=by have:=congrArg Blk.taint C;simpa using this
    have e4:y.dead=x0.dead:=by have:=congrArg Blk.dead C;simpa using this
    have e5:y.pure=x0.pure:=by have:=congrArg Blk.pure C;simpa using this
    have A:=Step.shutB S T (by rw[e4];exact hd) (pe T G)
    refine⟨_,by simp only[Ai];rw[<-C];exact A,?_,by simp only[Ai];exact L.shutB I⟩
    have:=(mT (J':=fun o k=>J o k\/∃ o',β b=some (k,o')/\(y.taint=true->o=true)) S T (by rw[e4];exact hd) (by rw[e5];exact hp) G (fun k o hβ=>.inr ⟨o,hβ,id⟩) (fun o k hj=>.inl hj) false x0.taint).2 (by simp)
    rw[e1,e2,e3]at this
    rw[e3]
    exact this
  all_goals first
    |(simp at hh;done)
    | (simp at hh; obtain ⟨rfl, rfl, rfl⟩ := hh
       refine⟨J,Step.refl S,?_,L⟩
       first
         |(rw[Rep]at G;exact G)
         | skip)
  · cases v
    case imm=>rename_i hi _ _;exact absurd rfl (hi _ _ _ _ _)
    case iptr=>rename_i hi _;exact absurd rfl (hi _ _)
    case pagg=>rename_i hi;exact absurd rfl (hi _ _)
    all_goals first|(rw[Rep]at G;rw[RepC];exact G)|simp_all
def Lk:∀{c c':LA}{ups:C5}{org:Bool}{cs:List Value}{J:Bool->Nat->Prop}{h:Ap},SimH J β h w->LooksS g h->Rj g c=some (c',ups,org)->Reps J β h w c cs ->
  ∃ J',Step J β h w J' β (Ai ups h) w/\RepCs (J' org) w c' (fun j=>cs[j]?) 0/\c'.length=cs.length/\LooksS g (Ai ups h)
|[],c',ups,org,cs,J,h,S,I,hh,D=>by
  simp[Rj]at hh;obtain⟨rfl,rfl,rfl⟩:=hh
  rw[Reps]at D;subst D
  exact⟨J,Step.refl S,by simp[RepCs],rfl,I⟩
| v::r,c',ups,org,cs,J,h,S,I,hh,D=>by
  rw[Rj]at hh
  obtain⟨⟨v1,u1,o1⟩,hp,h1⟩:=ub hh
  obtain⟨⟨r2,u2,o2⟩,hq,h2⟩:=ub h1
  simp at h2
  obtain⟨rfl,rfl,rfl⟩:=h2
  rw[Reps]at D
  obtain⟨u,us,rfl,L,T⟩:=D
  obtain⟨J1,A,hA,Y⟩:=BG S I hp L
  obtain⟨J2,B,hB,G,hl2⟩:=Lk A.sim Y hq (Reps.ext A.ext T)
  refine⟨J2,by rw[Bu];exact A.trans B (fun _ _ _ _=>zE _),?_,by simp[G],by rw[Bu];exact hl2⟩
  have mono:∀{a b:Bool}(k:Nat),J2 a k->J2 (a||b) k:=fun{a b} k C=>by
   cases a
   ·cases b
    ·exact C
    ·exact B.sim.jft k C
   ·exact C
  have mono':∀{a b:Bool}(k:Nat),J2 b k->J2 (a||b) k:=fun{a b} k C=>by rw[Aed];exact mono k C
  rw[RepCs]
  refine⟨⟨u,by simp,?_⟩,?_⟩
  ·exact RepC.keep (J:=J1 o1) (fun k C=>mono k (B.ext.jsub _ k C)) (fun _ _=>rfl) hA
  ·have:=RepCs.keep (J':=J2 (o1||o2)) (w':=w) (fun k C=>mono' k C) (fun _ _=>rfl) (rd':=fun j=>us[j]?) (fun _=>rfl) hB
   rw[Bh]at this ⊢
   intro j x hj
   have h3:=this j x hj
   simp only[zU]at h3
   rw[show 1+j=j+1 by omega]
   simpa using h3
def Zo{v:AV}{c':LA}{ups:C5}{org:Bool}{vc:Value}(S:SimH J β h w)(G:LooksS g h)(hh:Qy g v=some (c',ups,org))(C:Rep J β h w v vc):
  ∃ J',Step J β h w J' β (Ai ups h) w/\RepCs (J' org) w c' (fun j=>vc.cells.toList[j]?) 0/\c'.length=vc.cells.toList.length/\LooksS g (Ai ups h):=by
 unfold Qy at hh
 split at hh
 ·rename_i c org'
  simp at hh;obtain⟨rfl,rfl,rfl⟩:=hh
  rw[Rep]at C
  obtain⟨cs,rfl,T,D⟩:=C
  exact⟨J,Step.refl S,D,by simp[Value.cells,T],G⟩
 ·rename_i c
  rw[Rep]at C
  obtain⟨cs,rfl,D⟩:=C
  exact Lk S G hh D
 ·rename_i v T D
  obtain⟨J',A,hA,k,I⟩:=Lk (cs:=[vc]) S G hh (by rw[Reps];exact⟨vc,[],rfl,C,by rw[Reps]⟩)
  have h3:vc.oneCell'=true:=by
   have L:c'.length=1:=k
   cases hc:c' with
   |nil=>simp[hc]at L
   |cons x r =>
    obtain⟨u,Y,hr⟩:=hA.at (j:=0) (x:=x) (by simp[hc])
    simp at Y;subst Y
    exact JR hr
  have h4:vc.cells=#[vc]:=by cases vc<;>simp_all[Value.cells,Value.oneCell']
  rw[h4]
  exact⟨J',A,hA,k,I⟩
end
end Gx
namespace Gx
open Go
def Bj:∀(ups:C5)(h:Ap)(b:Nat),Ay ups b=false->Ah (Ai ups h) b=Ah h b
|[],_,_,_=>rfl
| (i,some x)::r,h,b,hi=>by
  rw[Ay]at hi
  cases k:beq i b with
  |true=>rw[k]at hi;simp at hi
  |false =>
   rw[k]at hi
   rw[Ai,Bj r _ b hi,Ae,if_neg (fun e=>Pf k e.symm)]
| (i,none)::r,h,b,hi=>by
  rw[Ay]at hi
  cases k:beq i b with
  |true=>rw[k]at hi;simp at hi
  |false =>
   rw[k]at hi
   rw[Ai,Bj r _ b hi]
   split
   ·rw[Ae,if_neg (fun e=>Pf k e.symm)]
   ·rfl
def M8{c vs:LA}{off:Nat}(D:off+vs.length<=c.length)(j:Nat):(D8 c off vs)[j]?=if off<=j/\j<off+vs.length then vs[j - off]? else c[j]?:=by
 unfold D8
 rw[Aa9,zt]
 simp only[zT,zZ (show off<=c.length by omega)]
 by_cases k:j<off
 ·rw[if_pos k,if_neg (by omega),Aau,if_pos k]
 ·rw[if_neg k,zt]
  by_cases C:j - off<vs.length
  ·rw[if_pos C,if_pos (by omega)]
  ·rw[if_neg C,if_neg (by omega),zk];congr 1;omega
def H6{c vs:LA}{off:Nat}(k:off+vs.length<=c.length):(D8 c off vs).length=c.length:=by unfold D8;simp;omega
def Xk{c vs:LA}{off:Nat}(k:off+vs.length<=c.length)(j:Nat):(setCells c off vs)[j]?=if off<=j/\j<off+vs.length then vs[j - off]? else c[j]?:=by
 unfold setCells
 split
 ·rename_i y
  simp at k
  rw[List.getElem?_set]
  by_cases e:off=j
  ·subst e;simp;omega
  ·rw[if_neg e,if_neg (by simp;omega)]
 ·exact M8 k j
def Ko{c vs:LA}{off:Nat}(k:off+vs.length<=c.length):(setCells c off vs).length=c.length:=by
 unfold setCells
 split
 ·simp
 ·exact H6 k
section
variable{R:Type}{r:R}{P:Program}{J J':Bool->Nat->Prop}{β:Bt}{h:Ap}{w w':World}{g:A1}
def Hc{v:AV}{vc:Value}(hs:Vt g v=true)(C:Rep J β h w v vc):vc.oneCell'=true:=by
 cases v<;>simp[Vt]at hs
 case own=>rw[Rep]at C;obtain⟨x,A,cap,_,rfl,_⟩:=C;rfl
 case optr=>rw[Rep]at C;obtain⟨x,k,o,_,rfl,_⟩:=C;rfl
 case fn=>rw[Rep]at C;obtain⟨cs,rfl,_⟩:=C;rfl
 case imm=>rw[Rep,RepC]at C;obtain⟨_,A,cap,rfl,_⟩:=C;rfl
 case iptr=>rw[Rep,RepC]at C;obtain⟨a,rfl,_⟩:=C;rfl
 all_goals (rw[Rep]at C;subst C;rfl)
def Ll:∀{c:LA},H4 g c=true->∀(j:Nat)(x:AV),c[j]?=some x->Vt g x=true
|[],_,j,x,k=>by simp at k
|v::r,hs,j,x,k=>by
  rw[H4]at hs;simp at hs
  cases j with
  |zero=>simp at k;subst k;exact hs.1
  |succ j=>exact Ll hs.2 j x (by simpa using k)
def kZ{k:Nat}{cs C:Array Value}{ty:TypeId}{fr:Nat×Nat}(O:OnlyBlk w w' k cs C ty fr):∀ j,Aw w j<=Aw w' j:=fun j=>by
 by_cases e:j=k
 ·subst e;rw[C0 O.old,C0 O.new,O.sz];exact zE _
 ·simp[Aw,O.other j e]
def BH{t:TypeId}{k o:Nat}{vc:Value}{cs:Array Value}{ty:TypeId}{fr:Nat×Nat}(G:w.heap[k]?=some (.cells cs ty fr))(I:FrOk cs.size fr)
  (hs:A9 P t=some vc.cells.toList.length) (L:o+vc.cells.toList.length<=cs.size) (T:∀ u∈vc.cells.toList,u.oneCell'=true) :
  (Instr.storeAt t (.pointer (some ⟨k,o,none⟩)) vc).run P w=.ok () (w.setCells k o vc.cells.toList):=by
 have C:=run_storeCells_cells (P:=P) k o vc.cells.toList 0 w (fun j Y=>by
   rw[zg,Iu G];simp;omega)
  (fun j Y=>by
   rw[zg];simp only[World.frozen?,G]
   have:=I.at (o+j) (by omega)
   cases fr;simp at this ⊢;omega) T
 simp only[zg]at C
 have D:=Bw hs w
 simp only[Abt]at D
 simp[Instr.storeAt,Instr.sureAddr,storeVar,D,C]
def BI{c:LA}{org:Bool}{cs:List Value}(hc:RepCs (J org) w c (fun j=>cs[j]?) 0):∀{L:List (Nat×TypeId)}{C:LA}{k:LA->O R},Zj P c org L C k=some r ->
  (∀(j:Nat) x,C[j]?=some x->∃ u,cs[j]?=some u/\Rep J β h w x u)->∃ l:LA,k l=some r/\∀(j:Nat) x,l[j]?=some x->∃ u,cs[j]?=some u/\Rep J β h w x u
|[],C,k,hh,G=>⟨C,hh,G⟩
| (off,t)::L,C,k,hh,G=>by
  rw[Zj]at hh
  obtain⟨I,h1⟩:=uc hh
  simp at I
  obtain⟨v,h2,h3⟩:=Oc (β:=β) (h:=h) h1 (hc.drop off)
  refine BI hc h2 (fun j x D=>?_)
  rw[zt]at D
  split at D
  ·exact G j x D
  ·have T:j=C.length:=by
    have:=(zK.1 D).1
    simp at this;omega
   subst T
   simp at D;subst D
   rcases h3 with⟨d,hu,hd,u,h4,h5⟩|⟨d,hu,hd,_⟩
   ·refine⟨u,?_,h5⟩
    rw[I.1]at h4;simpa using h4
   ·exfalso
    have Y:=I.2
    unfold pU at Y
    rw[hu]at Y
    split at Y<;>simp_all[TypeDesc.isRow]
def eX{t:TypeId}{p v:AV}{vp vv:Value}{k:AV->C5->O R}(S:SimH J β h w)(hl:Looks g h)(hh:NE P g t p v k=some r)(hp:Rep J β h w p vp)(hv:Rep J β h w v vv):
  ∃ val ups,k val ups=some r/\∃ J' β' w',(Instr.storeAt t vp vv).run P w=.ok () w'/\Step J β h w J' β' (Ai ups h) w'/\val=.undef:=by
 unfold NE at hh
 split at hh
 ·rename_i b off
  obtain⟨x,hx,h1⟩:=ub hh
  obtain⟨n,hn,h2⟩:=ub h1
  obtain⟨hs,h3⟩:=kO h2
  obtain⟨hb,hd⟩:=Cu hl hx
  have hmpx:=sE hb hp
  cases hpu:x.pure with
  | true =>
   rw[hpu]at h3
   obtain⟨⟨c',u1,org⟩,hq,h4⟩:=ub h3
   obtain⟨hc,h5⟩:=uc h4
   simp at hc
   obtain⟨G,I,hc3⟩:=hc
   obtain⟨J1,A,hA,T,_⟩:=Zo S hl.s hq hv
   have hb1:Ah (Ai u1 h) b=some x:=by rw[Bj _ _ _ hc3];exact hb
   obtain⟨kk,o,cs,ty,fr,hβ,rfl,L,hf,hle,hcr,_,_⟩:=eQ A.sim hb1 hd (Rep.ext A.ext hp)
   obtain⟨cs',O,hO⟩:=OnlyBlk.setCells (k:=kk) vv.cells.toList (o+off) w cs L
   have hlen':off+c'.length<=x.cells.length:=by omega
   have hone:=RepCs.one hA T.symm
   have B:=Step.set (x':={ x with pure:=true,cells:=setCells x.cells off c',taint:=x.taint||org }) A.sim hb1 hd hs hβ O hd hs rfl (Ko hlen') (by
    refine⟨fun _=>?_,fun hh=>by simp at hh⟩
    have hold:=hcr.1 hpu
    rw[Bh]
    intro j y C
    simp only[Xk hlen']at C
    simp only[zU]
    have mono:∀{a b:Bool}(k:Nat),J1 a k->J1 (a||b) k:=fun{a b} k L=>by
     cases a
     ·cases b
      ·exact L
      ·exact A.sim.jft k L
     ·exact L
    split at C
    ·rename_i hj'
     obtain⟨u,hu,hr⟩:=hA.at C
     refine⟨u,?_,RepC.keep (J:=J1 org) (fun k L=>by rw[Aed];exact mono k L) (fun _ _=>rfl) hr⟩
     rw[hO,if_pos (by omega),<-hu];congr 1;omega
    ·rename_i hj'
     obtain⟨u,hu,hr⟩:=hold.at C
     refine⟨u,?_,RepC.keep (J:=J1 x.taint) (fun k L=>mono k L) (fun _ _=>rfl) hr⟩
     rw[hO,if_neg (by omega)];exact hu)
   refine⟨_,_,h5,J1,β,_,BH L hf.1 (by rw[<-T,G];exact hn) (by omega) hone,?_,rfl⟩
   rw[Bu]
   exact A.trans (B hmpx) (fun _ k _ _=>kZ O k)
  | false =>
   rw[hpu]at h3
   obtain⟨kk,o,cs,ty,fr,hβ,rfl,L,hf,hle,hcr,_,_⟩:=eQ S hb hd hp
   have go:∀(c:LA)(cells':LA),(∀(j:Nat)(y:AV),c[j]?=some y->∃ u,vv.cells.toList[j]?=some u/\Rep J β h w y u/\u.oneCell'=true)->c.length=vv.cells.toList.length->c.length=n->off+c.length<=x.cells.length ->
     cells'.length=x.cells.length->(∀ j:Nat,cells'[j]?=if off<=j/\j<off+c.length then c[j - off]? else x.cells[j]?) ->
     ∃ J' β' w',(Instr.storeAt t (.pointer (some ⟨kk,o+off,none⟩)) vv).run P w=.ok () w'/\Step J β h w J' β' (Ai [(b,some {x with pure:=false,cells:=cells'})] h) w':=by
    intro c cells' hc T hcn hoff hcl hget'
    obtain⟨cs',O,hO⟩:=OnlyBlk.setCells (k:=kk) vv.cells.toList (o+off) w cs L
    have B:=Step.set (x':={ x with pure:=false,cells:=cells' }) S hb hd hs hβ O hd hs rfl hcl (by
     refine⟨fun hh=>by simp at hh,fun _ j y C=>?_⟩
     simp only[hget']at C
     split at C
     ·rename_i hj'
      obtain⟨u,hu,hr,ho⟩:=hc _ _ C
      refine⟨u,?_,hr,ho⟩
      show cs'[o+j]?=some u
      rw[hO,if_pos (by omega),<-hu];congr 1;omega
     ·rename_i hj'
      obtain⟨u,hu,hr⟩:=hcr.2 hpu j y C
      refine⟨u,?_,hr⟩
      show cs'[o+j]?=some u
      rw[hO,if_neg (by omega)];exact hu)
    refine⟨J,β,_,BH L hf.1 (by rw[hn,<-hcn,T]) (by omega) (fun u hu=>?_),B hmpx⟩
    obtain⟨j,C,rfl⟩:=Aey hu
    obtain⟨u',hu',_,ho⟩:=hc j c[j] (zD (by omega))
    rw[zD C]at hu';simp only[Aba]at hu';rw[hu'];exact ho
   simp only[cond_false]at h3
   split at h3
   ·rename_i c
    obtain⟨hc,h5⟩:=uc h3
    simp at hc
    obtain⟨G,I,hc3⟩:=hc
    rw[Rep]at hv
    obtain⟨us,rfl,D⟩:=hv
    rw[Bq]at D
    obtain⟨J',β',w',g1,g2⟩:=go c (D8 x.cells off c) (fun j y C=>by
      have hlt:j<us.length:=by rw[D.1];exact(zK.1 C).1
      refine⟨us[j],by simp[Value.cells,zD hlt],D.2 j y _ C (zD hlt),Hc (Ll G j y C) (D.2 j y _ C (zD hlt))⟩)
     (by simp[Value.cells,D.1]) I (by omega) (H6 (by omega)) (M8 (by omega))
    exact⟨_,_,h5,J',β',w',g1,g2,rfl⟩
   ·rename_i c org
    cases hwh:beq off 0&&(beq c.length n&&beq x.cells.length n)with
    | false =>
     rw[hwh,cond_false]at h3
     obtain⟨_,h3⟩:=kO h3
     rw[Rep]at hv
     obtain⟨us,rfl,D,hrc⟩:=hv
     obtain⟨l,h4,h6⟩:=BI (β:=β) (h:=h) hrc h3 (fun j x C=>by simp at C)
     obtain⟨hc,h5⟩:=uc h4
     simp at hc
     obtain⟨hc0,G,I,hc3⟩:=hc
     obtain⟨J',β',w',g1,g2⟩:=go l (D8 x.cells off l) (fun j y C=>by
       obtain⟨u,hu,hr⟩:=h6 j y C
       exact⟨u,by simpa[Value.cells] using hu,hr,Hc (Ll G j y C) hr⟩)
      (by simp[Value.cells];omega) I (by omega) (H6 (by omega)) (M8 (by omega))
     exact⟨_,_,h5,J',β',w',g1,g2,rfl⟩
    |true =>
    rw[hwh,cond_true]at h3
    have h5:=h3
    have hc:=hwh
    simp at hc
    obtain⟨rfl,I,hc3⟩:=hc
    rw[Rep]at hv
    obtain⟨us,rfl,D,hrc⟩:=hv
    obtain⟨cs',O,hO⟩:=OnlyBlk.setCells (k:=kk) us (o+0) w cs L
    have B:=Step.set (x':={ x with pure:=true,taint:=org,cells:=c }) S hb hd hs hβ O hd hs rfl (by simp;omega) (by
     refine⟨fun _=>?_,fun hh=>by simp at hh⟩
     rw[Bh]
     intro j y C
     obtain⟨u,hu,hr⟩:=hrc.at C
     have hlt:j<us.length:=by rw[D];exact(zK.1 C).1
     refine⟨u,?_,hr⟩
     show cs'[o+(0+j)]?=some u
     rw[hO,if_pos (by omega),<-hu];congr 1;omega)
    exact⟨_,_,h5,J,β,_,BH (vc:=.agg ⟨us⟩) L hf.1 (by simp[Value.cells];rw[D,I];exact hn) (by simp[Value.cells];omega) (by simpa[Value.cells]using RepCs.one hrc D),B hmpx,rfl⟩
   ·rename_i hna
    obtain⟨hc,h5⟩:=uc h3
    simp at hc
    obtain⟨G,I,hc3⟩:=hc
    have ho:=Hc G hv
    have Y:vv.cells=#[vv]:=by cases vv<;>simp_all[Value.cells,Value.oneCell']
    obtain⟨J',β',w',g1,g2⟩:=go [v] (x.cells.set off v) (fun j y C=>by
      cases j with
      |zero=>simp at C;subst C;exact⟨vv,by simp[Y],hv,ho⟩
      |succ j=>simp at C) (by simp[Y]) (by simp;omega) (by simp;omega) (by simp) (fun j=>by
      have:=Xk (c:=x.cells) (vs:=[v]) (off:=off) (by simp;omega) j
      simpa[setCells] using this)
    exact⟨_,_,h5,J',β',w',g1,g2,rfl⟩
 ·simp at hh
end
end Gx
namespace Gx
open Go
section
variable{R:Type}{r:R}{P:Program}{J J':Bool->Nat->Prop}{β:Bt}{h:Ap}{w w':World}{g:A1}
def bW{v v':AV}{ups:C5}{org:Bool}(hh:FI g v=some (v',ups,org))(b:Nat)(D:Ay ups b=true):∃ x,g b=some x:=by
 unfold FI at hh
 split at hh
 ·rename_i G off n
  obtain⟨x,k,L⟩:=ub hh
  obtain⟨T,I⟩:=uc L
  simp at I
  obtain⟨rfl,rfl,rfl⟩:=I
  unfold Et at k
  obtain⟨x0,C,k⟩:=ub k
  have:G=b:=by
   cases e:beq G b with
   |true=>exact zM e
   |false=>simp[Ay,e]at D
  subst this;exact⟨x0,C⟩
 all_goals first
  |(simp at hh;done)
  |(simp at hh;obtain⟨rfl,rfl,rfl⟩:=hh;simp[Ay]at D)
def Fw:∀(a b:C5)(c:Nat),Ay (a++b) c=(Ay a c||Ay b c)
|[],_,_=>by simp[Ay]
|(i,_)::r,b,c=>by
  rw[Aax,Ay,Ay,Fw r b c]
  cases beq i c<;>simp
def Rq:∀{c c':LA}{ups:C5}{org:Bool},Rj g c=some (c',ups,org)->∀ b,Ay ups b=true->∃ x,g b=some x
|[],c',ups,org,hh,b,k=>by simp[Rj]at hh;obtain⟨rfl,rfl,rfl⟩:=hh;simp[Ay]at k
|v::r,c',ups,org,hh,b,k=>by
  rw[Rj]at hh
  obtain⟨⟨v1,u1,o1⟩,G,I⟩:=ub hh
  obtain⟨⟨r2,u2,o2⟩,hq,C⟩:=ub I
  simp at C
  obtain⟨rfl,rfl,rfl⟩:=C
  rw[Fw]at k
  cases D:Ay u1 b with
  |true=>exact bW G b D
  |false=>rw[D]at k;exact Rq hq b (by simpa using k)
def ZJ{v:AV}{c':LA}{ups:C5}{org:Bool}(hh:Qy g v=some (c',ups,org))(b:Nat)(k:Ay ups b=true):∃ x,g b=some x:=by
 unfold Qy at hh
 split at hh
 ·simp at hh;obtain⟨rfl,rfl,rfl⟩:=hh;simp[Ay]at k
 ·exact Rq hh b k
 ·exact Rq hh b k
def mU{ups:C5}{d:Nat}(C:Looks g h)(D:∀ b,Ay ups b=true->∃ x,g b=some x)(k:Ah h (nid d)=none):Ah (Ai ups h) (nid d)=none:=by
 rw[Bj]
 ·exact k
 ·cases G:Ay ups (nid d)with
  |false=>rfl
  |true =>
   obtain⟨x,I⟩:=D _ G
   rw[C _ _ I]at k;cases k
def OpDone(J:Bool->Nat->Prop)(β:Bt)(h:Ap)(w:World)(ups:C5)(val:AV)(vc:Value)(w':World):Prop:=∃ J' β',Step J β h w J' β' (Ai ups h) w'/\Rep J' β' (Ai ups h) w' val vc
def UpsFree(d:Nat)(h:Ap)(ups:C5):Prop:=∀ b,Ay ups b=true->Vw d b=true->Ah h b=none
def UpsFree.nid {d:Nat} {h:Ap} {ups:C5} (k:UpsFree d h ups) (hi:Ay ups (nid d)=true):Ah h (nid d)=none:=k _ hi (by
 have C:ble (Gx.nid d) (Gx.nid d)=true:=by simp
 have D:Nat.blt (Gx.nid d) (Gx.nid d+16)=true:=by simp
 rw[Vw,C,D];rfl)
def DU{d:Nat}{x:Blk}{cs:Array Value}{ty:TypeId}(S:SimH J β h w)(D:Ah h (nid d)=none)(G:x.dead=false)(hs:x.sealed=false)(k:x.cells.length<=cs.size)(hc:CellsRep J β h w x (fun j=>cs[j]?))(C:x.mp=false:=by rfl)(hty:TyOk x.ty ty 0 cs.size:=by exact TyOk.none):
  OpDone J β h w [(nid d,some x)] (.optr (nid d) 0) (.pointer (some ⟨w.heap.size,0,none⟩)) (w.alloc (.cells cs ty)):=by
 have A:=Step.new (ty:=ty) (fr:=(0,0)) S D G hs ⟨.inl rfl,hty⟩ k hc C
 refine⟨_,_,A,?_⟩
 rw[Rep]
 exact⟨x,w.heap.size,0,⟨by simp[Ai,Ae],C⟩,rfl,.inr (by simp)⟩
def OpDone.after{ups ups':C5}{val:AV}{vc:Value}{J1:Bool->Nat->Prop}{β1:Bt}{C:World}(A:Step J β h w J1 β1 (Ai ups h) C)(B:OpDone J1 β1 (Ai ups h) C ups' val vc w')
  (hs:∀ k,Aw w k<=Aw w' k):OpDone J β h w (ups++ups') val vc w':=by
 obtain⟨J2,β2,B1,B2⟩:=B
 exact⟨J2,β2,by rw[Bu];exact A.trans B1 (fun _ k _ _=>hs k),by rw[Bu];exact B2⟩
def Kv(w:World)(o:Obj):∀ k,Aw w k<=Aw (w.alloc o) k:=fun k=>by
 by_cases C:k<w.heap.size
 ·simp[Aw,Cx w _ C]
 ·simp[Aw,Aas (Aa7 C)]
def Xl{t:TypeId}{vc:Value}:(Instr.box t vc).run P w=.ok (.pointer (some ⟨w.heap.size,0,none⟩)) (w.alloc (.cells vc.cells t)):=by simp[Instr.box,newVar,newRow]
def eY{co:Bool}{t:TypeId}{v:AV}{vv:Value}{k:AV->O R}(hh:NG P co t v k=some r)(D:Rep J β h w v vv):∃ v',k v'=some r/\Rep J β h w v' vv:=by
 unfold NG at hh
 split at hh
 ·rename_i c org
  rw[Rep]at D
  obtain⟨cs,rfl,h1,G⟩:=D
  obtain⟨l,I,L⟩:=BI (β:=β) (h:=h) G hh (fun j x T=>by simp at T)
  obtain⟨Y,h6⟩:=uc I
  simp at Y
  refine⟨_,h6,?_⟩
  rw[Rep]
  refine⟨cs,rfl,Bq.2 ⟨by omega,fun j x u hx hu=>?_⟩⟩
  obtain⟨u',C,hr⟩:=L j x hx
  rw[hu]at C;simp at C;subst C;exact hr
 ·exact⟨_,hh,D⟩
def n7{t q m:Nat}(h:eC P t=some (q,m)):t=q/\A9 P t=some m:=by
 have key:∀{o:Option Nat},o=A9 P t->(o.map fun n=>(t,n))=some (q,m)->t=q/\A9 P t=some m:=by
  intro o k h
  cases o with
  |none=>simp at h
  |some n=>simp at h;exact⟨h.1,by rw[<-k,h.2]⟩
 unfold eC at h
 split at h
 ·obtain⟨f,_,h⟩:=ub h
  split at h
  ·obtain⟨_,h⟩:=uc h;exact key rfl h
  ·obtain⟨g,_,h⟩:=ub h
   split at h
   ·obtain⟨_,h⟩:=uc h;exact key rfl h
   ·cases h
  ·cases h
 ·cases h
def UW{d:Nat}{t:TypeId}{v:AV}{vv:Value}{k:AV->C5->O R}(S:SimH J β h w)(hl:Looks g h)(hh:iB P g d t v k=some r)(Y:Rep J β h w v vv):
  ∃ val ups,k val ups=some r/\(UpsFree d h ups->∃ vc w',(Instr.box t vv).run P w=.ok vc w'/\OpDone J β h w ups val vc w'):=by
 unfold iB at hh
 split at hh
 ·rename_i c org
  refine⟨_,_,hh,fun C=>⟨_,_,Xl,?_⟩⟩
  replace C:=C.nid (by simp[Li,Ay])
  rw[Rep]at Y
  obtain⟨cs,rfl,h1,I⟩:=Y
  exact DU S C rfl rfl (by simp[Value.cells,h1]) ⟨fun _=>by simpa[Value.cells]using I,fun L=>by simp at L⟩
 ·rename_i c
  cases L:mM P t with
  | true =>
   rw[L]at hh
   obtain⟨G,hh⟩:=uc hh
   simp only[zJ]at G
   obtain⟨G,T⟩:=G
   have T:=zM T
   refine⟨_,_,hh,fun C=>⟨_,_,Xl,?_⟩⟩
   replace C:=C.nid (by simp[Ay])
   rw[Rep]at Y
   obtain⟨cs,rfl,I⟩:=Y
   rw[Bq]at I
   have hty:TyOk (eC P t) t 0 (Value.agg ⟨cs⟩).cells.size:=fun q m hq=>by
    obtain⟨e1,e2⟩:=n7 hq
    refine⟨e1,rfl,.inr ?_⟩
    rw[e2]at T
    simp[Value.cells,I.1];simpa using T
   refine DU S C rfl rfl (by simp[Value.cells,I.1]) ⟨fun L=>by simp at L,fun _ j y hj=>?_⟩ rfl hty
   have hlt:j<cs.length:=by rw[I.1];exact(zK.1 hj).1
   exact⟨cs[j],by simp[Value.cells,hlt],I.2 j y _ hj (zD hlt),Hc (Ll G j y hj) (I.2 j y _ hj (zD hlt))⟩
  |false =>
   rw[L]at hh
   obtain⟨⟨c',u1,o1⟩,hq,h1⟩:=ub hh
   refine⟨_,_,h1,fun C=>⟨_,_,Xl,?_⟩⟩
   replace C:=C.nid (by simp[Fw,Li,Ay])
   rw[Rep]at Y
   obtain⟨cs,rfl,I⟩:=Y
   obtain⟨J1,A,hA,hlen,_⟩:=Lk S hl.s hq I
   refine OpDone.after A (DU A.sim (mU hl (Rq hq) C) rfl rfl (by simp[Value.cells,hlen]) ⟨fun _=>?_,fun L=>by simp at L⟩) (Kv _ _)
   simpa[Value.cells]using hA
 ·rename_i v h1 I
  obtain⟨G,hh⟩:=uc hh
  refine⟨_,_,hh,fun C=>⟨_,_,Xl,?_⟩⟩
  replace C:=C.nid (by simp[Li,Ay])
  have ho:=Hc G Y
  have D:vv.cells=#[vv]:=by cases vv<;>simp_all[Value.cells,Value.oneCell']
  refine DU S C rfl rfl (by simp[D]) ⟨fun L=>by simp at L,fun _ j y hj=>?_⟩
  cases j with
  |zero=>simp at hj;subst hj;exact⟨vv,by simp[D],Y,ho⟩
  |succ j=>simp at hj
end
end Gx
namespace Gx
open Go
def eZ(z:LA):∀(l j:Nat),j<l*z.length->(Dv l z)[j]?=z[j%z.length]?:=by
 have flat:∀(l j:Nat),j<l*z.length->((replicate l z).flatten)[j]?=z[j%z.length]?:=by
  intro l
  induction l with
  |zero=>intro j k;simp at k
  | succ l D =>
   intro j k
   rw[Adj,List.flatten_cons,zt]
   by_cases C:j<z.length
   ·rw[if_pos C,zf C]
   ·rw[if_neg C,D _ (by rw[Afd]at k;omega)]
    rw[Nat.mod_eq_sub_mod (a:=j) (by omega)]
 intro l j k
 unfold Dv
 split
 ·rename_i v
  simp at k
  simp[k,Nat.mod_one]
 ·exact flat l j k
def Eu(l:Nat)(z:LA):(Dv l z).length=l*z.length:=by
 unfold Dv
 split
 ·simp
 ·simp
section
variable{R:Type}{r:R}{P:Program}{J J':Bool->Nat->Prop}{β:Bt}{h:Ap}{w w':World}{g:A1}
def Xm{J:Nat->Prop}:∀{cs:List Value},Bs (Hp cs)=true->∀(j:Nat)(u:Value),cs[j]?=some u->∃ x,(Hp cs)[j]?=some x/\RepC J w x u
|[],_,j,u,k=>by simp at k
| v::r,D,j,u,k=>by
  have key:∃ x,M' v=x/\Bs (Hp r)=true/\RepC J w x v:=by
   rw[Hp]at D
   have C:=Xi (J:=fun _=>J) (β:=fun _=>none) (h:=[]) (w:=w) v
   cases G:M' v<;>rw[G]at D C<;>simp[Bs]at D<;>refine⟨_,rfl,D,?_⟩<;>(rw[Rep]at C;rw[RepC];exact C)
  obtain⟨x,G,I,C⟩:=key
  cases j with
  |zero=>simp at k;subst k;exact⟨x,by simp[Hp,G],C⟩
  |succ j =>
   obtain⟨y,L,T⟩:=Xm (J:=J) (cs:=r) I j u (by simpa using k)
   exact⟨y,by simpa[Hp]using L,T⟩
def Od:∀ cs:List Value,(Hp cs).length=cs.length
|[]=>rfl
|v::r=>by simp[Hp,Od r]
def Kw{t:TypeId}{z:LA}(k:FG P t=some z):∃ i v,P.info? t=some i/\i.zero=some v/\z=Hp v.cells.toList/\Bs z=true/\v.cells.size=i.size/\z.length=i.size:=by
 unfold FG at k
 obtain⟨i,hi,D⟩:=ub k
 obtain⟨v,G,I⟩:=ub D
 obtain⟨hc,C⟩:=uc I
 simp at C hc
 subst C
 exact⟨i,v,hi,G,rfl,hc.1,by simpa using hc.2,by rw[Od];simpa using hc.2⟩
def Xn{J:Nat->Prop}{v:Value}(Y:Bs (Hp v.cells.toList)=true)(l n:Nat)(hl:l*v.cells.size<=n):
  RepCs J w (Dv l (Hp v.cells.toList)) (fun j=>(madeCells v.cells n)[j]?) 0:=by
 rw[Bh]
 intro j x G
 have C:(Hp v.cells.toList).length=v.cells.size:=by rw[Od];simp
 have k:j<l*(Hp v.cells.toList).length:=by
  have:=(zK.1 G).1
  rwa [Eu]at this
 rw[eZ _ _ _ k]at G
 rw[C]at G k
 have D:0<v.cells.size:=by
  rcases z6 v.cells.size with I|I
  ·rw[I]at k;simp at k
  ·exact I
 have T:j%v.cells.size<v.cells.size:=Aav _ D
 obtain⟨y,L,h2⟩:=Xm (w:=w) (J:=J) Y (j%v.cells.size) v.cells[j%v.cells.size] (by simp[T])
 rw[G]at L;simp at L;subst L
 refine⟨_,?_,h2⟩
 have:j<n:=by omega
 simp[madeCells,this,getElem!_pos,T]
def JT{d n cap sz:Nat}{x:Blk}{cs:Array Value}{ty:TypeId}{fr:Nat×Nat}(S:SimH J β h w)(Y:Ah h (nid d)=none)(hd:x.dead=false)(hs:x.sealed=false)(L:x.sz=sz)
  (I:FrTy x.ty ty 0 cs.size fr) (k:x.cells.length=n*sz) (T:cap*sz<=cs.size) (C:n<=cap) (hc:CellsRep J β h w x (fun j=>cs[j]?)) (D:x.mp=false:=by rfl) :
  OpDone J β h w [(nid d,some x)] (.own (nid d) 0 n) (.slice (some ⟨w.heap.size,0,none⟩) n cap) (w.alloc (.cells cs ty fr)):=by
 have hle:n*sz<=cap*sz:=zI _ C
 have A:=Step.new (ty:=ty) (fr:=fr) S Y hd hs I (by omega) hc D
 refine⟨_,_,A,?_⟩
 rw[Rep]
 refine⟨x,_,cap,⟨by simp[Ai,Ae],D⟩,rfl,C,.inr ⟨w.heap.size,0,rfl,.inr ⟨by simp,?_,by rw[L,k];omega⟩⟩⟩
 have G:(w.alloc (.cells cs ty fr)).heap[w.heap.size]?=some (.cells cs ty fr):=by show(w.heap.push _)[_]?=_;simp
 rw[C0 G,L];omega
def iK{d:Nat}{t:TypeId}{l c:AV}{vl vc:Value}{k:AV->C5->O R}(S:SimH J β h w)(hh:bK P d t l c k=some r)(L:Rep J β h w l vl)(hc:Rep J β h w c vc):
  ∃ val ups,k val ups=some r/\(UpsFree d h ups->∃ u w',(Instr.makeSlice t vl vc).run P w=.ok u w'/\OpDone J β h w ups val u w'):=by
 unfold bK at hh
 split at hh
 ·rename_i Y l c hu
  obtain⟨sz,hs,h1⟩:=ub hh
  obtain⟨by_,T,h2⟩:=ub h1
  obtain⟨z,hz,h3⟩:=ub h2
  obtain⟨hq,h4⟩:=uc h3
  simp at hq
  obtain⟨q1,q2,q3,q4⟩:=hq
  rw[Rep]at L hc;subst L hc
  obtain⟨i,v,hi,hv,rfl,D,e1,e2⟩:=Kw hz
  have C:i.size=sz:=by simp[A9,hi]at hs;exact hs
  have G:i.bytes=by_:=by simp[d9,hi]at T;exact T
  have I:Ay (Li d true false sz (Dv l.toNat (Hp v.cells.toList))) (nid d)=true:=by simp[Li,Ay]
  refine⟨_,_,h4,fun hn=>⟨_,_,run_make w t Y i v hu hi hv _ _ l c q1 q2 (by rw[G,Int.mul_comm];omega) (by omega),?_⟩⟩
  refine JT (sz:=sz) S (hn.nid I) rfl rfl rfl FrTy.un0 ?_ (by rw[size_madeCells,C];exact zE _) (by omega) ⟨fun _=>?_,fun D=>by simp at D⟩
  ·show(Dv l.toNat (Hp v.cells.toList)).length=_
   rw[Eu,e2,C]
  ·exact Xn D _ _ (by rw[e1];exact zI _ (by omega))
 ·simp at hh
def Yield.src{sz n:Nat}{tx:TypeId}{vx:Value}{us:List Value}(Y:Yield P w sz vx n us)(k:eG P tx=true)(D:∀ u∈us,u.oneCell'=true):Src P sz tx vx n us w:=by
 refine⟨?_,Y.len,?_,?_,Y.length,D⟩
 ·unfold eG at k
  split at k
  ·rename_i e C;exact .inl ⟨e,C⟩
  ·rename_i C;exact .inr C
  ·simp at k
 ·have:=Y.cells w n (fun _=>rfl) (zE _)
  rwa [<-Y.length,zd]at this
 ·have:=Y.cells w.drew n (fun _=>rfl) (zE _)
  rwa [<-Y.length,zd]at this
def e_{J:Nat->Prop}{a b:LA}{us vs:List Value}(I:RepCs J w a (fun j=>us[j]?) 0)(L:RepCs J w b (fun j=>vs[j]?) 0)(T:a.length=us.length)(tail:List Value):
  RepCs J w (a++b) (fun j=>(us++vs++tail)[j]?) 0:=by
 rw[Bh]
 intro j x k
 rw[zt]at k
 simp only[zU]
 by_cases G:j<a.length
 ·rw[if_pos G]at k
  obtain⟨u,C,D⟩:=I.at k
  refine⟨u,?_,D⟩
  rw[Aa9,zt,if_pos (by omega)];exact C
 ·rw[if_neg G]at k
  obtain⟨u,C,D⟩:=L.at k
  refine⟨u,?_,D⟩
  have Y:j - a.length<vs.length:=(zK.1 C).1
  rw[Aa9,zt,if_neg (by omega),zt,if_pos (by omega),<-T];exact C
def Xo(w:World)(k:Nat):Aw w.drew k=Aw w k:=rfl
def UX{d sz n1 n2 cap0:Nat}{t tx ty C:TypeId}{i:TypeInfo}{z vx:Value}{A:Option Addr}{olds news:List Value}{c1 D:LA}{o:Bool}(S:SimH J β h w)(hn:Ah h (nid d)=none)
  (hu:P.underlying t=some (.slice C)) (hi:P.info? C=some i) (hz:i.zero=some z) (hsz:i.size=sz) (hzs:z.cells.size=sz)
  (G:∀ w':World,(∀ a,w'.cell? a=w.cell? a)->(Builtin.firstCells sz n1 (.slice A n1 cap0)).run P w'=.ok olds.toArray w') (I:olds.length=n1*sz)
  (Y:Yield P w sz vx n2 news) (ht:eG P tx=true) (ho:∀ u∈news,u.oneCell'=true)
  (h1:RepCs (J o) w c1 (fun j=>olds[j]?) 0) (L:c1.length=olds.length) (h2:RepCs (J o) w D (fun j=>news[j]?) 0) (h2l:D.length=news.length)
  (hg:cap0<n1+n2) (hb1:n1+n2<=140737488355328) (hb2:(n1+n2)*i.bytes<=140737488355328) {X:Option (Nat×Nat)} (hX:∀ q,X=some q->q=(C,0)) :
  ∃ u w',(Builtin.append_ #[t,tx] ty #[.slice A n1 cap0,vx]).run P w=.ok u w' /\
   OpDone J β h w [(nid d,some {dead:=false,sealed:=false,pure:=true,taint:=o,sz:=sz,cells:=c1++D,ty:=X})] (.own (nid d) 0 (n1+n2)) u w'/\(∀ k,Aw w k<=Aw w' k):=by
 subst hsz
 have run:=run_append_grow_src (P:=P) w t tx ty C i z hu hi hz A n1 cap0 olds (G w.drew (fun _=>rfl)) vx n2 news (Y.src ht ho) hg (by omega) (growslice_fits hg hb2)
 have T:n1+n2<=grownCap w (n1+n2) cap0 C:=by
  unfold grownCap;simp[Question.cut]
 refine⟨_,_,run,?_,?_⟩
 ·obtain⟨J',β',B1,B2⟩:=JT (d:=d) (n:=n1+n2) (cap:=grownCap w (n1+n2) cap0 C) (sz:=i.size) (ty:=C) (fr:=(0,0)) (x:={dead:=false,sealed:=false,pure:=true,taint:=o,sz:=i.size,cells:=c1++D,ty:=X})
   (cs:=(olds++news).toArray++Builtin.zeroCells z.cells (grownCap w (n1+n2) cap0 C - (n1+n2))) (Step.drew S).sim hn rfl rfl rfl ⟨.inl rfl,fun t m hm=>by have:=hX _ hm;simp at this;exact⟨this.1.symm,rfl,.inl this.2⟩⟩
   (by simp[L,h2l,I,Y.length,zS]) (by
    simp[Builtin.zeroCells,I,Y.length,hzs]
    rw[<-zS,<-zS];exact zI _ (by omega)) T
   ⟨fun _=>by
    have:=e_ h1 h2 L (Builtin.zeroCells z.cells (grownCap w (n1+n2) cap0 C - (n1+n2))).toList
    show RepCs (J o) w.drew (c1++D) _ 0
    refine RepCs.keep (J:=J o) (w:=w) (w':=w.drew) (fun _ hj=>hj) (fun _ _=>rfl) (fun j=>?_) this
    rw[<-Ael]
    simp,fun hp=>by simp at hp⟩
  exact⟨J',β',(Step.drew S).trans B1 (fun _ k _ _=>by rw[<-Xo];exact Kv _ _ k),B2⟩
 ·intro k;rw[<-Xo];exact Kv _ _ k
def DV{J:Bool->Nat->Prop}(D:∀ k,J false k->J true k)(a b:Bool)(k:Nat)(C:J a k):J (a||b) k:=by
 cases a
 ·cases b
  ·exact C
  ·exact D k C
 ·exact C
def UY{J:Bool->Nat->Prop}(C:∀ k,J false k->J true k)(a b:Bool)(k:Nat)(D:J b k):J (a||b) k:=by rw[Aed];exact DV C b a k D
def iL{d sz:Nat}{x:Blk}{A:Option Addr}(S:SimH J β h w)(C:Ah h (nid d)=none)(hc:x.cells=[])(k:x.mp=false:=by rfl):
  OpDone J β h w [(nid d,some x)] (.own (nid d) 0 0) (.slice A 0 0) w:=by
 refine⟨_,_,Step.newNone S C hc k,?_⟩
 rw[Rep]
 exact⟨x,A,0,⟨by simp[Ai,Ae],k⟩,rfl,zE _,.inl rfl⟩
def iM{g:A1}{k tx:TypeId}{s:AV}{q:Nat×Nat}(h:QD P g k tx s=some q):q=(k,0):=by
 unfold QD at h
 split at h
 ·split at h
  ·simp at h;exact h.symm
  ·cases h
 ·obtain⟨x,_,h⟩:=ub h
  obtain⟨y,_,h⟩:=ub h
  obtain⟨_,h⟩:=uc h
  simp at h;exact h.symm
 ·cases h
def pf{g:A1}{C tx b off n o m:Nat}{ty:TypeId}{y:Blk}(D:Et g b=some y)(G:TyOk y.ty ty o m):TyOk (QD P g C tx (.own b off n)) ty (o+off) m:=by
 intro t k h
 have e:=iM h
 simp at e;obtain⟨rfl,rfl⟩:=e
 unfold QD at h
 simp only[D,Aaq]at h
 obtain⟨q,hq,h⟩:=ub h
 obtain⟨hc,_⟩:=uc h
 simp only[zJ]at hc
 have c1:=zM hc.1
 have L:=zM hc.2.1
 have c3:=zM hc.2.2
 obtain⟨I,T,_⟩:=G q.1 q.2 hq
 exact⟨by rw[I,c1],by omega,.inl rfl⟩
def ZK {d:Nat} {t tx ty:TypeId} {s x:AV} {vs vx:Value} {k:AV->C5->O R} (S:SimH J β h w) (hl:Looks g h) (hh:DO P g d t tx s x k=some r) (hs:Rep J β h w s vs) (hx:Rep J β h w x vx) :
  ∃ val ups,k val ups=some r/\(UpsFree d h ups->∃ u w',(Builtin.append_ #[t,tx] ty #[vs,vx]).run P w=.ok u w'/\OpDone J β h w ups val u w'):=by
 unfold DO at hh
 split at hh
 ·rename_i el hu
  obtain⟨ht,h0⟩:=uc hh
  obtain⟨sz,hsz,h1⟩:=ub h0
  obtain⟨by_,hby,h2⟩:=ub h1
  obtain⟨zz,hz,h3⟩:=ub h2
  obtain⟨old,D,h4⟩:=ub h3
  obtain⟨new,us,h5,Y,I,hur⟩:=Xj (P:=P) S hl h4 hx
  obtain⟨hq,h6⟩:=uc h5
  simp at hq
  obtain⟨q1,q2⟩:=hq
  obtain⟨i,z,hi,hiz,rfl,hp,e1,e2⟩:=Kw hz
  have C:i.size=sz:=by simp[A9,hi]at hsz;exact hsz
  have hb':i.bytes=by_:=by simp[d9,hi]at hby;exact hby
  have G:=RepCs.one hur I.symm
  have hur':RepCs (J (old.2.2.1||new.2.2)) w new.1 (fun j=>us[j]?) 0:=RepCs.keep (J:=J new.2.2) (w:=w) (UY S.jft _ _) (fun _ _=>rfl) (fun _=>rfl) hur
  refine⟨_,_,h6,fun hn=>?_⟩
  replace hn:=hn.nid (by simp[Fw,Ay])
  have hX:∀ q,QD P g el tx s=some q->q=(el,0):=fun q=>iM
  have empty:∀(A:Option Addr),vs=.slice A 0 0->old.1=[]->old.2.1=0->old.2.2.2=[] ->
    ∃ u w',(Builtin.append_ #[t,tx] ty #[vs,vx]).run P w=.ok u w'/\OpDone J β h w (old.2.2.2++[(nid d,some {dead:=false,sealed:=false,pure:=true,taint:=old.2.2.1||new.2.2,sz,cells:=old.1++new.1,ty:=QD P g el tx s})]) (.own (nid d) 0 (old.2.1+new.2.1)) u w':=by
   intro A hA o1 o2 o3
   subst hA
   rw[o1,o2,o3]
   rcases z6 new.2.1 with h0|h0
   ·have hus:us=[]:=by have:=Y.length;rw[h0]at this;simpa using this
    subst hus
    have L:=Y.src ht G
    rw[h0]at L
    refine⟨_,_,run_append_nothing (P:=P) w t tx ty el i hu hi A 0 0 (zE _) vx (by rw[C];exact L),?_⟩
    rw[h0]
    have hnc:new.1=[]:=by simpa using I
    exact iL (sz:=sz) S hn (by simp[hnc])
   ·obtain⟨u,w',g1,g2,_⟩:=UX (ty:=ty) (c1:=[]) (olds:=[]) (n1:=0) (cap0:=0) (A:=A) S hn hu hi hiz C (by rw[e1,C]) (fun w' _=>by
      cases A with
      |none=>exact run_firstCells_none (P:=P) w' sz 0 0 0
      | some a=>exact run_firstCells_some (P:=P) w' sz 0 a 0 0 [] (by simp) (fun j v hv=>by simp at hv)) (by simp) Y ht G (by simp[RepCs]) rfl hur' I (by omega) (by rw[o2] at q1;omega) (by rw[o2,<-hb'] at q2;exact q2) hX
    exact⟨u,w',g1,g2⟩
  unfold mP at D
  split at D
  ·simp at D;subst D
   rw[Rep]at hs
   exact empty none hs rfl rfl rfl
  ·rename_i c n sz' org
   obtain⟨hz0,h7⟩:=uc D
   simp at hz0 h7;subst hz0;subst h7
   rw[Rep,RepC]at hs
   obtain⟨_,A,cap,hv,_,hcap,_⟩:=hs
   have:=hcap rfl;subst this
   exact empty A hv rfl rfl rfl
  ·rename_i b off n
   obtain⟨y,hy,h7⟩:=ub D
   obtain⟨hc,h8⟩:=uc h7
   simp at hc h8
   obtain⟨c1,c2,c3⟩:=hc
   subst h8;subst c3
   obtain⟨hb,hd⟩:=Cu hl hy
   simp only at *
   rw[Rep]at hs
   obtain⟨y',A,cap,⟨hy1,hmp⟩,rfl,hcap,hr⟩:=hs
   rw[hb]at hy1;simp at hy1;subst hy1
   have kill:=Step.kill (y:={y with dead:=true,pure:=true,cells:=[]}) S hb rfl
   have hkn:Ah (D2 h b {y with dead:=true,pure:=true,cells:=[]}) (nid d)=none:=by
    rw[Ae,if_neg (fun e=>by rw[<-e,hn]at hb;cases hb)];exact hn
   have T:Ai [(b,none)] h=D2 h b {y with dead:=true,pure:=true,cells:=[]}:=by simp[Ai,hb]
   by_cases hc0:cap=0
   ·have hn0:n=0:=by omega
    subst hc0;subst hn0
    have S':=kill.sim
    rcases z6 new.2.1 with h0|h0
    ·have hus:us=[]:=by have:=Y.length;rw[h0]at this;simpa using this
     subst hus
     have L:=Y.src ht G
     rw[h0]at L
     refine⟨_,_,run_append_nothing (P:=P) w t tx ty el i hu hi A 0 0 (zE _) vx (by rw[C];exact L),?_⟩
     rw[h0]
     have hnc:new.1=[]:=by simpa using I
     refine OpDone.after (ups:=[(b,none)]) (by rw[T];exact kill) ?_ (fun _=>zE _)
     rw[T]
     exact iL (sz:=y.sz) S' hkn (by simp[hnc])
    ·obtain⟨u,w',g1,g2,g3⟩:=UX (ty:=ty) (c1:=[]) (olds:=[]) (n1:=0) (cap0:=0) (A:=A) S' hkn hu hi hiz C (by rw[e1,C]) (fun w' _=>by
       cases A with
       |none=>exact run_firstCells_none (P:=P) w' y.sz 0 0 0
       | some a=>exact run_firstCells_some (P:=P) w' y.sz 0 a 0 0 [] (by simp) (fun j v hv=>by simp at hv)) (by simp) Y ht G (by simp[RepCs]) rfl hur' I (by omega) (by omega) (by rw[<-hb'] at q2;exact q2) hX
     refine⟨u,w',g1,OpDone.after (ups:=[(b,none)]) (by rw[T];exact kill) ?_ g3⟩
     rw[T];simpa[Li]using g2
   ·rcases hr with hr | ⟨kk,o,rfl,hr⟩
    ·exact absurd hr hc0
    ·rcases hr with hr|⟨r1,r2,r3⟩
     ·simp[hd]at hr
     ·rcases S.blk b y hb hd hmp with⟨hn',_⟩|⟨k',o',cs,ty',fr,hβ',g1,g2,g3,g4,g5,g6⟩
      ·rw[r1]at hn';simp at hn'
      ·rw[r1]at hβ';simp at hβ';obtain⟨rfl,rfl⟩:=hβ'
       have hbs:=C0 g1
       have hpure:=((g4.1 c1).drop off).take (n*y.sz)
       have hpl:((y.cells.drop off).take (n*y.sz)).length=n*y.sz:=by simp;omega
       by_cases hroom:n+new.2.1<=cap
       ·
        have hle:(n+new.2.1)*y.sz<=cap*y.sz:=zI _ hroom
        rw[zS]at hle
        have run:=run_append_room_src (P:=P) w t tx ty el i hu hi kk (o+off) n cap vx new.2.1 us (by rw[C];exact Y.src ht G) hroom (fun j hj=>by
          rw[C,Iu g1];have:=Y.length;simp;omega) (fun j hj=>by
          rw[C];simp only[World.frozen?,g1]
          have h9:=Y.length
          have:=g2.1.at (o+off+n*y.sz+j) (by omega)
          cases fr;simp at this ⊢;omega)
        rw[C]at run
        obtain⟨cs',O,hO⟩:=OnlyBlk.setCells (k:=kk) us (o+off+n*y.sz) w cs g1
        have h9:=Y.length
        have B:=Step.move (y:={y with dead:=true,pure:=true,cells:=[]}) (o':=o+off) (x':={dead:=false,sealed:=false,pure:=true,taint:=y.taint||new.2.2,sz:=y.sz,cells:=(y.cells.drop off).take (n*y.sz)++new.1,ty:=QD P g el tx (.own b off n)}) S hb hd c2 r1 hn rfl O rfl rfl
         (by rw[zq,hpl,I];omega) ⟨fun _=>by
          show RepCs (J (y.taint||new.2.2)) w ((y.cells.drop off).take (n*y.sz)++new.1) _ 0
          rw[Bh]
          intro j q hj
          rw[zt,hpl]at hj
          simp only[zU]
          by_cases hjn:j<n*y.sz
          ·rw[if_pos hjn]at hj
           obtain⟨v,hv,hvr⟩:=hpure.at hj
           refine⟨v,?_,RepC.keep (J:=J y.taint) (w:=w) (DV S.jft _ _) (fun _ _=>rfl) hvr⟩
           rw[hO,if_neg (by omega),Aaf];exact hv
          ·rw[if_neg hjn]at hj
           obtain⟨v,hv,hvr⟩:=hur'.at hj
           refine⟨v,?_,hvr⟩
           have:j - n*y.sz<us.length:=(zK.1 hv).1
           rw[hO,if_pos (by omega),<-hv];congr 1;omega,fun hp=>by simp at hp⟩ hmp (hty:=pf (P:=P) (tx:=tx) (n:=n) hy g2.2)
        refine⟨_,_,run,J,(fun b=>if b=nid d then some (kk,o+off)else β b),?_,?_⟩
        ·rw[Bu,T];exact B
        ·rw[Bu,T,Rep]
         refine⟨_,_,cap,⟨by simp[Li,Ai,Ae];rfl,rfl⟩,rfl,hroom,.inr ⟨kk,o+off,rfl,.inr ⟨by simp,?_,?_⟩⟩⟩
         ·rw[C0 O.new,O.sz];simp;omega
         ·simp only[zq,hpl,I,h9,zU];rw[zS];exact zE _
       ·
        obtain⟨olds,l1,l2,l3⟩:=hpure.list
        obtain⟨u,w',g1',g2',g3'⟩:=UX (ty:=ty) (c1:=(y.cells.drop off).take (n*y.sz)) (olds:=olds) (n1:=n) (cap0:=cap) (A:=some ⟨kk,o+off,none⟩) kill.sim hkn hu hi hiz C (by rw[e1,C]) (fun w' he =>
          run_firstCells_some (P:=P) w' y.sz n _ n cap olds (by rw[l1,hpl]) (fun j v hv=>by
           rw[he,Addr.add_mid,Iu g1,Aaf];exact l2 j v hv)) (by rw[l1,hpl]) Y ht G
          (RepCs.keep (J:=J y.taint) (w:=w) (DV S.jft _ _) (fun _ _=>rfl) (fun _=>rfl) l3) l1.symm hur' I (by omega) (by omega) (by rw[<-hb']at q2;exact q2) hX
        refine⟨u,w',g1',OpDone.after (ups:=[(b,none)]) (by rw[T];exact kill) ?_ g3'⟩
        rw[T];exact g2'
  ·simp at D
 ·simp at hh
end
end Gx
namespace Gx
open Go
section
variable{R:Type}{r:R}{P:Program}{J J':Bool->Nat->Prop}{β:Bt}{h:Ap}{w w':World}{g:A1}
def Step.retaint(S:SimH J β h w){d:Nat}{x:Blk}(hx:Ah h d=some x)(hd:x.dead=false)(hs:x.sealed=false)(hp:x.pure=true)(hxm:x.mp=false)(o:Bool):
  Step J β h w J β (D2 h d {x with taint:=x.taint||o}) w:=by
 have E:Ext J β h w J β (D2 h d {x with taint:=x.taint||o}) w:=by
  refine⟨fun _ _ hj=>hj,fun o k hj=>rfl,fun b z C=>?_,fun b k o hβ=>zE _⟩
  by_cases e:b=d
  ·subst e;rw[hx]at C;simp at C;subst C
   exact⟨{x with taint:=x.taint||o},⟨by rw[Ae,if_pos rfl],rfl⟩,.inr ⟨hd,rfl,rfl,fun _=>rfl⟩⟩
  ·refine⟨z,⟨by rw[Ae,if_neg e];exact C,rfl⟩,?_⟩
   cases hd:z.dead
   ·exact .inr ⟨rfl,rfl,rfl,fun _=>rfl⟩
   ·exact .inl rfl
 refine⟨E,⟨S.jlt,S.jft,S.gl.ext E,fun b z C D hm=>?_,fun b z C D hm=>by
   rw[Ae]at C
   by_cases e:b=d
   ·rw[if_pos e]at C;simp at C;subst C;simp[hxm]at hm
   ·rw[if_neg e]at C
    exact(S.mblk b z C D hm).keep rfl (fun k o hβ=>rfl) (fun _ _ _ _ hj=>hj),?_⟩,rfl,rfl,rfl,zE _,fun k hk _=>rfl,?_,fun _ _ hj=>.inl hj⟩
 ·rw[Ae]at C
  by_cases e:b=d
  ·rw[if_pos e]at C;simp at C;subst C;subst e
   rcases S.blk b x hx hd hxm with G|⟨k,o',I,L,T,G,h2,h3,h4,h5,h6,h7⟩
   ·exact .inl G
   ·refine .inr ⟨k,o',I,L,T,G,h2,h3,h4,CellsRep.ext E ⟨fun _=>?_,fun hh=>?_⟩,fun _=>h6 hs,fun hh=>by simp[hs]at hh⟩
    ·exact RepCs.keep (J:=J x.taint) (w:=w) (DV S.jft _ _) (fun _ _=>rfl) (fun _=>rfl) (h5.1 hp)
    ·simp[hp]at hh
  ·rw[if_neg e]at C
   rcases S.blk b z C D hm with G|⟨k,o,I,L,T,G,h2,h3,h4,h5,h6,h7⟩
   ·exact .inl G
   ·exact .inr ⟨k,o,I,L,T,G,h2,h3,h4,h5.ext E,h6,h7⟩
 ·intro b b' z z' k oo oo' C hb' hd1 hd2 Y hβ hβ'
  have get:∀{c y},Ah (D2 h d {x with taint:=x.taint||o}) c=some y->y.dead=false->∃ y',Ah h c=some y'/\y'.dead=false/\(y.sealed=false->y'.sealed=false):=by
   intro c y hc hyd
   rw[Ae]at hc
   by_cases e:c=d
   ·subst e;exact⟨x,hx,hd,fun _=>hs⟩
   ·rw[if_neg e]at hc;exact⟨y,hc,hyd,id⟩
  obtain⟨y1,g1,g2,g3⟩:=get C hd1
  obtain⟨y2,g4,g5,g6⟩:=get hb' hd2
  exact S.sep b b' y1 y2 k oo oo' g1 g4 g2 g5 (g3 Y) hβ hβ'
 ·rintro k ⟨b,z,o,C,D,Y,hβ⟩ hk
  rw[Ae]at C
  by_cases e:b=d
  ·subst e;exact⟨b,x,o,hx,hd,hs,hβ⟩
  ·rw[if_neg e]at C
   exact⟨b,z,o,C,D,Y,hβ⟩
def UZ(c:LA)(off:Nat):D8 c off []=c:=by simp[D8]
def QL{kd:IntKind}:∀(n:Nat)(c:LA)(k:LA->O R),HB kd n c k=some r->∃ vs,k vs=some r/\vs.length=n/\∀(j:Nat)(v:AV),vs[j]?=some v->(∃ i,v=.int kd i)/\c[j]?=some v
|0,_,k,h=>⟨[],h,rfl,by simp⟩
| n+1,c,k,h=>by
  rw[HB]at h
  obtain⟨x,L,h⟩:=ub h
  obtain⟨i,hi,h⟩:=ub h
  obtain⟨vs,T,Y,h3⟩:=QL n _ _ h
  refine⟨_,T,by simp[Y],fun j v C=>?_⟩
  cases j with
  | zero =>
   simp at C;subst C
   refine⟨⟨_,rfl⟩,?_⟩
   rw[<-zj,L]
   unfold FH at hi
   split at hi
   ·obtain⟨D,G⟩:=uc hi
    simp[G9]at D G;subst D;subst G;rfl
   ·cases hi
  |succ j =>
   simp at C
   obtain⟨h4,I⟩:=h3 j v C
   refine⟨h4,?_⟩
   rw[zk]at I
   rw[<-I,Acc]
def fA {t tx ty el sz b off n:TypeId} {y:Blk} {q:LA×Nat×Bool} {us:List Value} {vs vx:Value} {k:AV->C5->O R} (S:SimH J β h w) (hu:P.underlying t=some (.slice el)) (hsz:A9 P el=some sz) (hb:Ah h b=some y) (hd:y.dead=false)
  (hh:NH P el sz b off n y q k=some r) (hs:Rep J β h w (.own b off n) vs) (Y:Yield P w sz vx q.2.1 us) (hul:q.1.length=us.length) (hur:RepCs (J q.2.2) w q.1 (fun j=>us[j]?) 0) :
  ∃ val ups,k val ups=some r/\∃ u w',(Builtin.copy_ #[t,tx] ty #[vs,vx]).run P w=.ok u w'/\OpDone J β h w ups val u w':=by
 unfold NH at hh
 split at hh
 ·rename_i kd hk
  obtain⟨hc,h1⟩:=uc hh
  simp at hc
  obtain⟨c0,c1,c2,c3,c4,c5,c6⟩:=hc
  subst c0
  obtain⟨ws,h2,hw,hws⟩:=QL _ _ _ h1
  have hone:=RepCs.one hur hul.symm
  refine⟨_,_,h2,?_⟩
  rw[Rep]at hs
  obtain⟨y',A,cap,⟨G,hmp⟩,rfl,hcap,C⟩:=hs
  rw[hb]at G;simp at G;subst G
  have hm:Nat.min q.2.1 n=n:=Nat.min_eq_right c5
  have D:=Y.cells w n (fun _=>rfl) c5
  have hlen:=Y.len w
  rcases C with C|⟨kk,o,rfl,C⟩
  ·omega
  ·rcases C with C|⟨r1,r2,r3⟩
   ·simp[hd]at C
   ·rcases S.blk b y hb hd hmp with⟨hn',_⟩|⟨k',o',cs,ty',fr,I,g1,g2,g3,g4,g5,g6⟩
    ·rw[r1]at hn';simp at hn'
    ·rw[r1]at I;simp at I;obtain⟨rfl,rfl⟩:=I
     have hul':=Y.length
     have htl:(us.take (n*1)).length=n:=by rw[zT];omega
     obtain⟨cs',O,hO⟩:=OnlyBlk.setCells (k:=kk) (us.take (n*1)) (o+off) w cs g1
     have L:=run_storeCells_cells (P:=P) kk (o+off) (us.take (n*1)) 0 w (fun j hj=>by
       rw[zg,Iu g1];simp;omega)
      (fun j hj=>by
       rw[zg];simp only[World.frozen?,g1]
       have:=g2.1.at (o+off+j) (by omega)
       cases fr;simp at this ⊢;omega) (fun u hu=>hone u (Ab7 hu))
     simp only[zg]at L
     have B:=Step.set (x':={ y with cells:=D8 y.cells off ws }) S hb hd c3 r1 O hd c3 rfl (H6 (by omega)) ⟨fun hp=>by simp[c4] at hp,fun _=>by
      intro j x hj
      rw[M8 (by omega),hw]at hj
      split at hj
      ·obtain⟨⟨i,rfl⟩,h5⟩:=hws _ _ hj
       obtain⟨u,T,C⟩:=hur.at h5
       refine⟨u,?_,?_,?_⟩
       ·show cs'[o+j]?=some u
        rw[hO,if_pos (by omega),Aau,if_pos (by omega),<-T];congr 1;omega
       ·rw[RepC]at C;rw[Rep];exact C
       ·rw[RepC]at C;rw[C];rfl
      ·obtain⟨u,T,C⟩:=g4.2 c4 j x hj
       refine⟨u,?_,C⟩
       show cs'[o+j]?=some u
       rw[hO,if_neg (by omega)];exact T⟩ hmp
     refine⟨.int .i64 (n:Nat),_,?_,J,β,B,by rw[Rep]⟩
     simp only[zY]at L
     simp[Builtin.copy_,run_underlying hu,hlen,Bw hsz,hm,D,goInt,L]
 ·cases hh
def iN {t tx ty:TypeId} {s x:AV} {vs vx:Value} {k:AV->C5->O R} (S:SimH J β h w) (hl:Looks g h) (hh:bL P g t s x k=some r) (hs:Rep J β h w s vs) (hx:Rep J β h w x vx) :
  ∃ val ups,k val ups=some r/\∃ u w',(Builtin.copy_ #[t,tx] ty #[vs,vx]).run P w=.ok u w'/\OpDone J β h w ups val u w':=by
 unfold bL at hh
 split at hh
 ·rename_i el b off n hu
  obtain⟨sz,G,h1⟩:=ub hh
  obtain⟨y,hy,h2⟩:=ub h1
  obtain⟨new,us,h3,Y,hul,L⟩:=Xj (P:=P) S hl h2 hx
  obtain⟨hb,hd⟩:=Cu hl hy
  cases hcc:(y.pure&&(!y.sealed&&beq sz y.sz))with
  |false=>rw[hcc]at h3;exact fA S hu G hb hd h3 hs Y hul L
  |true =>
  rw[hcc]at h3
  have h4:=h3
  simp only[cond_true]at h4
  have hc:=hcc
  simp at hc
  obtain⟨c1,c2,c3⟩:=hc
  subst c3
  have hone:=RepCs.one L hul.symm
  refine⟨_,_,h4,?_⟩
  rw[Rep]at hs
  obtain⟨y',A,cap,⟨hy1,hmp⟩,rfl,hcap,I⟩:=hs
  rw[hb]at hy1;simp at hy1;subst hy1
  have hm:Nat.min new.2.1 n<=new.2.1:=Nat.min_le_left _ _
  have C:=Y.cells w (Nat.min new.2.1 n) (fun _=>rfl) hm
  have D:=Y.len w
  by_cases hn0:Nat.min new.2.1 n*y.sz=0
  ·
   refine⟨.int .i64 (Nat.min new.2.1 n:Nat),w,?_,J,β,?_,by rw[Rep]⟩
   ·have e:us.take (Nat.min new.2.1 n*y.sz)=[]:=by rw[hn0];rfl
    rw[e]at C
    cases A with
    |none=>simp[Builtin.copy_,run_underlying hu,D,Bw G,C,goInt]
    |some a=>simp[Builtin.copy_,run_underlying hu,D,Bw G,C,goInt,storeCells]
   ·have e:(new.1.take (min new.2.1 n*y.sz))=[]:=by
     have:min new.2.1 n*y.sz=0:=hn0
     rw[this];rfl
    have T:=Step.retaint S hb hd c2 c1 hmp new.2.2
    simp only[Ai]
    rw[e,UZ]
    exact T
  ·rcases I with I|⟨kk,o,rfl,I⟩
   ·have:n=0:=by omega
    subst this;simp at hn0
   ·rcases I with I|⟨r1,r2,r3⟩
    ·simp[hd]at I
    ·rcases S.blk b y hb hd hmp with⟨hn',_⟩|⟨k',o',cs,ty',fr,hβ',g1,g2,g3,g4,g5,g6⟩
     ·rw[r1]at hn';simp at hn'
     ·rw[r1]at hβ';simp at hβ';obtain⟨rfl,rfl⟩:=hβ'
      have hle1:Nat.min new.2.1 n*y.sz<=new.2.1*y.sz:=zI _ hm
      have hle2:Nat.min new.2.1 n*y.sz<=n*y.sz:=zI _ (Nat.min_le_right _ _)
      have hul':=Y.length
      have htl:(us.take (Nat.min new.2.1 n*y.sz)).length=Nat.min new.2.1 n*y.sz:=by rw[zT];omega
      have htl':(new.1.take (Nat.min new.2.1 n*y.sz)).length=Nat.min new.2.1 n*y.sz:=by rw[zT];omega
      obtain⟨cs',O,hO⟩:=OnlyBlk.setCells (k:=kk) (us.take (Nat.min new.2.1 n*y.sz)) (o+off) w cs g1
      have hst:=run_storeCells_cells (P:=P) kk (o+off) (us.take (Nat.min new.2.1 n*y.sz)) 0 w (fun j hj=>by
        rw[zg,Iu g1];simp;omega)
       (fun j hj=>by
        rw[zg];simp only[World.frozen?,g1]
        have:=g2.1.at (o+off+j) (by omega)
        cases fr;simp at this ⊢;omega) (fun u hu=>hone u (Ab7 hu))
      simp only[zg]at hst
      have B:=Step.set (x':={ y with cells:=D8 y.cells off (new.1.take (Nat.min new.2.1 n*y.sz)),taint:=y.taint||new.2.2 }) S hb hd c2 r1 O hd c2 rfl (H6 (by omega)) ⟨fun _=>by
       show RepCs (J (y.taint||new.2.2)) w (D8 y.cells off (new.1.take (Nat.min new.2.1 n*y.sz))) _ 0
       rw[Bh]
       intro j q hj
       rw[M8 (by omega),htl']at hj
       simp only[zU]
       split at hj
       ·obtain⟨u,hu',I⟩:=(L.take _).at hj
        refine⟨u,?_,RepC.keep (J:=J new.2.2) (w:=w) (UY S.jft _ _) (fun _ _=>rfl) I⟩
        rw[hO,if_pos (by omega),Aau,if_pos (by omega),<-hu'];congr 1;omega
       ·obtain⟨u,hu',I⟩:=(g4.1 c1).at hj
        refine⟨u,?_,RepC.keep (J:=J y.taint) (w:=w) (DV S.jft _ _) (fun _ _=>rfl) I⟩
        rw[hO,if_neg (by omega)];exact hu',fun hp=>by simp[c1] at hp⟩ hmp
      refine⟨.int .i64 (Nat.min new.2.1 n:Nat),_,?_,J,β,B,by rw[Rep]⟩
      simp[Builtin.copy_,run_underlying hu,D,Bw G,C,goInt,hst]
 ·rename_i el hu
  obtain⟨sz,G,h1⟩:=ub hh
  obtain⟨new,us,h2,Y,hul,L⟩:=Xj (P:=P) S hl h1 hx
  rw[Rep]at hs;subst hs
  have D:=Y.len w
  have C:=Y.cells w 0 (fun _=>rfl) (Abx _)
  simp at C
  refine⟨_,_,h2,.int .i64 0,w,?_,J,β,Step.refl S,by rw[Rep]⟩
  have hm:∀ m:Nat,Nat.min m 0=0:=fun m=>Nat.min_eq_right (Abx _)
  simp[Builtin.copy_,run_underlying hu,D,Bw G,hm,C,goInt]
 ·simp at hh
def fB {t ty:TypeId} {s:AV} {vs:Value} {k:AV->C5->O R} (S:SimH J β h w) (hl:Looks g h) (hh:NI P g t s k=some r) (hs:Rep J β h w s vs) :
  ∃ val ups,k val ups=some r/\∃ u w',(Builtin.clear_ #[t] ty #[vs]).run P w=.ok u w'/\OpDone J β h w ups val u w':=by
 unfold NI at hh
 split at hh
 ·rename_i el b off n hu
  obtain⟨sz,hsz,h1⟩:=ub hh
  obtain⟨z,hz,h2⟩:=ub h1
  obtain⟨y,hy,h3⟩:=ub h2
  obtain⟨hc,h4⟩:=uc h3
  simp at hc
  obtain⟨c1,c2,c3⟩:=hc
  subst c3
  obtain⟨hb,hd⟩:=Cu hl hy
  obtain⟨i,v,hi,hv,rfl,hp,e1,e2⟩:=Kw hz
  have hs':i.size=y.sz:=by simp[A9,hi]at hsz;exact hsz
  have hzv:∀ w,(zeroValue el).run P w=.ok v w:=fun w=>by simp[zeroValue,typeInfo,hi,hv]
  have D:=Eu n (Hp v.cells.toList)
  rw[e2,hs']at D
  have hzc:Builtin.zeroCells v.cells n=madeCells v.cells (n*v.cells.size):=rfl
  have hul:(Builtin.zeroCells v.cells n).toList.length=n*y.sz:=by rw[hzc,Abt,size_madeCells,e1,hs']
  have hur:RepCs (J y.taint) w (Dv n (Hp v.cells.toList)) (fun j=>(Builtin.zeroCells v.cells n).toList[j]?) 0:=by
   have:=Xn (J:=J y.taint) (w:=w) hp n (n*v.cells.size) (zE _)
   rw[<-hzc]at this
   simpa using this
  have hone:=RepCs.one hur (by rw[hul,D])
  refine⟨_,_,h4,?_⟩
  rw[Rep]at hs
  obtain⟨y',A,cap,⟨I,L⟩,rfl,hcap,C⟩:=hs
  rw[hb]at I;simp at I;subst I
  by_cases G:n*y.sz=0
  ·have e0:(Builtin.zeroCells v.cells n).toList=[]:=Ac8 (by rw[hul,G])
   refine⟨.tuple #[],w,?_,J,β,?_,by rw[Rep];exact⟨[],rfl,by rw[Reps]⟩⟩
   ·cases n with
    |zero=>cases A<;>simp[Builtin.clear_,run_underlying hu]
    |succ n =>
     cases A with
     |none=>simp[Builtin.clear_,run_underlying hu]
     |some a=>simp[Builtin.clear_,run_underlying hu,hzv,e0,storeCells]
   ·have e:Dv n (Hp v.cells.toList)=[]:=Ac8 (by rw[D,G])
    have T:=Step.retaint S hb hd c2 c1 L false
    simp only[Ai]
    rw[e,UZ]
    simpa using T
  ·rcases C with C|⟨kk,o,rfl,C⟩
   ·have:n=0:=by omega
    subst this;simp at G
   ·rcases C with C|⟨r1,r2,r3⟩
    ·simp[hd]at C
    ·rcases S.blk b y hb hd L with⟨hn',_⟩|⟨k',o',cs,ty',fr,Y,g1,g2,g3,g4,g5,g6⟩
     ·rw[r1]at hn';simp at hn'
     ·rw[r1]at Y;simp at Y;obtain⟨rfl,rfl⟩:=Y
      obtain⟨cs',O,hO⟩:=OnlyBlk.setCells (k:=kk) (Builtin.zeroCells v.cells n).toList (o+off) w cs g1
      have hst:=run_storeCells_cells (P:=P) kk (o+off) (Builtin.zeroCells v.cells n).toList 0 w (fun j hj=>by
        rw[zg,Iu g1];simp;omega)
       (fun j hj=>by
        rw[zg];simp only[World.frozen?,g1]
        have:=g2.1.at (o+off+j) (by omega)
        cases fr;simp at this ⊢;omega) (fun u hu=>hone u hu)
      simp only[zg]at hst
      have B:=Step.set (x':={ y with cells:=D8 y.cells off (Dv n (Hp v.cells.toList)) }) S hb hd c2 r1 O hd c2 rfl (H6 (by omega)) ⟨fun _=>by
       show RepCs (J y.taint) w (D8 y.cells off (Dv n (Hp v.cells.toList))) _ 0
       rw[Bh]
       intro j q hj
       rw[M8 (by omega),D]at hj
       simp only[zU]
       split at hj
       ·obtain⟨u,hu',C⟩:=hur.at hj
        refine⟨u,?_,C⟩
        rw[hO,if_pos (by omega),<-hu'];congr 1;omega
       ·obtain⟨u,hu',C⟩:=(g4.1 c1).at hj
        refine⟨u,?_,C⟩
        rw[hO,if_neg (by omega)];exact hu',fun hp=>by simp[c1] at hp⟩ L
      refine⟨.tuple #[],_,?_,J,β,B,by rw[Rep];exact⟨[],rfl,by rw[Reps]⟩⟩
      cases n with
      |zero=>simp at G
      |succ n=>simp[Builtin.clear_,run_underlying hu,hzv,hst]
 ·simp at hh
def FO:∀{c:LA}{s:Lu}{us:List Value}{J:Nat->Prop},JI c=some s->RepCs J w c (fun j=>us[j]?) 0->c.length=us.length ->
  ∃ ns:List Int,us=ns.map (Value.int .u8)/\s=ns.map (fun n=>UInt8.ofNat n.toNat)
|[],s,us,J,G,hc,L=>by
  simp[JI]at G;subst G
  have:us=[]:=by cases us<;>simp_all
  exact⟨[],by simp[this],rfl⟩
| x::r,s,us,J,G,hc,L=>by
  rw[JI]at G
  obtain⟨b,k,h1⟩:=ub G
  obtain⟨l,T,h2⟩:=ub h1
  simp at h2;subst h2
  cases us with
  |nil=>simp at L
  | cons u us =>
   rw[RepCs]at hc
   obtain⟨⟨u',I,hr⟩,C⟩:=hc
   simp at I;subst I
   unfold pS at k
   split at k
   ·rename_i n
    simp at k;subst k
    rw[RepC]at hr;subst hr
    have D:RepCs J w r (fun j=>us[j]?) 0:=by
     rw[Bh]at C ⊢
     intro j y hj
     obtain⟨v,hv,Y⟩:=C j y hj
     refine⟨v,?_,Y⟩
     rw[show 0+1+j=j+1 by omega]at hv
     simpa using hv
    obtain⟨ns,h3,h4⟩:=FO T D (by simpa using L)
    exact⟨n::ns,by simp[h3],by simp[h4]⟩
   ·simp at k
def pg:∀(ns:List Int)(s:Lu),(ns.foldl (fun r n=>r.push (UInt8.ofNat n.toNat)) (⟨⟨s⟩⟩:ByteArray))=⟨⟨s++ns.map fun n=>UInt8.ofNat n.toNat⟩⟩
|[],s=>by simp
| n::r,s=>by
  rw[Aei]
  have:(⟨⟨s⟩⟩:ByteArray).push (UInt8.ofNat n.toNat)=⟨⟨s++[UInt8.ofNat n.toNat]⟩⟩:=by
   simp[ByteArray.push]
  rw[this,pg r];simp
def iO {d:Nat} {src dst:TypeId} {x:AV} {vx:Value} {k:AV->C5->O R} (S:SimH J β h w) (hl:Looks g h) (hh:bM P g d src dst x k=some r) (C:Rep J β h w x vx) :
  ∃ val ups,k val ups=some r/\(UpsFree d h ups->∃ u w',(convert src dst vx).run P w=.ok u w'/\OpDone J β h w ups val u w'):=by
 unfold bM at hh
 split at hh
 ·rename_i kd L
  split at hh
  ·rename_i kd' n
   rw[Rep]at C;subst C
   obtain⟨hsome,h1⟩:=uc hh
   obtain⟨s,hs⟩:=Ad6.1 hsome
   refine⟨_,_,h1,fun _=>⟨.int kd (kd.wrap n),w,?_,J,β,Step.refl S,by rw[Rep]⟩⟩
   cases s<;>simp[convert,run_underlying hs,run_underlying L,Conv.intToInt]
  ·simp at hh
 ·rename_i L
  split at hh
  ·rename_i hs
   split at hh
   ·rename_i s
    rw[Rep]at C;subst C
    refine⟨_,_,hh,fun _=>⟨.string ⟨⟨s⟩⟩,w,?_,J,β,Step.refl S,by rw[Rep]⟩⟩
    simp[convert,run_underlying hs,run_underlying L]
   ·simp at hh
  ·rename_i I hs
   split at hh
   ·rename_i he
    split at hh
    ·simp at hh
    ·rename_i hns
     obtain⟨q,hq,h1⟩:=ub hh
     obtain⟨s,hs',h2⟩:=ub h1
     obtain⟨us,Y,hul,hur⟩:=QK (P:=P) S hl hq C
     obtain⟨ns,e1,e2⟩:=FO hs' hur hul
     refine⟨_,_,h2,fun _=>⟨.string ⟨⟨s⟩⟩,w,?_,J,β,Step.refl S,by rw[Rep]⟩⟩
     have hv:∃ A n cap,vx=.slice A n cap:=by
      unfold bI at hq
      split at hq
      ·rw[Rep]at C;exact⟨_,_,_,C⟩
      ·rw[Rep,RepC]at C;obtain⟨_,A,cap,rfl,_⟩:=C;exact⟨_,_,_,rfl⟩
      ·rw[Rep]at C;obtain⟨_,A,cap,_,rfl,_⟩:=C;exact⟨_,_,_,rfl⟩
      ·exact absurd rfl (hns _)
      ·simp at hq
     obtain⟨A,n,cap,rfl⟩:=hv
     have hn:q.2.1=n:=by have:=Y.len w;simpa[Builtin.lenOf]using this.symm
     have hc:=Y.cells w n (fun _=>rfl) (by omega)
     have hyl:=Y.length
     rw[hn]at hyl
     rw[show us.take (n*1)=us by rw[<-hyl,zd]]at hc
     have hconv:(convert src dst (.slice A n cap)).run P w=(Conv.bytesToString (.slice A n cap)).run P w:=by
      cases A<;>simp[convert,run_underlying hs,run_underlying L,run_underlying he]
     rw[hconv]
     cases A with
     |none =>
      rw[run_firstCells_none]at hc
      injection hc with hc1 _
      have hus:us=[]:=by simpa using hc1.symm
      rw[hus]at e1
      have hns':ns=[]:=by simpa using e1.symm
      rw[hns']at e2
      simp at e2;subst e2
      simp[Conv.bytesToString];rfl
     |some a =>
      simp only[Builtin.firstCells,zY]at hc
      rw[e1]at hc
      rw[run_bytesToString w a n cap ns hc,e2]
      have:=pg ns []
      simp at this
      rw[<-this];rfl
   ·simp at hh
  ·simp at hh
 ·rename_i I L
  split at hh
  ·rename_i e' b off n hs he
   obtain⟨D,h1⟩:=uc hh
   simp only[zJ]at D
   obtain⟨D,hn1⟩:=D
   have hn1:1<=n:=by simpa using hn1
   have D:=zM D
   subst D
   have hee:e'=I:=by rw[hs]at L;simpa using L
   subst hee
   obtain⟨x,G,h2⟩:=ub h1
   obtain⟨hsl,h3⟩:=kO h2
   obtain⟨G,hd⟩:=Cu hl G
   refine⟨_,_,h3,fun _=>?_⟩
   have hx':=C
   rw[Rep]at C
   obtain⟨x0,A,cap,⟨hx0,hmp⟩,rfl,hle,hr⟩:=C
   rw[G]at hx0;simp at hx0;subst hx0
   rcases hr with hr|⟨k1,o1,rfl,hr⟩
   ·omega
   ·rcases hr with hr|⟨hβ,_,_⟩
    ·simp[hd]at hr
    ·rcases S.blk b x G hd hmp with⟨h4,_⟩|⟨k2,o2,cs,ty,fr,h4,h5,h6,h7,h8,h9,h10⟩
     ·rw[hβ]at h4;simp at h4
     ·rw[hβ]at h4;simp at h4;obtain⟨rfl,rfl⟩:=h4
      have hsh:w.shape? k1=some (ty,cs.size):=by simp[World.shape?,h5]
      have hnew:∃ fr',(w.freeze ⟨k1,cs.size,none⟩ 1).heap[k1]?=some (.cells cs ty fr')/\FrOk cs.size fr':=by
       obtain⟨lo,hi⟩:=fr
       refine⟨if lo==hi then(cs.size,cs.size+1)else(min lo cs.size,max hi (cs.size+1)),?_,?_⟩
       ·simp[World.freeze,Aaj,h5]
       ·by_cases e:lo=hi
        ·simp[e,FrOk]
        ·have h11:cs.size<=lo:=by rcases h6 with h6|h6;exact absurd h6 e;exact h6
         simp[e,FrOk];omega
      obtain⟨fr',hf1,hf2⟩:=hnew
      have A:=Step.mark S G hd hsl hβ h5 hf1 hf2 (fun j T=>by
       simp only[World.freeze]
       rw[if_neg (by decide)]
       show(w.heap.modify k1 _)[j]?=_
       rw[Aaj,if_neg (fun e=>T e.symm)]) (by simp[World.freeze]) rfl rfl rfl hmp
      refine⟨_,w.freeze ⟨k1,cs.size,none⟩ 1,?_,J,β,A,Rep.ext A.ext hx'⟩
      simp[convert,run_underlying hs,run_underlying he,markStringish,hsh]
  ·rename_i s hs he
   rw[Rep]at C;subst C
   refine⟨_,_,hh,fun hn=>⟨_,_,run_bytes_of_string (P:=P) w src dst I ⟨⟨s⟩⟩ hs L he,?_⟩⟩
   replace hn:=hn.nid (by simp[Li,Ay])
   have hsz:(⟨⟨s⟩⟩:ByteArray).size=s.length:=rfl
   have hcap:s.length<=grownCap w s.length 0 I:=by unfold grownCap;simp[Question.cut]
   rw[hsz]
   obtain⟨J',β',B1,B2⟩:=JT (d:=d) (n:=s.length) (cap:=grownCap w s.length 0 I) (sz:=1) (ty:=I) (fr:=((bytesRow ⟨⟨s⟩⟩ (grownCap w s.length 0 I)).size,(bytesRow ⟨⟨s⟩⟩ (grownCap w s.length 0 I)).size+1))
    (x:={dead:=false,sealed:=false,pure:=true,taint:=false,sz:=1,cells:=s.map fun b=>.int .u8 (b.toNat:Int)})
    (cs:=bytesRow ⟨⟨s⟩⟩ (grownCap w s.length 0 I)) (Step.drew S).sim hn rfl rfl rfl (FrOk.un (.inr (zE _))) (by simp) (by simp[bytesRow,hsz];omega) hcap
    ⟨fun _=>by
     show RepCs (J false) w.drew (s.map fun b=>.int .u8 (b.toNat:Int)) _ 0
     rw[Bh]
     intro j q T
     rw[Abo]at T
     cases hb:s[j]? with
     |none=>rw[hb]at T;simp at T
     |some b =>
      rw[hb]at T;simp at T;subst T
      refine⟨.int .u8 (b.toNat:Int),?_,by rw[RepC]⟩
      have hlt:j<s.length:=(zK.1 hb).1
      simp only[zU,bytesRow]
      rw[Abk (by simp;exact hlt)]
      simp[hb],fun hp=>by simp at hp⟩
   exact⟨J',β',(Step.drew S).trans B1 (fun _ k _ _=>by rw[<-Xo];exact Kv _ _ k),B2⟩
  ·simp at hh
 ·simp at hh
def U_{t:TypeId}{n:Nat}(h:A9 P t=some n):∃ j,P.info? t=some j/\j.size=n:=by
 unfold A9 at h
 cases hq:P.info? t with
|none=>rw[hq]at h;cases h
|some j=>rw[hq]at h;simp at h;exact⟨j,rfl,h⟩
def fC{d:Nat}{src dst:TypeId}{x:AV}{vx:Value}{k:AV->C5->O R}(S:SimH J β h w)(hl:Looks g h)(hh:NJ P g d src dst x k=some r)(I:Rep J β h w x vx):
  ∃ val ups,k val ups=some r/\(UpsFree d h ups->∃ u w',(convert src dst vx).run P w=.ok u w'/\OpDone J β h w ups val u w'):=by
 unfold NJ at hh
 split at hh
 ·rename_i hd
  split at hh
  ·rename_i t b off hs
   obtain⟨n,hn,hh⟩:=ub hh
   obtain⟨y,hy,hh⟩:=ub hh
   obtain⟨hc,hh⟩:=uc hh
   simp at hc
   obtain⟨G,C⟩:=Cu hl hy
   have L:=I
   rw[Rep]at I
   obtain⟨x1,k1,o1,⟨T,gm⟩,rfl,D⟩:=I
   rw[G]at T;simp at T;subst T
   rcases D with D|D
   ·rw[D]at C;cases C
   obtain⟨j,hj,Y⟩:=U_ hn
   rcases S.blk b y G C gm with⟨e1,e2⟩|⟨k2,o2,cs,ty,fr,e1,e2,e3,e4,e5⟩
   ·rw[D]at e1;cases e1
   ·rw[D]at e1;simp at e1;obtain⟨rfl,rfl⟩:=e1
    refine⟨_,_,hh,fun _=>⟨_,w,Lib.run_to_unsafe w ⟨k1,o1+off,none⟩ hs hd hj (by rw[Y];exact fun e=>by rw[e]at hc;simp at hc) (e:=ty) (cells:=cs.size) (by simp[World.shape?,e2]) (by show o1+off<_;omega),J,β,Step.refl S,L⟩⟩
  ·cases hh
 ·rename_i u hd
  split at hh
  ·rename_i b off hs
   obtain⟨n,hn,hh⟩:=ub hh
   obtain⟨y,hy,hh⟩:=ub hh
   obtain⟨q,hq,hh⟩:=ub hh
   obtain⟨hc,hh⟩:=uc hh
   simp at hc
   obtain⟨G,C⟩:=Cu hl hy
   have L:=I
   rw[Rep]at I
   obtain⟨x1,k1,o1,⟨T,gm⟩,rfl,D⟩:=I
   rw[G]at T;simp at T;subst T
   rcases D with D|D
   ·rw[D]at C;cases C
   obtain⟨j,hj,Y⟩:=U_ hn
   rcases S.blk b y G C gm with⟨e1,e2⟩|⟨k2,o2,cs,ty,fr,e1,e2,e3,e4,e5⟩
   ·rw[D]at e1;cases e1
   ·rw[D]at e1;simp at e1;obtain⟨rfl,rfl⟩:=e1
    obtain⟨rfl,rfl,e6⟩:=e3.2 q.1 q.2 hq
    have e6:cs.size=q.2:=by omega
    refine⟨_,_,hh,fun _=>⟨_,w,Lib.run_from_unsafe w ⟨k1,0+off,none⟩ hs hd hj (e:=q.1) (cells:=cs.size) (by simp[World.shape?,e2]) (by show liesAt P P.depth q.1 (cs.size/_) (0+off) u 1=true;rw[e6,zU];exact hc.2.2),J,β,Step.refl S,L⟩⟩
  ·cases hh
 ·exact iO S hl hh I
def k7{fn : Func}(k : fn.name = "internal/abi.NoEscape"): Extern.find fn = some Extern.AbiNoEscape.same := by
 have l1 : Extern.allGenericRows.lookup "internal/abi.NoEscape" = none := by kernel_rfl
 have l2 : Extern.allTypedRows.lookup "internal/abi.NoEscape" = none := by kernel_rfl
 have l3 : Extern.allRows.lookup "internal/abi.NoEscape" = some Extern.AbiNoEscape.same := by kernel_rfl
 unfold Extern.find
 simp only[k,l1,l2,l3]
 rfl
def VA{fn : Func}(k : fn.name = "internal/abi.NoEscape")(C : fn.origin = ""): Extern.findNext fn = none := by
 have l1 : Extern.allNextRows.lookup "internal/abi.NoEscape" = none := by kernel_rfl
 have l2 : Extern.allNextRows.lookup "" = none := by kernel_rfl
 unfold Extern.findNext
 simp only[k,C,l1,l2]
 rfl
def n8{f:Nat}(h:p8 P f=true)(x:Value)(w:World):(callFunc f #[x]).run P w=.ok (.value x) w:=by
 unfold p8 at h
 split at h
 ·rename_i fn D
  simp only[zJ]at h
  obtain⟨G,k,C⟩:=h
  have k : fn.name = "internal/abi.NoEscape" := by simpa using k
  have C : fn.origin = "" := by simpa using C
  rw[run_callFunc_extern D (by rw[k];decide) G (VA k C) (k7 k)]
  rfl
 ·cases h
def k8{x:AV}{b:UInt8}(h:eI x=some b):x=.int .u8 (b.toNat:Int):=by
 unfold eI at h
 split at h
 ·rename_i n
  obtain⟨C,k⟩:=uc h
  simp at k;subst k
  have:=of_decide_eq_true C
  rw[this]
 ·cases h
def BJ:∀{c:LA}{s:Lu},BA c=some s->c=s.map fun b=>.int .u8 (b.toNat:Int)
|[],s,h=>by simp[BA]at h;subst h;rfl
|x::r,s,h=>by
  rw[BA]at h
  obtain⟨b,k,h⟩:=ub h
  obtain⟨l,C,h⟩:=ub h
  simp at h;subst h
  rw[k8 k,BJ C];rfl
def NR{d:Nat}{ts:Array TypeId}{ty:TypeId}{x:AV}{vx:Value}{k:AV->C5->O R}(S:SimH J β h w)(Y:Looks g h)(hh:M3 g x k=some r)(I:Rep J β h w x vx):
  ∃ val ups,k val ups=some r/\(UpsFree d h ups->∃ u w',(Builtin.unsafeSliceData_ ts ty #[vx]).run P w=.ok u w'/\OpDone J β h w ups val u w'):=by
 unfold M3 at hh
 split at hh
 ·rw[Rep]at I;subst I
  exact⟨_,_,hh,fun _=>⟨.pointer none,w,rfl,J,β,Step.refl S,by rw[Rep]⟩⟩
 ·rename_i b off n
  obtain⟨y,hy,hh⟩:=ub hh
  obtain⟨T,hh⟩:=uc hh
  have T:0<n:=by simpa using T
  obtain⟨D,G⟩:=Cu Y hy
  rw[Rep]at I
  obtain⟨z,A,cap,⟨L,gm⟩,rfl,h1,C⟩:=I
  rw[D]at L;simp at L;subst L
  rcases C with C|⟨k1,o1,rfl,C⟩
  ·omega
  rcases C with C|⟨C,_⟩
  ·rw[C]at G;cases G
  refine⟨_,_,hh,fun _=>⟨_,w,Lib.run_unsafeSliceData_row w ts ty _ n cap (by omega),J,β,Step.refl S,?_⟩⟩
  rw[Rep]
  exact⟨y,k1,o1,⟨D,gm⟩,rfl,.inr C⟩
 ·cases hh
def NS{d:Nat}{t it ty:TypeId}{x n:AV}{vx vn:Value}{k:AV->C5->O R}(S:SimH J β h w)(hl:Looks g h)(hh:M4 P g t x n k=some r)(hx:Rep J β h w x vx)(hv:Rep J β h w n vn):
  ∃ val ups,k val ups=some r/\(UpsFree d h ups->∃ u w',(Builtin.unsafeString_ #[t,it] ty #[vx,vn]).run P w=.ok u w'/\OpDone J β h w ups val u w'):=by
 unfold M4 at hh
 split at hh
 ·rename_i n
  obtain⟨hn,hh⟩:=uc hh
  have hn:n=0:=by simpa using hn
  subst hn
  simp only[Rep]at hx hv;subst hx hv
  exact⟨_,_,hh,fun _=>⟨_,w,Lib.run_unsafeString_none w t it ty none,J,β,Step.refl S,by rw[Rep];rfl⟩⟩
 ·rename_i b off n
  obtain⟨y,hy,hh⟩:=ub hh
  obtain⟨q,hq,hh⟩:=ub hh
  split at hh
  ·rename_i e he
   obtain⟨hc,hh⟩:=uc hh
   obtain⟨s,hs,hk⟩:=ub hh
   simp only[zJ,Adx,decide_eq_true_eq]at hc
   obtain⟨c1,c2,c3,c4,c5,c6,c7,c8⟩:=hc
   have c1:=zM c1
   have c2:=zM c2
   have c5:=zM c5
   obtain⟨D,G⟩:=Cu hl hy
   simp only[Rep]at hx hv;subst hv
   obtain⟨z,k1,o1,⟨g1,gm⟩,rfl,L⟩:=hx
   rw[D]at g1;simp at g1;subst g1
   rcases L with L|L
   ·rw[L]at G;cases G
   rcases S.blk b y D G gm with⟨e1,Y⟩|⟨k2,o2,cs,ty2,fr,e1,Y,e3,e4,e5,e6⟩
   ·rw[L]at e1;cases e1
   rw[L]at e1;simp at e1;obtain⟨rfl,rfl⟩:=e1
   obtain⟨rfl,rfl,_⟩:=e3.2 q.1 q.2 hq
   subst c5
   have hsl:s.length=n.toNat:=by
    have:=congrArg List.length (BJ hs)
    simp at this;omega
   have hsn:(n:Int)=(s.length:Int):=by omega
   subst hsn
   refine⟨_,_,hk,fun _=>⟨.string ⟨s.toArray⟩,w.freeze ⟨k1,0,none⟩ s.length,?_,J,β,?_,by rw[Rep]⟩⟩
   ·refine Lib.run_unsafeString_row w t it ty q.1 (by rw[c1];exact he) (by rw[c1];exact c2) k1 cs.size (by simp[World.shape?,Y]) s (by intro e;subst e;simp at c6) (by omega) (by omega) fun j x hj=>?_
    have hjl:j<s.length:=(zK.1 hj).1
    have T:y.cells[j]?=some (.int .u8 (x.toNat:Int)):=by
     have h2:(y.cells.take (s.length:Int).toNat)[j]?=some (.int .u8 (x.toNat:Int)):=by rw[BJ hs];simp[hj]
     rw[Aau]at h2
     split at h2
     ·exact h2
     ·cases h2
    obtain⟨u,I,hu2⟩:=Bh.1 (e5.1 c3) j _ T
    rw[RepC]at hu2;subst hu2
    have I:cs[j]?=some (.int .u8 (x.toNat:Int)):=by simpa using I
    by_cases ej:j=0
    ·subst ej;simp[World.cell?,Addr.add,Y,I]
    ·simp[World.cell?,Addr.add,Y,ej,I]
   ·have ap:Ai [(b,none)] h=D2 h b {y with dead:=true,pure:=true,cells:=[]}:=by simp[Ai,D]
    rw[ap]
    have C:s.length≠0:=by omega
    refine Step.giveUp S D G c4 L gm rfl (fun j hj=>?_) (by simp[World.freeze,C]) (by simp[World.freeze,C]) (by simp[World.freeze,C]) (by simp[World.freeze,C]) ?_
    ·simp only[World.freeze]
     rw[if_neg C]
     show(w.heap.modify k1 _)[j]?=_
     rw[Aaj,if_neg (fun e=>hj e.symm)]
    ·obtain⟨lo,hi⟩:=fr
     have hnew:∃ fr',(w.freeze ⟨k1,0,none⟩ s.length).heap[k1]?=some (.cells cs q.1 fr'):=⟨_,by simp[World.freeze,C,Aaj,Y];rfl⟩
     obtain⟨fr',hf⟩:=hnew
     rw[C0 Y,C0 hf];exact zE _
  ·cases hh
 ·cases hh
end
end Gx
namespace Gx
open Go
def Vz(CR:AV->Value->Prop)(c:LA)(cs:List Value):Prop:=c.length=cs.length/\∀(j:Nat)(x:AV)(u:Value),c[j]?=some x->cs[j]?=some u->CR x u
def PartsRel(CR:AV->Value->Prop):List (Nat×LA)->List (Nat×Value)->Prop
|[],vs=>vs=[]
|(i,c)::r,vs=>∃ v vs',vs=(i,v)::vs'/\Vz CR c v.cells.toList/\PartsRel CR r vs'
def mV:∀(vs:List Value)(n off:Nat)(cells:Array Value)(j:Nat),
  ((vs.zipIdx n).foldl (fun(cs:Array Value)(p:Value×Nat)=>cs.setIfInBounds (off+p.2) p.1) cells)[j]?=if off+n<=j/\j<off+n+vs.length/\j<cells.size then vs[j - (off+n)]? else cells[j]?
|[],n,off,cells,j=>by simp;omega
| v::r,n,off,cells,j=>by
  rw[List.zipIdx_cons,Aei,mV r (n+1) off]
  simp only[Ad3,z8]
  by_cases C:j=off+n
  ·subst C
   rw[if_neg (by omega)]
   by_cases k:off+n<cells.size
   ·rw[if_pos (by omega)];simp[k]
   ·rw[if_neg (by omega)];simp[k]
  ·by_cases k:off+(n+1)<=j/\j<off+(n+1)+r.length/\j<cells.size
   ·rw[if_pos k,if_pos (by omega),show j - (off+n)=(j - (off+(n+1)))+1 by omega];simp
   ·rw[if_neg k,if_neg (by omega),Acy (by omega)]
def JU:∀(vs:List Value)(n off:Nat)(cells:Array Value),((vs.zipIdx n).foldl (fun(cs:Array Value)(p:Value×Nat)=>cs.setIfInBounds (off+p.2) p.1) cells).size=cells.size
|[],_,_,_=>rfl
|v::r,n,off,cells=>by rw[List.zipIdx_cons,Aei,JU r];simp
def Rr{CR:AV->Value->Prop}{place:Nat->Option (Nat×Nat)}:∀{parts:List (Nat×LA)}{vparts:List (Nat×Value)}{c c':LA}{cs:Array Value},PartsRel CR parts vparts->Vz CR c cs.toList ->
  J8 place parts c=some c'->∃ k,Instr.fill place cs vparts=some k/\Vz CR c' k.toList
|[],vparts,c,c',cs,G,hc,I=>by
  rw[PartsRel]at G;subst G
  simp[J8]at I;subst I
  exact⟨cs,rfl,hc⟩
| (i,vs)::r,vparts,c,c',cs,G,hc,I=>by
  rw[PartsRel]at G
  obtain⟨v,vs',rfl,hv,hr⟩:=G
  rw[J8]at I
  obtain⟨p,Y,h1⟩:=ub I
  obtain⟨hb,h2⟩:=uc h1
  simp at hb
  obtain⟨b1,b2⟩:=hb
  have e1:vs.length=v.cells.size:=by have:=hv.1;simpa using this
  have e2:c.length=cs.size:=by have:=hc.1;simpa using this
  have L:p.1+vs.length<=c.length:=by omega
  have key:Vz CR (setCells c p.1 vs) (v.cells.zipIdx.foldl (fun(cs:Array Value)(q:Value×Nat)=>cs.setIfInBounds (p.1+q.2) q.1) cs).toList:=by
   have C:v.cells.zipIdx.foldl (fun(cs:Array Value)(q:Value×Nat)=>cs.setIfInBounds (p.1+q.2) q.1) cs=(v.cells.toList.zipIdx 0).foldl (fun(cs:Array Value)(q:Value×Nat)=>cs.setIfInBounds (p.1+q.2) q.1) cs:=by
    rw[<-Array.foldl_toList];simp
   rw[C]
   refine⟨by rw[Ko L,e2];exact(JU _ 0 _ _).symm,fun j x u T D=>?_⟩
   rw[Xk L]at T
   rw[Ael,mV]at D
   simp only[zg,Abt]at D
   split at T
   ·rename_i hj
    rw[if_pos (by omega)]at D
    exact hv.2 _ x u T D
   ·rename_i hj
    rw[if_neg (by omega)]at D
    exact hc.2 j x u T (by simpa using D)
  obtain⟨k,g1,g2⟩:=Rr hr key h2
  refine⟨k,?_,g2⟩
  rw[Instr.fill,Y]
  have:¬ (v.cells.size≠p.2||p.1+v.cells.size>cs.size)=true:=by simp;omega
  simp only[this]
  exact g1
section
variable{R:Type}{r:R}{P:Program}{J J':Bool->Nat->Prop}{β:Bt}{h:Ap}{w w':World}{g:A1}
def RepParts(J:Bool->Nat->Prop)(β:Bt)(h:Ap)(w:World):List (Nat×AV)->List (Nat×Value)->Prop
|[],vs=>vs=[]
|(i,x)::r,vs=>∃ v vs',vs=(i,v)::vs'/\Rep J β h w x v/\RepParts J β h w r vs'
def RepParts.ext{β':Bt}{h':Ap}(E:Ext J β h w J' β' h' w'):∀{ps:List (Nat×AV)}{vs:List (Nat×Value)},RepParts J β h w ps vs->RepParts J' β' h' w' ps vs
|[],_,k=>k
|(i,x)::r,vs,k=>by
  rw[RepParts]at k ⊢
  obtain⟨v,C,e,D,G⟩:=k
  exact⟨v,C,e,Rep.ext E D,RepParts.ext E G⟩
def PartsRel.mono{CR CR':AV->Value->Prop}(D:∀ x u,CR x u->CR' x u):∀{ps:List (Nat×LA)}{vs:List (Nat×Value)},PartsRel CR ps vs->PartsRel CR' ps vs
|[],_,k=>k
|(i,c)::r,vs,k=>by
  rw[PartsRel]at k ⊢
  obtain⟨v,C,e,G,I⟩:=k
  exact⟨v,C,e,⟨G.1,fun j x u L T=>D _ _ (G.2 j x u L T)⟩,PartsRel.mono D I⟩
def N2{J:Nat->Prop}{c:LA}{us:List Value}(hc:RepCs J w c (fun j=>us[j]?) 0)(C:c.length=us.length):Vz (RepC J w) c us :=
 ⟨C,fun j x u D G=>by
  obtain⟨L,k,I⟩:=hc.at D
  rw[G] at k;simp at k;subst k;exact I⟩
def U6{J:Nat->Prop}{c:LA}{us:List Value}(hc:Vz (RepC J w) c us):RepCs J w c (fun j=>us[j]?) 0:=by
 rw[Bh]
 intro j x k
 have:j<us.length:=by rw[<-hc.1];exact(zK.1 k).1
 exact⟨us[j],by simp[this],hc.2 j x _ k (zD this)⟩
def Oz:∀{ps:List (Nat×AV)}{vs:List (Nat×Value)}{q:List (Nat×LA)}{ups:C5}{org:Bool}{J:Bool->Nat->Prop}{h:Ap},SimH J β h w->LooksS g h->Qz g ps=some (q,ups,org)->RepParts J β h w ps vs ->
  ∃ J',Step J β h w J' β (Ai ups h) w/\PartsRel (RepC (J' org) w) q vs/\LooksS g (Ai ups h)/\∀ b,Ay ups b=true->∃ x,g b=some x
|[],vs,q,ups,org,J,h,S,I,hh,C=>by
  simp[Qz]at hh;obtain⟨rfl,rfl,rfl⟩:=hh
  rw[RepParts]at C
  exact⟨J,Step.refl S,by rw[PartsRel];exact C,I,fun b D=>by simp[Ay]at D⟩
| (i,x)::r,vs,q,ups,org,J,h,S,I,hh,C=>by
  rw[Qz]at hh
  obtain⟨⟨c1,u1,o1⟩,hp,h1⟩:=ub hh
  obtain⟨⟨q2,u2,o2⟩,hq,h2⟩:=ub h1
  simp at h2
  obtain⟨rfl,rfl,rfl⟩:=h2
  rw[RepParts]at C
  obtain⟨v,L,rfl,T,Y⟩:=C
  obtain⟨J1,A,hA,G,hl1⟩:=Zo S I hp T
  obtain⟨J2,B,hB,hl2,hu2⟩:=Oz A.sim hl1 hq (RepParts.ext A.ext Y)
  refine⟨J2,by rw[Bu];exact A.trans B (fun _ _ _ _=>zE _),?_,by rw[Bu];exact hl2,fun b D=>?_⟩
  ·rw[PartsRel]
   refine⟨v,L,rfl,N2 (RepCs.keep (J:=J1 o1) (w:=w) (fun k hk=>DV B.sim.jft _ _ k (B.ext.jsub _ k hk)) (fun _ _=>rfl) (fun _=>rfl) hA) G,?_⟩
   exact PartsRel.mono (fun x u hx=>RepC.keep (J:=J2 o2) (w:=w) (fun k hk=>UY B.sim.jft _ _ k hk) (fun _ _=>rfl) hx) hB
  ·rw[Fw]at D
   cases h3:Ay u1 b with
   |true=>exact ZJ hp b h3
   |false=>rw[h3]at D;exact hu2 b (by simpa using D)
def Oe{place:Nat->Option (Nat×Nat)}{k:LA->O R}:∀(ps:List (Nat×LA))(c:LA),QB place ps c k=(J8 place ps c).bind k
|[],c=>rfl
|(i,vs)::r,c=>by
  rw[QB,J8,zC]
  congr 1;funext p
  rw[Oe r]
  cases (beq vs.length p.2&&ble (p.1+p.2) c.length)<;>rfl
def JV{d len:Nat}{t:TypeId}{ps:List (Nat×AV)}{vs:List (Nat×Value)}{k:AV->C5->O R}(S:SimH J β h w)(hl:Looks g h)(hh:K4 P g d t len ps k=some r)(hv:RepParts J β h w ps vs):
  ∃ val ups,k val ups=some r/\(UpsFree d h ups->∃ u w',(Instr.buildSlice t len vs.toArray).run P w=.ok u w'/\OpDone J β h w ups val u w'):=by
 unfold K4 at hh
 split at hh
 ·rename_i el hu
  obtain⟨sz,C,h1⟩:=ub hh
  obtain⟨zz,hz,h2⟩:=ub h1
  obtain⟨⟨q,u1,o1⟩,hq,h3⟩:=ub h2
  obtain⟨hb,h4⟩:=uc h3
  rw[Oe]at h4
  obtain⟨cells,hc,h5⟩:=ub h4
  simp at hb
  obtain⟨i,z,hi,hiz,rfl,hp,e1,e2⟩:=Kw hz
  have D:i.size=sz:=by simp[A9,hi]at C;exact C
  refine⟨_,_,h5,fun hn=>?_⟩
  replace hn:=hn.nid (by simp[Fw,Li,Ay])
  obtain⟨J1,A,hA,_,L⟩:=Oz S hl.s hq hv
  have hz0:=Xn (w:=w) (J:=J1 o1) hp len (len*sz) (by rw[e1,D];exact zE _)
  have hz1:Vz (RepC (J1 o1) w) (Dv len (Hp z.cells.toList)) (madeCells z.cells (len*sz)).toList:=by
   refine N2 (RepCs.keep (J:=J1 o1) (w:=w) (fun _ hk=>hk) (fun _ _=>rfl) (fun j=>by simp) hz0) ?_
   rw[Eu,e2,D,Abt,size_madeCells]
  obtain⟨G,f1,f2⟩:=Rr hA hz1 hc
  have T:cells.length=len*sz:=by
   have:∀{ps:List (Nat×LA)}{c c':LA},J8 (fun i=>some (i*sz,sz)) ps c=some c'->c'.length=c.length:=by
    intro ps
    induction ps with
    |nil=>intro c c' Y;simp[J8]at Y;rw[Y]
    |cons p r ih =>
     intro c c' Y
     obtain⟨i,vs⟩:=p
     rw[J8]at Y
     obtain⟨p,hpl,g1⟩:=ub Y
     obtain⟨gb,g2⟩:=uc g1
     simp at gb
     rw[ih g2,Ko (by omega)]
   rw[this hc,Eu,e2,D]
  have hcs:G.size=len*sz:=by have:=f2.1;simp at this;omega
  refine⟨.slice (some ⟨w.heap.size,0,none⟩) len len,w.alloc (.cells G el),?_,?_⟩
  ·have I:Instr.fill (fun i=>some (i*sz,sz)) ((Array.range (len*sz)).map (z.cells[·%z.cells.size]!)) vs=some G:=f1
   have hnb:¬ (16777216<len*sz):=by omega
   by_cases h0:len*sz=0
   ·have hme:∀(a:Array Value),(Array.range (len*sz)).map (a[·%a.size]!)=#[]:=fun a=>by rw[h0];simp[Array.range_zero']
    rw[hme]at I
    simp[Instr.buildSlice,run_underlying hu,Bw C,h0,Array.range_zero',I,newRow]
   ·simp[Instr.buildSlice,run_underlying hu,Bw C,hnb,h0,zeroValue,typeInfo,hi,hiz,I,newRow]
  ·refine OpDone.after A (JT (sz:=sz) (fr:=(0,0)) A.sim (mU hl L hn) rfl rfl rfl FrTy.un0 T (by omega) (zE _) ⟨fun _=>?_,fun hp=>by simp at hp⟩) (Kv _ _)
   have:=U6 f2
   exact RepCs.keep (J:=J1 o1) (w:=w) (fun _ hk=>hk) (fun _ _=>rfl) (fun j=>by simp) this
 ·simp at hh
def HE{t:TypeId}{ps:List (Nat×AV)}{k:AV->O R}:eF P t ps k=(eE P t ps).bind k:=by
 unfold eF eE
 rw[zC]
 congr 1;funext place
 cases (ps.all fun p=>A_ p.2)with
|false=>rfl
| true =>
  simp only[cond_true]
  cases (ps.any fun p=>Xc p.2)with
  | true =>
   simp only[cond_true]
   cases (ps.any fun p=>UO p.2)with
   |true =>
    simp only[cond_true]
    rw[zC]
    congr 1;funext z
    rw[Oe]
    cases J8 place (Ha ps) z<;>rfl
   |false =>
    simp only[cond_false]
    rw[zC]
    congr 1;funext z
    rw[Oe]
    cases J8 place (Ei ps) z<;>rfl
  |false =>
   simp only[cond_false]
   rw[zC]
   congr 1;funext z
   rw[Oe]
   cases J8 place (Ei ps) z<;>rfl
def ph{x:AV}{u:Value}(k:RepC (fun _=>False) w x u):Rep J β h w x u:=by
 have C:∀ o:Bool,RepC (J o) w x u:=fun o=>RepC.keep (J:=fun _=>False) (w:=w) (fun _ D=>D.elim) (fun _ _=>rfl) k
 cases x
 case imm c n sz t org=>rw[Rep];exact C org
 case iptr c org=>rw[Rep];exact C org
 case fn f c =>
  cases c with
  |nil=>rw[RepC]at k;subst k;rw[Rep];exact⟨[],by simp,by rw[Reps]⟩
  |cons a l=>simp[RepC]at k
 all_goals first|(rw[RepC]at k;rw[Rep];exact k)|simp[RepC]at k
def NT{d len:Nat}{t:TypeId}{ps:List (Nat×AV)}{vs:List (Nat×Value)}{k:AV->C5->O R}(S:SimH J β h w)(hh:M2 P g d t len ps k=some r)(Y:RepParts J β h w ps vs):
  ∃ val ups,k val ups=some r/\(UpsFree d h ups->∃ u w',(Instr.buildSlice t len vs.toArray).run P w=.ok u w'/\OpDone J β h w ups val u w'):=by
 unfold M2 at hh
 split at hh
 ·rename_i el T
  obtain⟨sz,G,h1⟩:=ub hh
  obtain⟨zz,hz,h2⟩:=ub h1
  obtain⟨hb,h4⟩:=uc h2
  obtain⟨cells,hc,h5⟩:=ub h4
  simp at hb
  obtain⟨rfl,hb,hst⟩:=hb
  obtain⟨i,z,hi,hiz,rfl,hp,e1,e2⟩:=Kw hz
  have hs':i.size=1:=by simp[A9,hi]at G;exact G
  refine⟨_,_,h5,fun hn=>?_⟩
  replace hn:=hn.nid (by simp[Li,Ay])
  have hz0:=Xn (w:=w) (J:=fun _=>False) hp len (len*1) (by rw[e1,hs'];exact zE _)
  have hz1:Vz (fun x u=>Rep J β h w x u/\u.oneCell'=true) (Dv len (Hp z.cells.toList)) (madeCells z.cells (len*1)).toList:=by
   have hl:Vz (RepC (fun _=>False) w) (Dv len (Hp z.cells.toList)) (madeCells z.cells (len*1)).toList:=by
    refine N2 (RepCs.keep (J:=fun _=>False) (w:=w) (fun _ hk=>hk) (fun _ _=>rfl) (fun j=>by simp) hz0) ?_
    rw[Eu,e2,hs',Abt,size_madeCells]
   exact⟨hl.1,fun j x u hx T=>⟨ph (hl.2 j x u hx T),JR (hl.2 j x u hx T)⟩⟩
  have I:∀{ps:List (Nat×AV)}{vs:List (Nat×Value)},H4 g (ps.map (·.2))=true->RepParts J β h w ps vs->PartsRel (fun x u=>Rep J β h w x u/\u.oneCell'=true) (ps.map fun p=>(p.1,[p.2])) vs:=by
   intro ps
   induction ps with
   |nil=>intro vs _ Y;rw[RepParts]at Y;rw[List.map_nil,PartsRel];exact Y
   |cons p r ih =>
    obtain⟨i,x⟩:=p
    intro vs hs Y
    rw[RepParts]at Y
    obtain⟨v,vs',rfl,h1,h2⟩:=Y
    simp[H4]at hs
    rw[z_,PartsRel]
    refine⟨v,vs',rfl,?_,ih (by simpa using hs.2) h2⟩
    have ho:=Hc hs.1 h1
    have L:v.cells=#[v]:=by cases v<;>simp_all[Value.cells,Value.oneCell']
    rw[L]
    refine⟨rfl,fun j y u hy T=>?_⟩
    cases j with
    |zero=>simp at hy T;subst hy T;exact⟨h1,ho⟩
    |succ j=>simp at hy
  obtain⟨C,f1,f2⟩:=Rr (I hst Y) hz1 hc
  have hlen:cells.length=len*1:=by
   have:∀{ps:List (Nat×LA)}{c c':LA},J8 (fun i=>some (i*1,1)) ps c=some c'->c'.length=c.length:=by
    intro ps
    induction ps with
    |nil=>intro c c' hf;simp[J8]at hf;rw[hf]
    |cons p r ih =>
     intro c c' hf
     obtain⟨i,vs⟩:=p
     rw[J8]at hf
     obtain⟨p,hpl,g1⟩:=ub hf
     obtain⟨gb,g2⟩:=uc g1
     simp at gb
     rw[ih g2,Ko (by omega)]
   rw[this hc,Eu,e2,hs']
  have hcs:C.size=len*1:=by have:=f2.1;simp at this;omega
  refine⟨.slice (some ⟨w.heap.size,0,none⟩) len len,w.alloc (.cells C el),?_,?_⟩
  ·have D:Instr.fill (fun i=>some (i*1,1)) ((Array.range (len*1)).map (z.cells[·%z.cells.size]!)) vs=some C:=f1
   have hnb:¬ (16777216<len*1):=by omega
   by_cases h0:len*1=0
   ·have hme:∀(a:Array Value),(Array.range (len*1)).map (a[·%a.size]!)=#[]:=fun a=>by rw[h0];simp[Array.range_zero']
    rw[hme]at D
    simp only[zY]at h0
    simp[Instr.buildSlice,run_underlying T,Bw G,h0,Array.range_zero',newRow]
    simp at D
    simp[D]
   ·simp only[zY]at D h0 hnb
    simp[Instr.buildSlice,run_underlying T,Bw G,hnb,h0,zeroValue,typeInfo,hi,hiz,D,newRow]
  ·refine JT (sz:=1) (fr:=(0,0)) S hn rfl rfl rfl FrTy.un0 hlen (by omega) (zE _) ⟨fun hp=>by simp at hp,fun _ j y hj=>?_⟩
   have hlt:j<C.size:=by have:=(zK.1 hj).1;simp at this;omega
   have:=f2.2 j y C[j] hj (by simp[hlt])
   exact⟨C[j],by simp[hlt],this.1,this.2⟩
 ·simp at hh
def N3{d:Nat}:∀{l:List (Nat×Nat)}{j:Nat}{c:LA}{cs:List Value}{β:Bt}{h:Ap},SimH J β h w->1<=j->j+l.length<=16->(∀ i,j<=i->i<16->Ay (E6 d l j c).2 (nid d+i)=true->Ah h (nid d+i)=none)->Reps J β h w c cs ->
  ∃ β',Step J β h w J β' (Ai (E6 d l j c).2 h) w/\Reps J β' (Ai (E6 d l j c).2 h) w (E6 d l j c).1 cs
|[],j,c,cs,β,h,S,_,_,_,T=>⟨β,Step.refl S,T⟩
| (o,sz)::l,j,c,cs,β,h,S,hj,hl,G,T=>by
  rw[E6]at G ⊢
  split
  ·rename_i I
   simp only[I]at G
   simp at hl
   have h1:Ah h (nid d+j)=none:=G j (zE _) (by omega) (by simp[Ay])
   have A:=Step.newNone S (d:=nid d+j) (x:=E4 sz) h1 rfl
   have k:=Reps.ext A.ext T
   rw[Bq]at k
   have Y:Reps J (fun b=>if b=nid d+j then none else β b) (D2 h (nid d+j) (E4 sz)) w (c.set o (.own (nid d+j) 0 0)) cs:=by
    rw[Bq]
    refine⟨by rw[k.1];simp,fun i y u L hu=>?_⟩
    by_cases hi:i=o
    ·subst hi
     have hlt:i<c.length:=(zK.1 I).1
     rw[zi hlt]at L;simp at L;subst L
     have h3:=k.2 i _ u I hu
     rw[Rep]at h3;subst h3
     rw[Rep]
     exact⟨E4 sz,none,0,⟨by simp[Ae],rfl⟩,rfl,zE _,.inl rfl⟩
    ·rw[z7 (by omega)]at L
     exact k.2 i y u L hu
   obtain⟨β',B,hB⟩:=N3 (d:=d) (l:=l) (j:=j+1) A.sim (by omega) (by omega) (fun i hi C D=>by
    have:=G i (by omega) C (by
     rw[Ay]
     have:beq (nid d+j) (nid d+i)=false:=AK (by omega)
     rw[this];exact D)
    rw[Ae,if_neg (by omega)];exact this) Y
   exact⟨β',by simp only[Ai];exact A.trans B (fun _ _ _ _=>zE _),by simp only[Ai];exact hB⟩
  ·rename_i I
   have e:E6 d ((o,sz)::l) j c=E6 d l (j+1) c:=by
    rw[E6]
    split
    ·rename_i h2;exact absurd h2 (I ·)
    ·rfl
   simp at hl
   split at G
   ·rename_i h2;exact absurd h2 (I ·)
   ·exact N3 S (by omega) (by omega) (fun i hi C D=>G i (by omega) C D) T
def k9{t:TypeId}{co:Bool}{d:Nat}{v:AV}{vc:Value}{k:AV->C5->O R}(S:SimH J β h w)(hh:nW P t co d v k=some r)(C:Rep J β h w v vc):
  ∃ val ups,k val ups=some r/\(UpsFree d h ups->OpDone J β h w ups val vc w):=by
 unfold nW at hh
 split at hh
 ·rename_i c
  obtain⟨G,I⟩:=uc hh
  refine⟨_,_,I,fun L=>?_⟩
  rw[Rep]at C
  obtain⟨cs,rfl,T⟩:=C
  obtain⟨β',A,hA⟩:=N3 (d:=d) (l:=Lj P t) (j:=1) S (zE _) (by simp at G;omega) (fun i hi Y D=>L _ D (by unfold Vw;simp;omega)) T
  exact⟨J,β',A,by rw[Rep];exact⟨cs,rfl,hA⟩⟩
 ·exact⟨_,_,hh,fun _=>⟨J,β,Step.refl S,C⟩⟩
def QM{x:AV}{v:Value}(k:Rep J β h w x v)(L:Xc x=false)(D:A_ x=true):Vz (Rep J β h w) (cellsOf x) v.cells.toList:=by
 have one:v.cells=#[v]->cellsOf x=[x]->Vz (Rep J β h w) (cellsOf x) v.cells.toList:=fun T C=>by
  rw[T,C]
  refine⟨rfl,fun j y u G I=>?_⟩
  cases j with
  |zero=>simp at G I;subst G I;exact k
  |succ j=>simp at G
 cases x
 case pagg=>simp[Xc]at L
 case agg c =>
  rw[Rep]at k
  obtain⟨cs,rfl,C⟩:=k
  rw[Bq]at C
  exact⟨C.1.symm,C.2⟩
 case tup c=>simp[A_]at D
 case undef=>simp[A_]at D
 case omap=>simp[A_]at D
 case own=>rw[Rep]at k;obtain⟨_,A,cap,_,rfl,_⟩:=k;exact one rfl rfl
 case optr=>rw[Rep]at k;obtain⟨_,kk,o,_,rfl,_⟩:=k;exact one rfl rfl
 case fn=>rw[Rep]at k;obtain⟨cs,rfl,_⟩:=k;exact one rfl rfl
 case imm=>rw[Rep,RepC]at k;obtain⟨_,A,cap,rfl,_⟩:=k;exact one rfl rfl
 case iptr=>rw[Rep,RepC]at k;obtain⟨a,rfl,_⟩:=k;exact one rfl rfl
 all_goals (rw[Rep]at k;subst k;exact one rfl rfl)
def bX{x:AV}{v:Value}(G:∀ k,J false k->J true k)(D:Rep J β h w x v)(L:HA x=false){o:Bool}(I:eD x=true->o=true):RepC (J o) w x v:=by
 cases x<;>simp[HA]at L
 case imm c n sz t org =>
  rw[Rep]at D
  refine RepC.keep (J:=J org) (w:=w) (fun k C=>?_) (fun _ _=>rfl) D
  cases org
  ·cases o
   ·exact C
   ·exact G k C
  ·rw[I rfl];exact C
 case iptr c org =>
  rw[Rep]at D
  refine RepC.keep (J:=J org) (w:=w) (fun k C=>?_) (fun _ _=>rfl) D
  cases org
  ·cases o
   ·exact C
   ·exact G k C
  ·rw[I rfl];exact C
 all_goals (rw[Rep]at D;rw[RepC];exact D)
def fD{x:AV}{v:Value}(T:∀ k,J false k->J true k)(G:Rep J β h w x v)(I:UO x=false){o:Bool}(Y:QC x=true->o=true):Vz (RepC (J o) w) (cellsOf x) v.cells.toList:=by
 have one:HA x=false->cellsOf x=[x]->QC x=eD x->Vz (RepC (J o) w) (cellsOf x) v.cells.toList:=fun h0 C h3=>by
  have hc:=bX (o:=o) T G h0 (by rw[<-h3];exact Y)
  have h1:v.cells=#[v]:=by have:=JR hc;cases v<;>simp_all[Value.cells,Value.oneCell']
  rw[h1,C]
  refine⟨rfl,fun j y u D L=>?_⟩
  cases j with
  |zero=>simp at D L;subst D L;exact hc
  |succ j=>simp at D
 cases x
 case pagg c org =>
  rw[Rep]at G
  obtain⟨cs,rfl,h1,C⟩:=G
  refine N2 (RepCs.keep (J:=J org) (w:=w) (fun k hk=>?_) (fun _ _=>rfl) (fun j=>by simp[Value.cells]) C) (by simp[Value.cells,cellsOf,h1])
  cases org
  ·cases o
   ·exact hk
   ·exact T k hk
  ·rw[Y rfl];exact hk
 case agg c =>
  rw[Rep]at G
  obtain⟨cs,rfl,C⟩:=G
  rw[Bq]at C
  refine⟨C.1.symm,fun j y u D L=>?_⟩
  simp only[UO,Ady]at I
  have hm:y∈c:=Aet D
  have hry:HA y=false:=by simpa using I y hm
  refine bX T (C.2 j y u D L) hry (fun h3=>Y ?_)
  rw[QC,List.any_eq_true];exact⟨y,hm,h3⟩
 all_goals first|exact one I rfl rfl|simp[UO,HA]at I
def n9{o:Bool}{x:AV}{v:Value}(k:RepC (J o) w x v):Rep J β h w (iC o x) v:=by
 cases x
 case imm=>rw[iC,Rep];rw[RepC]at k ⊢;exact k
 case iptr=>rw[iC,Rep];rw[RepC]at k ⊢;exact k
 case fn f c =>
  cases c with
  |nil=>rw[RepC]at k;subst k;show Rep J β h w (.fn f []) _;rw[Rep];exact⟨[],by simp,by rw[Reps]⟩
  |cons a b=>simp[RepC]at k
 all_goals first|(rw[RepC]at k;unfold iC;rw[Rep];exact k)|(simp[RepC]at k)
def k_{x:AV}{v:Value}(D:Rep J β h w x v)(T:A_ x=true):Vz (Rep J β h w) (UP x) v.cells.toList:=by
 cases G:Xc x with
|false =>
  have:=QM D G T
  cases x<;>first|exact this|simp[Xc]at G
| true =>
  cases x<;>simp[Xc]at G
  rename_i c o
  rw[Rep]at D
  obtain⟨cs,rfl,Y,h2⟩:=D
  refine⟨by simp[UP,Value.cells,Y],fun j y u C L=>?_⟩
  simp only[UP,Abo]at C
  cases I:c[j]? with
  |none=>rw[I]at C;simp at C
  |some x0 =>
   rw[I]at C;simp at C;subst C
   obtain⟨u',k,hr⟩:=h2.at I
   simp[Value.cells]at L
   rw[L]at k;simp at k;subst k
   exact n9 hr
def BK{CR:AV->Value->Prop}:∀{ps:List (Nat×AV)}{vs:List (Nat×Value)},RepParts J β h w ps vs->(∀ p∈ps,∀ v,Rep J β h w p.2 v->Vz CR (UP p.2) v.cells.toList)->PartsRel CR (Ha ps) vs
|[],vs,k,_=>by rw[RepParts]at k;rw[Ha,PartsRel];exact k
|(i,x)::r,vs,k,D=>by
  rw[RepParts]at k
  obtain⟨v,C,rfl,G,I⟩:=k
  rw[Ha,PartsRel]
  exact⟨v,C,rfl,D (i,x) (by simp) v G,BK I (fun p L=>D p (by simp[L]))⟩
def U7{CR:AV->Value->Prop}:∀{ps:List (Nat×AV)}{vs:List (Nat×Value)},RepParts J β h w ps vs->(∀ p∈ps,∀ v,Rep J β h w p.2 v->Vz CR (cellsOf p.2) v.cells.toList)->PartsRel CR (Ei ps) vs
|[],vs,k,_=>by rw[RepParts]at k;rw[Ei,PartsRel];exact k
|(i,x)::r,vs,k,D=>by
  rw[RepParts]at k
  obtain⟨v,C,rfl,G,I⟩:=k
  rw[Ei,PartsRel]
  exact⟨v,C,rfl,D (i,x) (by simp) v G,U7 I (fun p L=>D p (by simp[L]))⟩
def JW{t:TypeId}{place:Nat->Option (Nat×Nat)}{i:TypeInfo}{z:Value}{vs:List (Nat×Value)}{cs:Array Value}(k:AZ P t=some place)(hi:P.info? t=some i)(G:i.zero=some z)
  (I:Instr.fill place z.cells vs=some cs):P.built t vs=some cs:=by
 unfold AZ at k
 unfold Program.built
 split at k
 ·rename_i n e D
  cases C:P.info? e with
  |none=>simp[C]at k
  |some ie=>simp[C]at k;subst k;simp only[hi,D,G,C];exact I
 ·rename_i fs D
  cases C:fs.toList.mapM fun f=>(P.info? f.type).map fun i=>(f.offset,i.size)with
  |none=>rw[C]at k;simp at k
  |some pl =>
   rw[C]at k;simp at k;subst k
   simp only[hi,D,G,C]
   simpa using I
 ·simp at k
def ZL{t:TypeId}{ps:List (Nat×AV)}{vs:List (Nat×Value)}{k:AV->C5->O R}(S:SimH J β h w)(hl:Looks g h)(hh:DM P g t ps k=some r)(hv:RepParts J β h w ps vs):
  ∃ val ups u,k val ups=some r/\(Instr.build t vs.toArray).run P w=.ok u w/\OpDone J β h w ups val u w:=by
 unfold DM at hh
 obtain⟨place,C,h1⟩:=ub hh
 obtain⟨zz,hz,h2⟩:=ub h1
 obtain⟨⟨q,u1,o1⟩,hq,L⟩:=ub h2
 rw[Oe]at L
 obtain⟨cells,hc,h4⟩:=ub L
 obtain⟨i,z,hi,D,rfl,hp,e1,e2⟩:=Kw hz
 obtain⟨J1,A,hA,_,T⟩:=Oz S hl.s hq hv
 have G:Vz (RepC (J1 o1) w) (Hp z.cells.toList) z.cells.toList:=by
  refine⟨Od _,fun j x u hx hu=>?_⟩
  obtain⟨y,I,g2⟩:=Xm (w:=w) (J:=J1 o1) hp j u hu
  rw[hx]at I;simp at I;subst I;exact g2
 obtain⟨cs,f1,Y⟩:=Rr hA G hc
 refine⟨_,_,.agg cs,h4,run_build w t vs.toArray cs (JW C hi D (by simpa using f1)),J1,β,A,?_⟩
 rw[Rep]
 exact⟨cs.toList,rfl,Y.1.symm,U6 Y⟩
def fE{t:TypeId}{ps:List (Nat×AV)}{vs:List (Nat×Value)}{v:AV}(S:SimH J β h w)(hh:eE P t ps=some v)(hv:RepParts J β h w ps vs):
  ∃ u,(Instr.build t vs.toArray).run P w=.ok u w/\Rep J β h w v u:=by
 unfold eE at hh
 obtain⟨place,Y,h1⟩:=ub hh
 obtain⟨hok,h2⟩:=uc h1
 cases hpg:ps.any (fun p=>Xc p.2)with
| true =>
  rw[hpg]at h2
  cases hnr:ps.any (fun p=>UO p.2)with
  | true =>
   rw[hnr]at h2
   obtain⟨zz,C,G⟩:=ub h2
   unfold bJ at C
   obtain⟨i,hi,C⟩:=ub C
   cases D:i.zero with
   |none=>rw[D]at C;simp at C
   | some z =>
    rw[D]at C;simp at C;subst C
    cases I:J8 place (Ha ps) (Hp z.cells.toList)with
    |none=>rw[I]at G;simp at G
    | some c =>
     rw[I]at G;simp at G;subst G
     have k:PartsRel (Rep J β h w) (Ha ps) vs:=BK hv (fun p hm u hu=>k_ hu (Acb.1 hok p hm))
     have L:Vz (Rep J β h w) (Hp z.cells.toList) z.cells.toList:=by
      have:=DS (J:=J) (β:=β) (h:=h) (w:=w) z.cells.toList
      rw[Bq]at this
      exact⟨this.1.symm,this.2⟩
     obtain⟨cs,f1,T⟩:=Rr k L I
     refine⟨.agg cs,run_build w t vs.toArray cs (JW Y hi D (by simpa using f1)),?_⟩
     rw[Rep]
     exact⟨cs.toList,rfl,Bq.2 ⟨T.1.symm,T.2⟩⟩
  |false =>
  rw[hnr]at h2
  have h3:=h2
  obtain⟨zz,C,G⟩:=ub h3
  obtain⟨i,z,hi,D,rfl,hp,e1,e2⟩:=Kw C
  cases I:J8 place (Ei ps) (Hp z.cells.toList)with
  |none=>rw[I]at G;simp at G
  | some c =>
   rw[I]at G;simp at G;subst G
   have k:PartsRel (RepC (J (ps.any fun p=>QC p.2)) w) (Ei ps) vs:=U7 hv (fun p hm u hu=>fD S.jft hu (by
     have:=Ady.1 hnr p hm;simpa using this) (fun ho=>by rw[List.any_eq_true];exact⟨p,hm,ho⟩))
   have L:Vz (RepC (J (ps.any fun p=>QC p.2)) w) (Hp z.cells.toList) z.cells.toList:=by
    refine⟨Od _,fun j x u hx hu=>?_⟩
    obtain⟨y,g1,g2⟩:=Xm (w:=w) (J:=J (ps.any fun p=>QC p.2)) hp j u hu
    rw[hx]at g1;simp at g1;subst g1;exact g2
   obtain⟨cs,f1,T⟩:=Rr k L I
   refine⟨.agg cs,run_build w t vs.toArray cs (JW Y hi D (by simpa using f1)),?_⟩
   rw[Rep]
   exact⟨cs.toList,rfl,T.1.symm,U6 T⟩
| false =>
  rw[hpg]at h2
  obtain⟨zz,C,G⟩:=ub h2
  unfold bJ at C
  obtain⟨i,hi,C⟩:=ub C
  cases D:i.zero with
  |none=>rw[D]at C;simp at C
  | some z =>
   rw[D]at C;simp at C;subst C
   cases I:J8 place (Ei ps) (Hp z.cells.toList)with
   |none=>rw[I]at G;simp at G
   | some c =>
    rw[I]at G;simp at G;subst G
    have k:PartsRel (Rep J β h w) (Ei ps) vs:=U7 hv (fun p hm u hu=>QM hu (by
      have:=Ady.1 hpg p hm;simpa using this) (Acb.1 hok p hm))
    have L:Vz (Rep J β h w) (Hp z.cells.toList) z.cells.toList:=by
     have:=DS (J:=J) (β:=β) (h:=h) (w:=w) z.cells.toList
     rw[Bq]at this
     exact⟨this.1.symm,this.2⟩
    obtain⟨cs,f1,T⟩:=Rr k L I
    refine⟨.agg cs,run_build w t vs.toArray cs (JW Y hi D (by simpa using f1)),?_⟩
    rw[Rep]
    exact⟨cs.toList,rfl,Bq.2 ⟨T.1.symm,T.2⟩⟩
end
end Gx
