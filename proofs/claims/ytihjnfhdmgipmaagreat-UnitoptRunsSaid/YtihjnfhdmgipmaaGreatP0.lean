/- A part of the proof; each theorem says what it holds. -/
import GoSem.Step
import Derived.KernelRfl
import Derived.WalkKit
import Derived.Deep.MidRow
import Derived.Deep.AppendSrc
import Derived.Laws.IdiomStrings
import Derived.Deep.Upon
import Derived.Lib.Builder
import Derived.Laws.BytesString
import Derived.Lib.UnsafeStr
import Derived.Laws.Externs
import Derived.Laws.Tables
set_option linter.unusedVariables false
set_option linter.defProp false
set_option linter.unusedSimpArgs false
open Nat (ble beq)
open List (take drop replicate)
open Go.IntKind (wrap)
namespace Gx
abbrev Lu:=List UInt8
def Axl:=@List.take_of_length_le
def Axm:=@Int.toNat_natCast
def Axn:=@List.getElem?_eq_getElem
def Axo:=@Nat.le_refl
def Axp:=@Option.bind_assoc
def Axq:=@Nat.mul_comm
def Axr:=@Bool.and_eq_true
def Axs:=@Nat.mul_le_mul_right
def Axt:=@Nat.mul_assoc
def Axu:=@List.getD_eq_getElem?_getD
def Axv:=@List.getElem_mem
def Axw:=@List.getElem?_eq_some_iff
def Axx:=@Nat.mul_add
def Axy:=@Nat.eq_of_beq_eq_true
def Axz:=@List.mem_append
def Ax0:=@Nat.zero_add
def Ax1:=@List.length_append
def Ax2:=@Nat.add_mul
def Ax3:=@Nat.pow_succ
def Ax4:=@Nat.mul_one
def Ax5:=@List.take_succ_eq_append_getElem
def Ax6:=@List.length_take
def Ax7:=@List.mem_cons
def Ax8:=@Int.natAbs_natCast
def Ax9:=@Nat.lt_of_lt_of_le
def Aya:=@Nat.mul_le_mul_left
def Ayb:=@List.length_cons
def Ayc:=@List.map_cons
def Ayd:=@Nat.min_eq_left
def Aye:=@List.flatMap_cons
def Ayf:=@Nat.eq_zero_or_pos
def Ayg:=@List.getElem?_set_ne
def Ayh:=@List.drop_zero
def Ayi:=@Rat.intCast_sub
def Ayj:=@List.getElem_append_left
def Ayk:=@List.take_length
def Ayl:=@Nat.mod_eq_of_lt
def Aym:=@Nat.pow_le_pow_right
def Ayn:=@Int.sign_eq_neg_one_of_neg
def Ayo:=@List.getElem?_set_self
def Ayp:=@List.head?_eq_getElem?
def Ayq:=@Nat.add_zero
def Ayr:=@Rat.intCast_le_intCast
def Ays:=@Nat.ble_eq
def Ayt:=@Nat.lt_of_le_of_lt
def Ayu:=@List.cons_append
def Ayv:=@List.drop_eq_nil_of_le
def Ayw:=@List.getElem?_drop
def Ayx:=@List.drop_eq_getElem_cons
def Ayy:=@List.mem_map
def Ayz:=@List.getElem?_eq_none
def Ay0:=@Nat.pow_add
def Ay1:=@Nat.mul_lt_mul''
def Ay2:=@List.drop_succ_cons
def Ay3:=@List.getElem?_append
def Ay4:=@Nat.div_eq_of_lt
def Ay5:=@List.append_nil
def Ay6:=@Nat.div_add_mod
def Ay7:=@Nat.le_trans
def Ay8:=@Nat.add_assoc
def Ay9:=@List.nodup_cons
def Aza:=@Rat.intCast_add
def Azb:=@Bool.false_eq_true
def Azc:=@List.getElem_of_mem
def Azd:=@List.pairwise_iff_getElem
def Aze:=@Int.sign_eq_one_of_pos
def Azf:=@Nat.pow_pos
def Azg:=@Array.getElem?_modify
def Azh:=@Nat.gcd_comm
def Azi:=@Array.ext'
def Azj:=@Nat.dvd_mul_left_of_dvd
def Azk:=@Nat.mul_le_mul
def Azl:=@Option.bind_some
def Azm:=@Array.getElem?_eq_none
def Azn:=@List.getElem?_take
def Azo:=@Nat.mod_lt
def Azp:=@Nat.div_le_self
def Azq:=@List.getElem_map
def Azr:=@Rat.le_refl
def Azs:=@List.getElem_take
def Azt:=@Array.getElem?_eq_some_iff
def Azu:=@List.mem_iff_getElem
def Azv:=@List.length_map
def Azw:=@List.map_append
def Azx:=@Rat.mul_le_mul_of_nonneg_right
def Azy:=@List.getElem_append_right
def Azz:=@List.append_assoc
def Az0:=@Nat.mul_left_comm
def Az1:=@Option.some.injEq
def Az2:=@Bool.not_false
def Az3:=@List.all_cons
def Az4:=@List.length_nil
def Az5:=@List.mem_filter
def Az6:=@List.take_left'
def Az7:=@Nat.gcd_zero_right
def Az8:=@List.mem_cons_of_mem
def Az9:=@Nat.le_of_not_lt
def A0a:=@Array.getD_eq_getD_getElem?
def A0b:=@Bool.or_true
def A0c:=@Int.natAbs_mul
def A0d:=@List.flatMap_append
def A0e:=@List.nil_append
def A0f:=@Nat.lt_of_mul_lt_mul_left
def A0g:=@List.take_append_drop
def A0h:=@Int.natCast_zero
def A0i:=@Nat.gcd_dvd_left
def A0j:=@List.forall_mem_cons
def A0k:=@List.take_zero
def A0l:=@Nat.add_mul_div_left
def A0m:=@Nat.mul_lt_mul_right
def A0n:=@List.getElem?_map
def A0o:=@Bool.eq_iff_iff
def A0p:=@Bool.and_true
def A0q:=@List.filter_cons
def A0r:=@Array.getElem?_append_left
def A0s:=@List.mem_singleton
def A0t:=@Nat.le_of_ble_eq_true
def A0u:=@List.mem_take_iff_getElem
def A0v:=@Nat.le_max_left
def A0w:=@Bool.true_or
def A0x:=@List.map_map
def A0y:=@Nat.add_comm
def A0z:=@Nat.div_lt_of_lt_mul
def A00:=@Bool.not_true
def A01:=@Int.mul_ediv_cancel_left
def A02:=@Nat.gcd_pos_of_pos_right
def A03:=@Array.length_toList
def A04:=@List.all_eq_true
def A05:=@List.getLast_eq_getElem
def A06:=@Nat.le_max_right
def A07:=@Nat.zero_le
def A08:=@List.getElem_cons_zero
def A09:=@Rat.intCast_lt_intCast
def A1a:=@Rat.sub_eq_add_neg
def A1b:=@Rat.num_eq_zero
def A1c:=@Nat.le_div_iff_mul_le
def A1d:=@Int.lt_trichotomy
def A1e:=@Nat.gcd_dvd_right
def A1f:=@Int.le_refl
def A1g:=@List.mem_of_mem_take
def A1h:=@List.pairwise_append
def A1i:=@Nat.lt_of_mul_lt_mul_right
def A1j:=@Rat.div_def
def A1k:=@List.getElem_set
def A1l:=@Int.sign_eq_zero_iff_zero
def A1m:=@List.getLast?_eq_getElem?
def A1n:=@List.getLastD_eq_getLast?
def A1o:=@List.map_congr_left
def A1p:=@List.take_succ_cons
def A1q:=@Bool.false_or
def A1r:=@List.foldl_cons
def A1s:=@Nat.mul_add_div
def A1t:=@Rat.le_antisymm
def A1u:=@BitVec.toNat_ofNat
def A1v:=@List.pairwise_cons
def A1w:=@Nat.mul_right_comm
def A1x:=@Rat.mul_inv_cancel
def A1y:=@Nat.add_sub_cancel_left
def A1z:=@Nat.le_mul_of_pos_right
def A10:=@List.getElem_cons_succ
def A11:=@List.map_set
def A12:=@Nat.div_div_eq_div_mul
def A13:=@Nat.pow_zero
def A14:=@Rat.sub_self
def A15:=@Array.getElem?_setIfInBounds_ne
def A16:=@List.set_append_right
def A17:=@Nat.div_lt_iff_lt_mul
def A18:=@List.mem_flatMap
def A19:=@Nat.dvd_add_left
def A2a:=@Nat.lt_of_not_le
def A2b:=@Option.bind_none
def A2c:=@Rat.mkRat_eq_div
def A2d:=@List.eq_nil_of_length_eq_zero
def A2e:=@Array.getElem?_setIfInBounds
def A2f:=@Nat.mul_add_mod
def A2g:=@Nat.mul_ne_zero
def A2h:=@Rat.intCast_mul
def A2i:=@Rat.natCast_pos
def A2j:=@List.filter_eq_self
def A2k:=@List.replicate_succ
def A2l:=@Rat.mkRat_add_mkRat
def A2m:=@List.all_nil
def A2n:=@List.set_set
def A2o:=@Nat.lt_or_ge
def A2p:=@Nat.sub_self
def A2q:=@Nat.zero_mul
def A2r:=@Rat.le_of_lt
def A2s:=@Rat.le_trans
def A2t:=@Bool.and_false
def A2u:=@Bool.false_and
def A2v:=@Int.fdiv_eq_ediv_of_nonneg
def A2w:=@Int.mul_nonneg
def A2x:=@Int.tmod_eq_emod_of_nonneg
def A2y:=@Int.tmod_lt_of_pos
def A2z:=@List.getElem?_append_right
def A20:=@Rat.le_of_mul_le_mul_right
def A21:=@Rat.not_le
def A22:=@List.getElem?_append_left
def A23:=@List.mem_or_eq_of_mem_set
def A24:=@Nat.add_mul_mod_self_left
def A25:=@Bool.not_eq_true'
def A26:=@List.any_eq_false
def A27:=@Nat.dvd_mul_right
def A28:=@Nat.gcd_rec
def A29:=@Nat.mul_pos
def A3a:=@Nat.one_mul
def A3b:=@Array.size_setIfInBounds
def A3c:=@Bool.true_and
def A3d:=@List.getElem?_take_of_lt
def A3e:=@Option.isSome_iff_exists
def A3f:=@Rat.lt_irrefl
def A3g:=@List.drop_append
def A3h:=@List.flatMap_nil
def A3i:=@List.length_drop
def A3j:=@List.length_eq_zero_iff
def A3k:=@List.not_mem_nil
def A3l:=@Nat.mul_div_cancel_left
def A3m:=@Bool.or_comm
def A3n:=@Int.le_of_lt
def A3o:=@Nat.beq_eq
def A3p:=@Nat.le_of_lt
def A3q:=@Rat.add_zero
def A3r:=@Rat.zero_add
def A3s:=@Option.some.inj
def A3t:=@Array.getElem?_toList
def A3u:=@List.getElem_set_self
def A3v:=@List.length_filter_le
def A3w:=@List.length_mergeSort
def A3x:=@List.set_getElem_self
def A3y:=@Rat.le_iff_sub_nonneg
def A3z:=@List.drop_drop
def A30:=@List.getElem?_zipIdx
def A31:=@List.mapM_cons
def A32:=@List.mem_of_getElem?
def A33:=@List.nodup_nil
def A34:=@List.replicate_succ'
def A35:=@List.take_take
def A36:=@Rat.num_nonneg
def A37:=@Int.toNat_of_nonneg
def A38:=@List.drop_set_of_lt
def A39:=@List.mem_map_of_mem
def A4a:=@Rat.mkRat_mul_mkRat
def A4b:=@List.drop_nil
def A4c:=@List.map_take
def A4d:=@Prod.mk.injEq
def A4e:=@Rat.den_mkRat
def A4f:=@Rat.mul_assoc
def A4g:=@Rat.num_mkRat
def A4h:=@Int.lt_tmod_of_pos
def A4i:=@List.map_replicate
def A4j:=@List.mem_cons_self
def A4k:=@Nat.add_sub_cancel
def A4l:=@Rat.div_mul_cancel
def A4m:=@Rat.not_lt
def A4r:=@List.map_nil
def A4s:=@Nat.beq_refl
def A4t:=@Nat.succ_mul
def A4u:=@Rat.le_total
def A4v:=@Rat.ne_of_gt
def A44:=@Int.mul_neg
def A45:=@Nat.div_one
def A46:=@Nat.or_comm
def A47:=@Nat.pow_mul
end Gx
namespace Gx.Uo
abbrev F1:=Rat->Rat
def Conc(f:F1)(a b:Rat):Prop:=∀ x z s,a<=x->x<=b->a<=z->z<=b->0<=s->s<=1->(1 - s)*f x+s*f z<=f ((1 - s)*x+s*z)
def Lin(f:F1)(a b:Rat):Prop:=∃ m q:Rat,∀ x,a<=x->x<=b->f x=m*x+q
def ml{a b c:Rat}(h:a<=b)(hc:0<=c):c*a<=c*b:=Rat.mul_le_mul_of_nonneg_left h hc
def Akc{a b c d s:Rat}(h:a<=b)(h':c<=d)(k:0<=s)(C:s<=1):(1 - s)*a+s*c<=(1 - s)*b+s*d:=by
 have:=ml h (show 0<=1 - s by grind)
 have:=ml h' k
 grind
def Conc.add{f g:F1}{a b:Rat}(T:Conc f a b)(Y:Conc g a b):Conc (fun x=>f x+g x) a b:=fun x z s k C D G I L=>by
 have:=T x z s k C D G I L
 have:=Y x z s k C D G I L
 grind
def Conc.lin(m q a b:Rat):Conc (fun x=>m*x+q) a b:=fun x z s k C D G I L=>by grind
def Conc.smul{f:F1}{a b w:Rat}(k:0<=w)(C:Conc f a b):Conc (fun x=>w*f x) a b:=fun x z s D G I L T Y=>by
 have:=ml (C x z s D G I L T Y) k
 grind
def Conc.sub{f:F1}{a b c d:Rat}(k:Conc f a b)(D:a<=c)(G:d<=b):Conc f c d:=fun x z s I L T Y k5 C=>k x z s (by grind) (by grind) (by grind) (by grind) k5 C
def Conc.mn{f g:F1}{a b:Rat}(T:Conc f a b)(Y:Conc g a b):Conc (fun x=>if f x<=g x then f x else g x) a b:=fun x z s D G I L k C=>by
 have k1:=T x z s D G I L k C
 have k2:=Y x z s D G I L k C
 have k3:=Akc (show(if f x<=g x then f x else g x)<=f x by grind) (show(if f z<=g z then f z else g z)<=f z by grind) k C
 have k4:=Akc (show(if f x<=g x then f x else g x)<=g x by grind) (show(if f z<=g z then f z else g z)<=g z by grind) k C
 show _<=(if f ((1 - s)*x+s*z)<=g ((1 - s)*x+s*z)then f ((1 - s)*x+s*z)else g ((1 - s)*x+s*z))
 split<;>grind
def Afz{a x b:Rat}(D:a<=x)(G:x<=b)(h:a<b):∃ s,0<=s/\s<=1/\x=(1 - s)*a+s*b:=by
 have C:0<b - a:=by grind
 have k:b - a≠0:=by grind
 have e:(x - a)/(b - a)*(b - a)=x - a:=A4l k
 refine⟨(x - a)/(b - a),?_,?_,by grind⟩
 ·refine A20 (c:=b - a) ?_ C;grind
 ·refine A20 (c:=b - a) ?_ C;grind
def Conc.fall{f:F1}{a b k x y:Rat}(D:Conc f a b)(G:a<=k)(I:∀ t,a<=t->t<=b->f t<=f k)(L:k<=x)(T:x<=y)(C:y<=b):f y<=f x:=by
 by_cases h:k<y
 ·obtain⟨s,Y,s1,rfl⟩:=Afz L T h
  have:=D k y s G (by grind) (by grind) C Y s1
  have:=ml (I y (by grind) C) (show 0<=1 - s by grind)
  grind
 ·have:x=y:=by grind
  subst this;grind
def Conc.rise{f:F1}{a b k x y:Rat}(G:Conc f a b)(I:k<=b)(L:∀ t,a<=t->t<=b->f t<=f k)(C:a<=y)(T:y<=x)(Y:x<=k):f y<=f x:=by
 by_cases h:y<k
 ·obtain⟨s,D,s1,rfl⟩:=Afz T Y h
  have:=G y k s C (by grind) (by grind) I D s1
  have:=ml (L y C (by grind)) D
  grind
 ·have:x=y:=by grind
  subst this;grind
def mn(a b:Rat):Rat:=if a<=b then a else b
def mx(a b:Rat):Rat:=if a<=b then b else a
def Ac4{f:F1}{a b z lo hi:Rat}(C:Conc f a b)(D:a<=z)(G:z<=b)(k:∀ t,a<=t->t<=b->f t<=f z)(I:a<=lo)(hh:hi<=b){y:Rat}(y1:lo<=y)(y2:y<=hi):f y<=f (mn (mx z lo) hi):=by
 by_cases h:z<=lo
 ·have e:mn (mx z lo) hi=lo:=by unfold mn mx;grind
  rw[e];exact C.fall D k h y1 (by grind)
 ·by_cases L:z<=hi
  ·have e:mn (mx z lo) hi=z:=by unfold mn mx;grind
   rw[e];exact k y (by grind) (by grind)
  ·have e:mn (mx z lo) hi=hi:=by unfold mn mx;grind
   rw[e];exact C.rise G k (by grind) y2 (by grind)
abbrev Hy:=List (Int×Rat)
structure Cv(f:F1)(L:Hy):Prop where
 ne:0<L.length
 val:∀ i (h:i<L.length),f L[i].1=L[i].2
 lt:∀ i (h:i+1<L.length),L[i].1<L[i+1].1
 lin:∀ i (h:i+1<L.length),Lin f L[i].1 L[i+1].1
def Cv.piece{f:F1}{L:Hy}(c:Cv f L){x:Rat}(C:(L[0]'(c.ne)).1<=x):∀ j (k:j<L.length),x<=L[j].1->(∃ i,∃ h:i+1<L.length,L[i].1<=x/\x<=L[i+1].1)\/x=(L[0]'(c.ne)).1
|0,_,h=>.inr (by grind)
|j+1,k,h=>by
  by_cases D:x<=L[j].1
  ·exact c.piece C j (by omega) D
  ·exact .inl ⟨j,k,by grind,h⟩
def Cv.mono{f:F1}{L:Hy}(c:Cv f L):∀ j i (hi:i<=j) (k:j<L.length),L[i].1<=L[j].1
|0,i,hi,k=>by
  have:i=0:=by omega
  subst this;exact A1f _
|j+1,i,hi,k=>by
  have:=c.lt j k
  by_cases h:i=j+1
  ·subst h;exact A1f _
  ·have:=c.mono j i (by omega) (by omega);omega
def Lin.sub{f:F1}{a b c d:Rat}(h:Lin f a b)(k:a<=c)(C:d<=b):Lin f c d:=by
 obtain⟨m,q,h⟩:=h
 exact⟨m,q,fun x D G=>h x (by grind) (by grind)⟩
def Cv.between{f:F1}{L:Hy}(c:Cv f L){p q:Rat}(h0:(L[0]'(c.ne)).1<=p)(D:p<=q)(G:q<=(L[L.length - 1]'(by have:=c.ne;omega)).1)(hn:∀ e∈L,(e.1:Rat)<=p\/q<=e.1):Lin f p q:=by
 have I:=c.ne
 by_cases e:p=q
 ·subst e
  refine⟨0,f p,fun x T C=>?_⟩
  have:x=p:=by grind
  subst this;grind
 have Y:p<q:=by grind
 rcases c.piece (x:=q) (by grind) (L.length - 1) (by omega) G with⟨i,hi,T,C⟩|k
 ·by_cases k3:(L[i].1:Rat)<=p
  ·exact(c.lin i hi).sub k3 C
  ·
   have k4:(L[i].1:Rat)=q:=by rcases hn _ (Axv (show i<L.length by omega))with h|h<;>grind
   cases i with
   |zero=>grind
   | succ i =>
    refine(c.lin i (by omega)).sub ?_ (by grind)
    have k5:=c.lt i (by omega)
    rcases hn _ (Axv (show i<L.length by omega))with h|h
    ·exact h
    ·have:((L[i].1:Int):Rat)<(L[i+1].1:Rat):=A09.2 k5
     grind
 ·grind
def Cv.most{f:F1}{L:Hy}(c:Cv f L){s M:Rat}(hM:∀ e∈L,e.2+s*e.1<=M){x:Rat}(T:(L[0]'(c.ne)).1<=x)(Y:x<=(L[L.length - 1]'(by have:=c.ne;omega)).1):f x+s*x<=M:=by
 have C:=c.ne
 rcases c.piece T (L.length - 1) (by omega) Y with⟨i,hi,G,I⟩|k
 ·obtain⟨m,q,D⟩:=c.lin i hi
  have k5:((L[i].1:Int):Rat)<=(L[i+1].1:Rat):=Ayr.2 (A3n (c.lt i hi))
  have e1:=hM _ (Axv (show i<L.length by omega))
  have e2:=hM _ (Axv hi)
  rw[<-c.val i (by omega),D _ (by grind) k5]at e1
  rw[<-c.val (i+1) hi,D _ k5 (by grind)]at e2
  rw[D x G I]
  rcases(A4u (a:=0) (b:=m+s))with h|h
  ·have:=ml I h;grind
  ·have:=ml G (show 0<=-(m+s) by grind);grind
 ·have e1:=hM _ (Axv C)
  rw[<-c.val 0 C]at e1
  grind
def Pc(K B:Rat->Prop)(p q:Rat)(f:F1):Prop:=(∃ k,K k/\∀ x,p<=x->x<=q->f x=k)\/(∃ b,B b/\∀ x,p<=x->x<=q->f x=x+b)
def Akg(K B:Rat->Prop)(p q:Rat):Prop:=∀ k b,K k->B b->k - b<=p\/q<=k - b
def Pc.congr{K B:Rat->Prop}{p q:Rat}{f h:F1}(L:Pc K B p q f)(e:∀ x,p<=x->x<=q->h x=f x):Pc K B p q h:=L.imp (fun ⟨k,G,I⟩=>⟨k,G,fun x C D=>(e x C D).trans (I x C D)⟩) (fun ⟨k,G,I⟩=>⟨k,G,fun x C D=>(e x C D).trans (I x C D)⟩)
def Pc.tot{K B:Rat->Prop}{p q:Rat}{f g:F1}(d:Akg K B p q)(hf:Pc K B p q f)(hg:Pc K B p q g):(∀ x,p<=x->x<=q->f x<=g x)\/(∀ x,p<=x->x<=q->g x<=f x):=by
 rcases hf with⟨k,k1,L⟩|⟨b,b1,b2⟩<;>rcases hg with⟨k',T,G⟩|⟨b',Y,I⟩
 ·exact(A4u (a:=k) (b:=k')).imp (fun e x C D=>by rw[L x C D,G x C D];exact e) (fun e x C D=>by rw[L x C D,G x C D];exact e)
 ·exact(d k b' k1 Y).imp (fun e x C D=>by rw[L x C D,I x C D];grind) (fun e x C D=>by rw[L x C D,I x C D];grind)
 ·exact(d k' b T b1).symm.imp (fun e x C D=>by rw[b2 x C D,G x C D];grind) (fun e x C D=>by rw[b2 x C D,G x C D];grind)
 ·exact(A4u (a:=b) (b:=b')).imp (fun e x C D=>by rw[b2 x C D,I x C D];grind) (fun e x C D=>by rw[b2 x C D,I x C D];grind)
def Pc.mn{K B:Rat->Prop}{p q:Rat}{f g:F1}(d:Akg K B p q)(D:Pc K B p q f)(G:Pc K B p q g):Pc K B p q (fun x=>mn (f x) (g x)):=by
 rcases Pc.tot d D G with h|h
 ·exact D.congr fun x k C=>by have:=h x k C;unfold Uo.mn;grind
 ·exact G.congr fun x k C=>by have:=h x k C;unfold Uo.mn;grind
def Pc.mx{K B:Rat->Prop}{p q:Rat}{f g:F1}(d:Akg K B p q)(D:Pc K B p q f)(G:Pc K B p q g):Pc K B p q (fun x=>mx (f x) (g x)):=by
 rcases Pc.tot d D G with h|h
 ·exact G.congr fun x k C=>by have:=h x k C;unfold Uo.mx;grind
 ·exact D.congr fun x k C=>by have:=h x k C;unfold Uo.mx;grind
def Pc.lin{K B:Rat->Prop}{p q:Rat}{f:F1}(G:Pc K B p q f):Lin f p q:=by
 rcases G with⟨k,_,h⟩|⟨b,_,h⟩
 ·exact⟨0,k,fun x C D=>by rw[h x C D];grind⟩
 ·exact⟨1,b,fun x C D=>by rw[h x C D];grind⟩
def Lin.add{f g:F1}{a b:Rat}(D:Lin f a b)(G:Lin g a b):Lin (fun x=>f x+g x) a b:=by
 obtain⟨m,q,h⟩:=D;obtain⟨I,L,h'⟩:=G
 exact⟨m+I,q+L,fun x k C=>by show f x+g x=_;rw[h x k C,h' x k C];grind⟩
def Lin.smul{f:F1}{a b:Rat}(w:Rat)(k:Lin f a b):Lin (fun x=>w*f x) a b:=by
 obtain⟨m,q,h⟩:=k
 exact⟨w*m,w*q,fun x C D=>by show w*f x=_;rw[h x C D];grind⟩
def Lin.of(m q a b:Rat):Lin (fun x=>m*x+q) a b:=⟨m,q,fun _ _ _=>rfl⟩
def Lin.congr{f g:F1}{a b:Rat}(h:Lin f a b)(e:∀ x,a<=x->x<=b->g x=f x):Lin g a b:=by
 obtain⟨m,q,h⟩:=h
 exact⟨m,q,fun x k C=>(e x k C).trans (h x k C)⟩
def Cv.comp{f g:F1}{L:Hy}(c:Cv f L){K B:Rat->Prop}{p q:Rat}(C:p<=q)(d:Akg K B p q)(hK:∀ e∈L,K e.1)(I:Pc K B p q g)(hr:∀ x,p<=x->x<=q->(L[0]'(c.ne)).1<=g x/\g x<=(L[L.length - 1]'(by have:=c.ne;omega)).1):Lin (fun x=>f (g x)) p q:=by
 rcases I with⟨k,_,h⟩|⟨b,T,h⟩
 ·exact⟨0,f k,fun x D G=>by show f (g x)=_;rw[h x D G];grind⟩
 ·obtain⟨m,t,Y⟩:=c.between (p:=p+b) (q:=q+b) (by rw[<-h p (by grind) C];exact(hr p (by grind) C).1) (by grind) (by rw[<-h q C (by grind)];exact(hr q C (by grind)).2) fun e he=>by
   rcases d e.1 b (hK e he) T with D|D<;>grind
  exact⟨m,m*b+t,fun x D G=>by show f (g x)=_;rw[h x D G,Y (x+b) (by grind) (by grind)];grind⟩
structure Stp where
 fst:Rat
 lst:Rat
 pln:Rat
 pay:Rat
 ru:Rat
 rd:Rat
 rs:Rat
 mx:Rat
def Stp.T(s:Stp)(x:Rat):Rat:=mn (x+(s.rs - s.ru)) (s.mx - s.ru)
def Stp.bef(s:Stp)(x:Rat):Rat:=mn (Uo.mx (mn (Uo.mx (s.T x) s.pln) s.pay) (Uo.mx s.fst (x+-s.ru))) (mn s.lst (x+s.rd))
def Stp.G(s:Stp)(c:F1)(w x:Rat):Rat:=c (s.bef x)+w*(mn (s.T x) (s.bef x)+(-1*x+s.ru))
structure Stp.Ok(s:Stp)(c:F1)(w:Rat):Prop where
 conc:Conc c s.fst s.lst
 w0:0<=w
 p0:s.fst<=s.pln/\s.pln<=s.lst
 p1:∀ y,s.fst<=y->y<=s.lst->c y<=c s.pln
 q0:s.fst<=s.pay/\s.pay<=s.lst
 q1:∀ y,s.fst<=y->y<=s.lst->c y+w*y<=c s.pay+w*s.pay
 ru0:0<=s.ru
 rd0:0<=s.rd
 rs0:0<=s.rs
def Conc.congr{f g:F1}{a b:Rat}(h:Conc f a b)(e:∀ x,g x=f x):Conc g a b:=fun x z s k C D G I L=>by rw[e,e,e];exact h x z s k C D G I L
def Stp.Ok.phi{s:Stp}{c:F1}{w:Rat}(k:s.Ok c w)(t:Rat):Conc (fun y=>c y+w*mn t y) s.fst s.lst:=k.conc.add (Conc.smul k.w0 (Conc.congr ((Conc.lin 0 t s.fst s.lst).mn (Conc.lin 1 0 s.fst s.lst)) fun x=>by unfold Uo.mn;grind))
def Stp.Ok.top{s:Stp}{c:F1}{w:Rat}(k:s.Ok c w)(t:Rat){y:Rat}(G:s.fst<=y)(I:y<=s.lst):c y+w*mn t y<=c (mn (Uo.mx t s.pln) s.pay)+w*mn t (mn (Uo.mx t s.pln) s.pay):=by
 have hp:=k.p1 y G I;have hq:=k.q1 y G I
 have T:=k.p1 s.pay k.q0.1 k.q0.2;have Y:=k.q1 s.pln k.p0.1 k.p0.2
 have m1:w*mn t y<=w*t:=ml (by unfold mn;grind) k.w0
 have m2:w*mn t y<=w*y:=ml (by unfold mn;grind) k.w0
 by_cases D:s.pay<=Uo.mx t s.pln
 ·have e:mn (Uo.mx t s.pln) s.pay=s.pay:=by unfold mn;grind
  rw[e]
  by_cases ht:s.pay<=t
  ·have C:mn t s.pay=s.pay:=by unfold mn;grind
   rw[C];grind
  ·have C:mn t s.pay=t:=by unfold mn;grind
   have L:s.pay<=s.pln:=by revert D;unfold Uo.mx;grind
   have:=ml L k.w0
   rw[C];grind
 ·by_cases ht:t<=s.pln
  ·have e:mn (Uo.mx t s.pln) s.pay=s.pln:=by revert D;unfold mn Uo.mx;grind
   have C:mn t s.pln=t:=by unfold mn;grind
   rw[e,C];grind
  ·have e:mn (Uo.mx t s.pln) s.pay=t:=by revert D;unfold mn Uo.mx;grind
   have C:mn t t=t:=by unfold mn;grind
   have L:t<s.pay:=by revert D;unfold Uo.mx;grind
   have:=k.p0;have:=k.q0
   rw[e,C]
   by_cases hy:t<=y
   ·have:=k.conc.fall k.p0.1 k.p1 (show s.pln<=t by grind) hy I
    grind
   ·have:=(Conc.add k.conc (Conc.smul k.w0 (Conc.lin 1 0 s.fst s.lst))).rise (k:=s.pay) k.q0.2 (fun t' a b=>by show c t'+w*(1*t'+0)<=c s.pay+w*(1*s.pay+0);have:=k.q1 t' a b;grind) G (show y<=t by grind) (by grind)
    have this:c y+w*(1*y+0)<=c t+w*(1*t+0):=this
    grind
def Stp.dom(s:Stp)(x:Rat):Prop:=s.fst - s.rd<=x/\x<=s.lst+s.ru/\x<=s.mx
def Stp.Ok.befR{s:Stp}{c:F1}{w:Rat}(k:s.Ok c w){x:Rat}(C:s.dom x):s.fst<=s.bef x/\s.bef x<=s.lst/\x - s.ru<=s.bef x/\s.bef x<=x+s.rd:=by
 obtain⟨a,b,e⟩:=C
 have:=k.ru0;have:=k.rd0;have D:=k.p0;have G:=k.q0
 unfold Stp.bef
 generalize mn (Uo.mx (s.T x) s.pln) s.pay=z
 unfold mn Uo.mx;grind
def Stp.Ok.best{s:Stp}{c:F1}{w:Rat}(k:s.Ok c w){x y r:Rat}(I:s.dom x)(y1:s.fst<=y)(y2:y<=s.lst)(y3:x - s.ru<=y)(y4:y<=x+s.rd)(r1:r<=s.rs)(r2:x+r<=s.mx)(r3:x+r<=y+s.ru):c y+w*r<=s.G c w x:=by
 have L:=k.p0;have Y:=k.q0
 have C:s.fst<=mn (Uo.mx (s.T x) s.pln) s.pay/\mn (Uo.mx (s.T x) s.pln) s.pay<=s.lst:=by unfold mn Uo.mx;grind
 have D:=Ac4 (k.phi (s.T x)) C.1 C.2 (fun t a b=>k.top (s.T x) a b) (lo:=Uo.mx s.fst (x+-s.ru)) (hi:=mn s.lst (x+s.rd)) (by unfold Uo.mx;grind) (by unfold mn;grind) (y:=y) (by unfold Uo.mx;grind) (by unfold mn;grind)
 have hr:r<=mn (s.T x) y+(-1*x+s.ru):=by unfold Stp.T mn;grind
 have:=ml hr k.w0
 have D:c y+w*mn (s.T x) y<=c (s.bef x)+w*mn (s.T x) (s.bef x):=D
 unfold Stp.G;grind
def Stp.Ok.res{s:Stp}{c:F1}{w:Rat}(k:s.Ok c w){x:Rat}(C:s.dom x):0<=mn (s.T x) (s.bef x)+(-1*x+s.ru)/\mn (s.T x) (s.bef x)+(-1*x+s.ru)<=s.rs/\x+(mn (s.T x) (s.bef x)+(-1*x+s.ru))<=s.mx/\x+(mn (s.T x) (s.bef x)+(-1*x+s.ru))<=s.bef x+s.ru:=by
 have D:=k.befR C
 have G:=k.rs0;have I:=C.2.2
 generalize s.bef x=y at *
 unfold Stp.T mn;grind
def Stp.Ok.conc'{s:Stp}{c:F1}{w:Rat}(k:s.Ok c w){lo hi:Rat}(h:∀ x,lo<=x->x<=hi->s.dom x):Conc (s.G c w) lo hi:=fun x z t L Y h3 h4 C D=>by
 have dx:=h x L Y;have dz:=h z h3 h4
 have dm:s.dom ((1 - t)*x+t*z):=by
  have a1:=Akc dx.1 dz.1 C D;have a2:=Akc dx.2.1 dz.2.1 C D;have a3:=Akc dx.2.2 dz.2.2 C D
  exact⟨by grind,by grind,by grind⟩
 obtain⟨b1,b2,b3,b4⟩:=k.befR dx;obtain⟨e1,I,e3,e4⟩:=k.befR dz
 obtain⟨f1,f2,f3,f4⟩:=k.res dx;obtain⟨g1,g2,g3,g4⟩:=k.res dz
 have kc:=k.conc _ _ t b1 b2 e1 I C D
 have H:=k.best (y:=(1 - t)*s.bef x+t*s.bef z) (r:=(1 - t)*(mn (s.T x) (s.bef x)+(-1*x+s.ru))+t*(mn (s.T z) (s.bef z)+(-1*z+s.ru))) dm (by have:=Akc b1 e1 C D;grind) (by have:=Akc b2 I C D;grind) (by have:=Akc b3 e3 C D;grind) (by have:=Akc b4 e4 C D;grind) (by have:=Akc f2 g2 C D;grind) (by have:=Akc f3 g3 C D;grind) (by have:=Akc f4 g4 C D;grind)
 refine A2s ?_ H
 unfold Stp.G
 grind
def Stp.Ok.lin{s:Stp}{c:F1}{w:Rat}(k:s.Ok c w){L:Hy}(v:Cv c L)(hf:s.fst=(L[0]'(v.ne)).1)(hl:s.lst=(L[L.length - 1]'(by have:=v.ne;omega)).1)(hp:∃ e∈L,s.pln=e.1)(hq:∃ e∈L,s.pay=e.1){p q:Rat}(C:p<=q)(hd:∀ x,p<=x->x<=q->s.dom x)
  (cand:∀ t,(t=s.mx - s.rs\/t=s.mx - s.ru - s.rd\/∃ e∈L,t=e.1 - s.rd\/t=e.1+s.ru\/t=e.1+s.ru - s.rs)->t<=p\/q<=t):Lin (s.G c w) p q:=by
 have I:=v.ne
 have d:Akg (fun x=>x=s.mx - s.ru\/∃ e∈L,x=e.1) (fun b=>b=-s.ru\/b=s.rd\/b=s.rs - s.ru) p q:=fun x b hx hb=>by
  rcases hx with rfl|⟨e,D,rfl⟩<;>rcases hb with rfl|rfl|rfl
  ·right;have:=(hd q C (by grind)).2.2;grind
  ·exact cand _ (.inr (.inl rfl))
  ·rcases cand _ (.inl rfl)with h|h<;>grind
  ·rcases cand (e.1+s.ru) (.inr (.inr ⟨e,D,.inr (.inl rfl)⟩))with h|h<;>grind
  ·exact cand _ (.inr (.inr ⟨e,D,.inl rfl⟩))
  ·rcases cand (e.1+s.ru - s.rs) (.inr (.inr ⟨e,D,.inr (.inr rfl)⟩))with h|h<;>grind
 obtain⟨ep,Y,ep1⟩:=hp;obtain⟨eq,heq,eq1⟩:=hq
 have c1:Pc (fun x=>x=s.mx - s.ru\/∃ e∈L,x=e.1) (fun b=>b=-s.ru\/b=s.rd\/b=s.rs - s.ru) p q s.T :=
  Pc.mn d (.inr ⟨s.rs - s.ru,.inr (.inr rfl),fun _ _ _=>rfl⟩) (.inl ⟨s.mx - s.ru,.inl rfl,fun _ _ _=>rfl⟩)
 have ck:∀ z:Rat,(∃ e∈L,z=e.1)->Pc (fun x=>x=s.mx - s.ru\/∃ e∈L,x=e.1) (fun b=>b=-s.ru\/b=s.rd\/b=s.rs - s.ru) p q (fun _=>z):=fun z hz=>.inl ⟨z,.inr hz,fun _ _ _=>rfl⟩
 have c2:Pc (fun x=>x=s.mx - s.ru\/∃ e∈L,x=e.1) (fun b=>b=-s.ru\/b=s.rd\/b=s.rs - s.ru) p q s.bef :=
  Pc.mn d (Pc.mx d (Pc.mn d (Pc.mx d c1 (ck _ ⟨ep,Y,ep1⟩)) (ck _ ⟨eq,heq,eq1⟩)) (Pc.mx d (ck _ ⟨_,Axv I,hf⟩) (.inr ⟨_,.inl rfl,fun _ _ _=>rfl⟩)))
   (Pc.mn d (ck _ ⟨_,Axv (by omega),hl⟩) (.inr ⟨_,.inr (.inl rfl),fun _ _ _=>rfl⟩))
 exact(v.comp C d (fun e D=>.inr ⟨e,D,rfl⟩) c2 fun x h1 h2=>by have:=k.befR (hd x h1 h2);rw[<-hf,<-hl];exact⟨this.1,this.2.1⟩).add (Lin.smul w ((Pc.mn d c1 c2).lin.add (Lin.of (-1) s.ru p q)))
def Lin.join{f:F1}{a b c:Rat}(k:Lin f a b)(C:Lin f b c)(G:a<b)(I:b<c)(e:(f b - f a)*(c - b)=(f c - f b)*(b - a)):Lin f a c:=by
 obtain⟨m,q,k⟩:=k;obtain⟨D,q',C⟩:=C
 have e1:=k a (by grind) (by grind);have e2:=k b (by grind) (by grind);have e3:=C b (by grind) (by grind);have e4:=C c (by grind) (by grind)
 have em:m=D:=by
  have:(b - a)*((c - b)*(m - D))=0:=by grind
  rcases Rat.mul_eq_zero.1 this with h|h
  ·grind
  ·rcases Rat.mul_eq_zero.1 h with h|h<;>grind
 subst em
 refine⟨m,q,fun x L T=>?_⟩
 by_cases Y:x<=b
 ·exact k x L Y
 ·rw[C x (by grind) T];grind
def Ac5(L:Hy)(x:Int)(v:Rat):Bool:=if h:2<=L.length then(L[L.length - 1].2 - L[L.length - 2].2)*(x - L[L.length - 1].1)==(v - L[L.length - 1].2)*(L[L.length - 1].1 - L[L.length - 2].1)else false
def JM(L:Hy)(x:Int)(v:Rat):Hy:=(if Ac5 L x v then L.take (L.length - 1)else L)++[(x,v)]
def nN{a b:Int}(h:a<b):(a:Rat)<b:=A09.2 h
def Bo{a b:Int}(h:a<=b):(a:Rat)<=b:=Ayr.2 h
def Cv.one(f:F1)(x:Int):Cv f [(x,f x)]:=⟨by simp,fun i h=>by simp,fun i h=>by simp at h,fun i h=>by simp at h⟩
def Cv.snoc{f:F1}{L:Hy}(c:Cv f L){x:Int}(k:(L[L.length - 1]'(by have:=c.ne;omega)).1<x)(C:Lin f (L[L.length - 1]'(by have:=c.ne;omega)).1 x):Cv f (L++[(x,f x)]):=by
 have D:=c.ne
 refine⟨by simp,fun i h=>?_,fun i h=>?_,fun i h=>?_⟩
 ·by_cases hi:i<L.length
  ·rw[Ayj hi];exact c.val i hi
  ·have:i=L.length:=by simp at h;omega
   subst this;simp
 ·simp at h
  by_cases hi:i+1<L.length
  ·rw[Ayj hi,Ayj (by omega)];exact c.lt i hi
  ·have:i=L.length - 1:=by omega
   subst this;rw[Ayj (by omega),Azy (by omega)];simpa using k
 ·simp at h
  by_cases hi:i+1<L.length
  ·rw[Ayj hi,Ayj (by omega)];exact c.lin i hi
  ·have:i=L.length - 1:=by omega
   subst this;rw[Ayj (by omega),Azy (by omega)];simpa using C
def Cv.init{f:F1}{L:Hy}(c:Cv f L){n:Nat}(C:0<n):Cv f (L.take n):=by
 have k:=c.ne
 refine⟨by rw[Ax6];omega,fun i h=>?_,fun i h=>?_,fun i h=>?_⟩<;>rw[Ax6]at h
 ·rw[Azs];exact c.val i (by omega)
 ·rw[Azs,Azs];exact c.lt i (by omega)
 ·rw[Azs,Azs];exact c.lin i (by omega)
structure Upto(f:F1)(L:Hy)(a b:Int):Prop where
 cv:Cv f L
 fst:(L[0]'cv.ne).1=a
 lst:(L[L.length - 1]'(by have:=cv.ne;omega)).1=b
def Upto.add{f:F1}{L:Hy}{a b x:Int}(u:Upto f L a b)(h:b<x)(T:Lin f b x):Upto f (JM L x (f x)) a x:=by
 obtain⟨c,Y,hb⟩:=u
 have D:=c.ne
 unfold JM
 cases C:Ac5 L x (f x)with
|false =>
  have k:=c.snoc (x:=x) (by omega) (by rw[hb];exact T)
  exact⟨k,by simp only[Azb,if_false];rw[Ayj D];exact Y,by simp⟩
| true =>
  unfold Ac5 at C
  split at C
  ·rename_i h2
   rw[beq_iff_eq,<-c.val _ (show L.length - 1<L.length by omega),<-c.val _ (show L.length - 2<L.length by omega)]at C
   have G:=c.lt (L.length - 2) (by omega);have I:=c.lin (L.length - 2) (by omega)
   have e1:L.length - 2+1=L.length - 1:=by omega
   simp only[e1]at G I
   rw[hb]at C G I
   have ci:=c.init (n:=L.length - 1) (by omega)
   have hlen:(L.take (L.length - 1)).length=L.length - 1:=by rw[Ax6];omega
   have el:((L.take (L.length - 1))[(L.take (L.length - 1)).length - 1]'(by omega))=L[L.length - 2]:=by
    rw[Azs];congr 1;omega
   have k:=ci.snoc (x:=x) (by rw[el];omega) (by rw[el];exact I.join T (nN G) (nN h) C)
   refine⟨k,?_,by simp⟩
   simp only[if_true]
   rw[Ayj (by omega),Azs];exact Y
  ·cases C
def bI(f:F1)(xs:List Int):Hy:=xs.foldl (fun L x=>JM L x (f x)) []
def Asc(xs:List Int):Prop:=∀ i (h:i+1<xs.length),xs[i]<xs[i+1]
def zI{f:F1}{xs:List Int}(C:Asc xs)(D:∀ i (h:i+1<xs.length),Lin f xs[i] xs[i+1]):∀ k (h:k<xs.length),Upto f (bI f (xs.take (k+1))) xs[0] xs[k]
| 0,h=>by
  have e:xs.take 1=[xs[0]]:=by cases xs with
   |nil=>simp at h
   |cons a r=>simp
  rw[e];exact⟨Cv.one f _,rfl,rfl⟩
| k+1,h=>by
  have e:bI f (xs.take (k+1+1))=JM (bI f (xs.take (k+1))) xs[k+1] (f xs[k+1]):=by
   unfold bI;rw[Ax5 h,List.foldl_append];rfl
  rw[e]
  exact(zI C D k (by omega)).add (C k h) (D k h)
def Aqo{f:F1}{xs:List Int}(hn:0<xs.length)(k:Asc xs)(C:∀ i (h:i+1<xs.length),Lin f xs[i] xs[i+1]):Upto f (bI f xs) xs[0] xs[xs.length - 1]:=by
 have:=zI k C (xs.length - 1) (by omega)
 rwa [Axl (by omega)]at this
def Asc.lt{xs:List Int}(k:Asc xs):∀ j i (_:i<j) (C:j<xs.length),xs[i]<xs[j]
|0,_,h,_=>absurd h (by omega)
|j+1,i,h,C=>by
  have:=k j C
  by_cases e:i=j
  ·subst e;exact this
  ·have:=k.lt j i (by omega) (by omega);omega
def Asc.gap{xs:List Int}(k:Asc xs){i:Nat}(h:i+1<xs.length){t:Int}(C:t∈xs):t<=xs[i]\/xs[i+1]<=t:=by
 obtain⟨j,D,rfl⟩:=Azu.1 C
 by_cases G:j<=i
 ·left;by_cases e:j=i
  ·subst e;exact A1f _
  ·exact A3n (k.lt i j (by omega) (by omega))
 ·right;by_cases e:j=i+1
  ·subst e;exact A1f _
  ·exact A3n (k.lt j (i+1) (by omega) D)
structure Grid(lo hi:Int)(cs xs:List Int):Prop where
 asc:Asc xs
 mem:∀ t,t∈xs↔t=lo\/t=hi\/(t∈cs/\lo<t/\t<hi)
def Grid.all{lo hi:Int}{cs xs:List Int}(g:Grid lo hi cs xs)(h:lo<=hi){t:Int}(k:t∈xs):lo<=t/\t<=hi:=by rcases(g.mem t).1 k with rfl|rfl|C<;>omega
def Grid.ends{lo hi:Int}{cs xs:List Int}(g:Grid lo hi cs xs)(h:lo<=hi):∃ k:0<xs.length,xs[0]=lo/\xs[xs.length - 1]=hi:=by
 have m1:=(g.mem lo).2 (.inl rfl);have m2:=(g.mem hi).2 (.inr (.inl rfl))
 have k:0<xs.length:=List.length_pos_of_mem m1
 obtain⟨i,C,e1⟩:=Azu.1 m1
 obtain⟨j,G,D⟩:=Azu.1 m2
 have a1:=(g.all h (Axv k)).1
 have a2:=(g.all h (Axv (show xs.length - 1<xs.length by omega))).2
 refine⟨k,?_,?_⟩
 ·by_cases e:i=0
  ·subst e;exact e1
  ·have:=g.asc.lt i 0 (by omega) C;omega
 ·by_cases e:j=xs.length - 1
  ·subst e;exact D
  ·have:=g.asc.lt (xs.length - 1) j (by omega) (by omega);omega
def Grid.cand{lo hi:Int}{cs xs:List Int}(g:Grid lo hi cs xs)(k:lo<=hi){i:Nat}(h:i+1<xs.length){t:Int}(C:t∈cs):t<=xs[i]\/xs[i+1]<=t:=by
 have a1:=g.all k (Axv (show i<xs.length by omega));have a2:=g.all k (Axv h)
 by_cases D:t<=lo
 ·left;omega
 ·by_cases G:hi<=t
  ·right;omega
  ·exact g.asc.gap h ((g.mem t).2 (.inr (.inr ⟨C,by omega,by omega⟩)))
def Grid.built{f:F1}{lo hi:Int}{cs xs:List Int}(g:Grid lo hi cs xs)(h:lo<=hi)(C:∀ p q:Int,lo<=p->p<=q->q<=hi->(∀ t∈cs,t<=p\/q<=t)->Lin f p q):Upto f (bI f xs) lo hi:=by
 obtain⟨D,e1,G⟩:=g.ends h
 have:=Aqo (f:=f) D g.asc fun i k=>by
  exact C _ _ (g.all h (Axv _)).1 (A3n (g.asc i k)) (g.all h (Axv _)).2 fun t I=>g.cand h k I
 rwa [e1,G]at this
def Asc.eq:∀{xs ys:List Int},Asc xs->Asc ys->(∀ t,t∈xs↔t∈ys)->xs=ys
|[],[],_,_,_=>rfl
|[],b::r,_,_,h=>absurd ((h b).2 (by simp)) (by simp)
|a::r,[],_,_,h=>absurd ((h a).1 (by simp)) (by simp)
| a::r,b::s,D,G,h=>by
  have l1:∀ t∈r,a<t:=fun t k=>by
   obtain⟨j,I,rfl⟩:=Azu.1 k
   exact D.lt (j+1) 0 (by omega) (by simp;omega)
  have l2:∀ t∈s,b<t:=fun t k=>by
   obtain⟨j,I,rfl⟩:=Azu.1 k
   exact G.lt (j+1) 0 (by omega) (by simp;omega)
  have e:a=b:=by
   have L:a∈b::s:=(h a).1 (by simp)
   have T:b∈a::r:=(h b).2 (by simp)
   rcases Ax7.1 L with e|e
   ·exact e
   ·rcases Ax7.1 T with C|C
    ·exact C.symm
    ·have:=l2 _ e;have:=l1 _ C;omega
  subst e
  rw[Asc.eq (xs:=r) (ys:=s) (fun i hi=>D (i+1) (by simp;omega)) (fun i hi=>G (i+1) (by simp;omega)) fun t=>by
   have:=h t;simp only[Ax7]at this
   constructor
   ·intro k;have:=l1 t k;rcases(h t).1 (by simp[k])|>Ax7.1 with e|e
    ·omega
    ·exact e
   ·intro k;have:=l2 t k;rcases(h t).2 (by simp[k])|>Ax7.1 with e|e
    ·omega
    ·exact e]
def F4(a b:Int):Int:=if a<=b then a else b
def Wj(a b:Int):Int:=if a<=b then b else a
def Akh(a b:Int):((F4 a b:Int):Rat)=mn a b:=by
 unfold F4 mn
 by_cases h:a<=b
 ·rw[if_pos h,if_pos (Bo h)]
 ·rw[if_neg h,if_neg (fun k=>h (Ayr.1 k))]
def Asq(a b:Int):((Wj a b:Int):Rat)=mx a b:=by
 unfold Wj mx
 by_cases h:a<=b
 ·rw[if_pos h,if_pos (Bo h)]
 ·rw[if_neg h,if_neg (fun k=>h (Ayr.1 k))]
def pk(s:Rat):Hy->Int->Rat->Int
|[],b,_=>b
|(x,v)::r,b,m=>if m<v+s*x then pk s r x (v+s*x)else pk s r b m
def E9(s:Rat):Hy->Int
|[]=>0
|(x,v)::r=>pk s r x (v+s*x)
def Aki(s:Rat):∀(L:Hy)(b:Int)(m:Rat),(pk s L b m=b/\∀ e∈L,e.2+s*e.1<=m)\/∃ e∈L,pk s L b m=e.1/\m<=e.2+s*e.1/\∀ e'∈L,e'.2+s*e'.1<=e.2+s*e.1
|[],b,m=>.inl ⟨rfl,by simp⟩
| (x,v)::r,b,m=>by
  rw[pk]
  split
  ·rename_i h
   rcases Aki s r x (v+s*x)with⟨k,C⟩|⟨e,D,k,C,G⟩
   ·exact .inr ⟨(x,v),by simp,k,by show m<=v+s*x;grind,A0j.2 ⟨Azr,C⟩⟩
   ·exact .inr ⟨e,by simp[D],k,by grind,A0j.2 ⟨C,G⟩⟩
  ·rename_i h
   rcases Aki s r b m with⟨k,C⟩|⟨e,D,k,C,G⟩
   ·exact .inl ⟨k,A0j.2 ⟨by show v+s*x<=m;grind,C⟩⟩
   ·exact .inr ⟨e,by simp[D],k,C,A0j.2 ⟨by show v+s*x<=_;grind,G⟩⟩
def Af0(s:Rat){L:Hy}(h:0<L.length):∃ e∈L,E9 s L=e.1/\∀ e'∈L,e'.2+s*e'.1<=e.2+s*e.1:=by
 match L,h with
|(x,v)::r,_ =>
  rw[E9]
  rcases Aki s r x (v+s*x)with⟨k,C⟩|⟨e,D,k,C,G⟩
  ·exact⟨(x,v),by simp,k,A0j.2 ⟨Azr,C⟩⟩
  ·exact⟨e,by simp[D],k,A0j.2 ⟨C,G⟩⟩
structure Un where
 min:Int
 max:Int
 ru:Int
 rd:Int
 sr:Int
 tr:Int
 rs:Int
 nl:Int
 rp:Int
 out:Int
 on:Bool
 C:F1
 cL:Hy
structure Un.Ok(u:Un):Prop where
 b0:0<=u.min/\u.min<=u.max/\u.max<=1048576
 ru0:0<=u.ru/\u.ru<=1048576
 rd0:0<=u.rd/\u.rd<=1048576
 rs0:0<=u.rs/\u.rs<=1048576
 sr0:u.min<=u.sr/\u.sr<=u.max
 tr0:u.min<=u.tr/\u.tr<=u.max
 o0:u.on=true->u.min<=u.out/\u.out<=u.max
 cc:Upto u.C u.cL u.min u.max
 cv:Conc u.C u.min u.max
def Az(u:Un)(b:Rat):Rat:=mx 0 (b - u.rp)
def own(u:Un)(a:Rat):F1:=fun x=>a*x+u.C x - u.nl
def fstP(L:Hy):Int:=(L.headD (0,0)).1
def lstP(L:Hy):Int:=(L.getLastD (0,0)).1
def uE(u:Un)(L:Hy)(w:Rat):Stp:=⟨fstP L,lstP L,E9 0 L,E9 w L,u.ru,u.rd,u.rs,u.max⟩
def VL(lo hi:Int)(cs:List Int):List Int:=((List.range (hi - lo+1).toNat).map fun(i:Nat)=>lo+(i:Int)).filter fun t=>t==lo||t==hi||cs.contains t
def NO(u:Un)(L:Hy):List Int:=[u.max - u.rs,u.max - u.ru - u.rd]++u.cL.map (·.1)++L.flatMap fun e=>[e.1 - u.rd,e.1+u.ru,e.1+u.ru - u.rs]
def YJ(u:Un)(a b:Rat)(f:F1)(L:Hy):F1:=fun x=>(uE u L (Az u b)).G f (Az u b) x+own u a x
def wQ(u:Un)(a b:Rat)(f:F1)(L:Hy):Hy:=bI (YJ u a b f L) (VL (Wj u.min (fstP L - u.rd)) (F4 u.max (lstP L+u.ru)) (NO u L))
def bL(u:Un)(a b:Rat):F1:=fun x=>own u a x+Az u b*mn u.rs (u.sr - x)
def Ahl(u:Un)(a b:Rat):Hy:=bI (bL u a b) (VL u.min u.sr ((u.sr - u.rs)::u.cL.map (·.1)))
def Akj{lo hi:Int}{cs:List Int}:Asc (VL lo hi cs):=by
 have h:(VL lo hi cs).Pairwise (·<·):=by
  unfold VL
  refine List.Pairwise.filter _ ?_
  rw[List.pairwise_map]
  exact List.Pairwise.imp (fun h=>by omega) List.pairwise_lt_range
 intro i k
 exact Azd.1 h i (i+1) (by omega) k (by omega)
def wR {lo hi:Int} {cs:List Int} (h:lo<=hi):Grid lo hi cs (VL lo hi cs):=⟨Akj,fun t=>by
 unfold VL
 simp only[Az5,Ayy,List.mem_range,Bool.or_eq_true,beq_iff_eq,List.contains_iff_mem]
 constructor
 ·rintro⟨⟨i,D,rfl⟩,(k|k)|k⟩
  ·exact .inl k
  ·exact .inr (.inl k)
  ·by_cases e1:(i:Int)=0
   ·left;omega
   ·by_cases C:lo+(i:Int)=hi
    ·exact .inr (.inl C)
    ·exact .inr (.inr ⟨k,by omega,by omega⟩)
 ·rintro(rfl|rfl|⟨k,G,I⟩)
  ·exact⟨⟨0,by omega,by omega⟩,.inl (.inl rfl)⟩
  ·exact⟨⟨(t - lo).toNat,by omega,by omega⟩,.inl (.inr rfl)⟩
  ·exact⟨⟨(t - lo).toNat,by omega,by omega⟩,.inr k⟩⟩
def Ac6:∀{L:Hy}(h:0<L.length),fstP L=L[0].1
|_::_,_=>rfl
def Upto.fstP{f:F1}{L:Hy}{a b:Int}(u:Upto f L a b):fstP L=a:=(Ac6 u.cv.ne).trans u.fst
def Upto.lstP{f:F1}{L:Hy}{a b:Int}(u:Upto f L a b):lstP L=b:=by
 have:=u.cv.ne;have h:=u.lst
 unfold Uo.lstP
 rw[A1n,A1m,Axn (by omega)];exact h
def Upto.pk{f:F1}{L:Hy}{a b:Int}(u:Upto f L a b)(s:Rat):(∃ e∈L,E9 s L=e.1)/\(a<=E9 s L/\E9 s L<=b)/\∀ x:Rat,a<=x->x<=b->f x+s*x<=f (E9 s L)+s*E9 s L:=by
 obtain⟨e,C,k,D⟩:=Af0 s u.cv.ne
 obtain⟨i,hi,rfl⟩:=Azu.1 C
 refine⟨⟨_,C,k⟩,?_,fun x G I=>?_⟩
 ·have a1:=u.cv.mono i 0 (by omega) hi;have a2:=u.cv.mono (L.length - 1) i (by omega) (by omega)
  rw[u.fst]at a1;rw[u.lst]at a2;rw[k];exact⟨a1,a2⟩
 ·have:=u.cv.most (s:=s) (M:=L[i].2+s*L[i].1) D (x:=x) (by rw[u.fst];exact G) (by rw[u.lst];exact I)
  rw[k,u.cv.val i hi];exact this
structure Stage(u:Un)(f:F1)(L:Hy)(lo hi:Int):Prop where
 up:Upto f L lo hi
 cc:Conc f lo hi
 l0:u.min<=lo
 l1:lo<=hi
 l2:hi<=u.max
def nh(u:Un)(b:Rat):0<=Az u b:=by unfold Az mx;grind
def Stage.ok{u:Un}{f:F1}{L:Hy}{lo hi:Int}(s:Stage u f L lo hi)(k:u.Ok)(b:Rat):(uE u L (Az u b)).Ok f (Az u b):=by
 have p:=s.up.pk 0;have q:=s.up.pk (Az u b)
 have e1:(uE u L (Az u b)).fst=lo:=congrArg (fun z:Int=>(z:Rat)) s.up.fstP
 have C:(uE u L (Az u b)).lst=hi:=congrArg (fun z:Int=>(z:Rat)) s.up.lstP
 refine⟨by rw[e1,C];exact s.cc,nh u b,?_,?_,?_,?_,Bo k.ru0.1,Bo k.rd0.1,Bo k.rs0.1⟩<;>rw[e1,C]
 ·exact⟨Bo p.2.1.1,Bo p.2.1.2⟩
 ·intro y D G;have:=p.2.2 y D G;show f y<=f (E9 0 L:Int);grind
 ·exact⟨Bo q.2.1.1,Bo q.2.1.2⟩
 ·exact q.2.2
def zJ{u:Un}(k:u.Ok)(a:Rat){lo hi:Rat}(C:u.min<=lo)(D:hi<=u.max):Conc (own u a) lo hi:=Conc.congr ((Conc.lin a (-u.nl) lo hi).add (k.cv.sub C D)) fun x=>by unfold own;grind
def Af1{u:Un}(k:u.Ok)(a:Rat){p q:Int}(C:u.min<=p)(h:p<=q)(D:q<=u.max)(hc:∀ e∈u.cL,e.1<=p\/q<=e.1):Lin (own u a) p q:=by refine((Lin.of a (-u.nl) p q).add (k.cc.cv.between (by rw[k.cc.fst];exact Bo C) (Bo h) (by rw[k.cc.lst];exact Bo D) fun e G=>(hc e G).imp Bo Bo)).congr fun x _ _=>by unfold own;grind
def fu{u:Un}(k:u.Ok)(a b:Rat){f:F1}{L:Hy}{lo hi:Int}(s:Stage u f L lo hi):Stage u (YJ u a b f L) (wQ u a b f L) (Wj u.min (lo - u.rd)) (F4 u.max (hi+u.ru)):=by
 have ko:=s.ok k b
 have T:=s.l0;have Y:=s.l1;have h2:=s.l2;have h3:=k.b0;have h4:=k.ru0;have h5:=k.rd0
 have e1:fstP L=lo:=s.up.fstP
 have D:lstP L=hi:=s.up.lstP
 have l0:u.min<=Wj u.min (lo - u.rd)/\lo - u.rd<=Wj u.min (lo - u.rd):=by unfold Wj;split<;>omega
 have l1:Wj u.min (lo - u.rd)<=F4 u.max (hi+u.ru):=by unfold Wj F4;split<;>split<;>omega
 have l2:F4 u.max (hi+u.ru)<=u.max/\F4 u.max (hi+u.ru)<=hi+u.ru:=by unfold F4;split<;>omega
 have dm:∀ x:Rat,(Wj u.min (lo - u.rd):Int)<=x->x<=(F4 u.max (hi+u.ru):Int)->(uE u L (Az u b)).dom x:=fun x x1 x2=>by
  have a1:=Bo l0.2;have a2:=Bo l2.1;have a3:=Bo l2.2
  rw[Ayi]at a1;rw[Aza]at a3
  refine⟨?_,?_,?_⟩
  ·show((fstP L:Int):Rat) - u.rd<=x;rw[e1];grind
  ·show x<=((lstP L:Int):Rat)+u.ru;rw[D];grind
  ·show x<=(u.max:Rat);grind
 refine⟨?_,?_,l0.1,l1,l2.1⟩
 ·unfold wQ;rw[e1,D]
  refine(wR l1).built l1 fun p q p1 pq G hc=>?_
  refine(ko.lin s.up.cv (congrArg (fun z:Int=>(z:Rat)) (e1.trans s.up.fst.symm)) (congrArg (fun z:Int=>(z:Rat)) (D.trans s.up.lst.symm)) ?_ ?_ (Bo pq) (fun x x1 x2=>dm x (A2s (Bo p1) x1) (A2s x2 (Bo G))) ?_).add (Af1 k a (by omega) pq (by omega) fun e C=>hc _ (by unfold NO;simp;exact .inr (.inr (.inl ⟨_,C⟩))))
  ·obtain⟨e,C,h⟩:=(s.up.pk 0).1;exact⟨e,C,congrArg (fun z:Int=>(z:Rat)) h⟩
  ·obtain⟨e,C,h⟩:=(s.up.pk (Az u b)).1;exact⟨e,C,congrArg (fun z:Int=>(z:Rat)) h⟩
  ·have cc:∀ t:Int,t∈NO u L->(t:Rat)<=p\/(q:Rat)<=t:=fun t I=>(hc t I).imp Bo Bo
   rintro t (rfl|rfl|⟨e,C,rfl|rfl|rfl⟩)
   ·have:=cc (u.max - u.rs) (by simp[NO]);rwa [Ayi]at this
   ·have:=cc (u.max - u.ru - u.rd) (by simp[NO]);rwa [Ayi,Ayi]at this
   ·have:=cc (e.1 - u.rd) (by unfold NO;rw[Axz];exact .inr (A18.2 ⟨e,C,by simp⟩));rwa [Ayi]at this
   ·have:=cc (e.1+u.ru) (by unfold NO;rw[Axz];exact .inr (A18.2 ⟨e,C,by simp⟩));rwa [Aza]at this
   ·have:=cc (e.1+u.ru - u.rs) (by unfold NO;rw[Axz];exact .inr (A18.2 ⟨e,C,by simp⟩));rwa [Ayi,Aza]at this
 ·exact(ko.conc' dm).add (zJ k a (Bo l0.1) (Bo l2.1))
def Ahm{u:Un}(k:u.Ok)(a b:Rat):Stage u (bL u a b) (Ahl u a b) u.min u.sr:=by
 have G:=k.b0;have C:=k.sr0
 refine⟨?_,?_,A1f _,C.1,C.2⟩
 ·refine(wR C.1).built C.1 fun p q p1 pq I hc=>?_
  refine(Af1 k a p1 pq (by omega) fun e D=>hc _ (by simp;exact .inr ⟨_,D⟩)).add (Lin.smul _ ?_)
  have hs:u.sr - u.rs<=p\/q<=u.sr - u.rs:=hc _ (by simp)
  rcases hs with h|h
  ·have:=Bo h;rw[Ayi]at this
   exact(Lin.of (-1) u.sr p q).congr fun x x1 x2=>by unfold mn;grind
  ·have:=Bo h;rw[Ayi]at this
   exact(Lin.of 0 u.rs p q).congr fun x x1 x2=>by unfold mn;grind
 ·exact(zJ k a Azr (Bo C.2)).add (Conc.smul (nh u b) (Conc.congr ((Conc.lin 0 u.rs _ _).mn (Conc.lin (-1) u.sr _ _)) fun x=>by unfold mn;grind))
end Gx.Uo
namespace Gx.Uo
def Akk(u:Un)(x:Int):Int:=F4 (x+u.rs) u.max
def fk(u:Un)(L:Hy)(w:Rat)(x:Int):Int:=F4 (Wj (F4 (Wj (Akk u x - u.ru) (E9 0 L)) (E9 w L)) (Wj (fstP L) (x - u.ru))) (F4 (lstP L) (x+u.rd))
def bJ(u:Un)(L:Hy)(w:Rat)(x:Int):Int:=if 0<w then F4 (Akk u x) (fk u L w x+u.ru) - x else 0
def Apl{u:Un}{L:Hy}{w:Rat}{x:Int}:((Akk u x - u.ru:Int):Rat)=(uE u L w).T x:=by
 unfold Akk Stp.T
 rw[Ayi,Akh,Aza]
 show mn ((x:Rat)+u.rs) u.max - u.ru=mn ((x:Rat)+(u.rs - u.ru)) (u.max - u.ru)
 unfold mn;grind
def JN{u:Un}{L:Hy}{w:Rat}{x:Int}:((fk u L w x:Int):Rat)=(uE u L w).bef x:=by
 unfold fk Stp.bef
 rw[Akh,Asq,Akh,Asq,Asq,Akh,Apl (L:=L) (w:=w),Ayi,Aza,A1a (x:Rat)]
 rfl
def Anz{u:Un}{L:Hy}{w:Rat}{x:Int}(h:0<w):((bJ u L w x:Int):Rat)=mn ((uE u L w).T x) ((uE u L w).bef x)+(-1*x+u.ru):=by
 unfold bJ
 rw[if_pos h,Ayi,Akh,Aza,JN,<-Apl,Ayi]
 unfold mn;grind
structure HourOk(u:Un)(was:Bool)(q p r:Rat):Prop where
 lo:u.min<=p
 r0:0<=r
 r1:r<=u.rs
 hi:p+r<=u.max
 ramp:if was then p+r - q<=u.ru/\q - p<=u.rd else p+r<=u.sr
def P'(u:Un)(a b p r:Rat):Rat:=own u a p+(b - u.rp)*r
def zK(u:Un)(b:Rat):b - u.rp<=Az u b:=by unfold Az mx;grind
def ni{u:Un}{b:Rat}(h:0<Az u b):Az u b=b - u.rp:=by revert h;unfold Az mx;grind
def zL{u:Un}(k:u.Ok){a b:Rat}{f:F1}{L:Hy}{lo hi:Int}(s:Stage u f L lo hi){y p r:Rat}(y1:lo<=y)(y2:y<=hi)(h:HourOk u true y p r):f y+P' u a b p r<=YJ u a b f L p/\(Wj u.min (lo - u.rd):Int)<=p/\p<=(F4 u.max (hi+u.ru):Int):=by
 have hr:p+r - y<=u.ru/\y - p<=u.rd:=h.ramp
 obtain⟨T,D,G,I,_⟩:=h
 have e1:(uE u L (Az u b)).fst=lo:=congrArg (fun z:Int=>(z:Rat)) s.up.fstP
 have C:(uE u L (Az u b)).lst=hi:=congrArg (fun z:Int=>(z:Rat)) s.up.lstP
 have H:=(s.ok k b).best (x:=p) (y:=y) (r:=r) ⟨by rw[e1];show(lo:Rat) - u.rd<=p;grind,by rw[C];show p<=(hi:Rat)+u.ru;grind,by show p<=(u.max:Rat);grind⟩ (by rw[e1];exact y1) (by rw[C];exact y2) (by show p - u.ru<=y;grind) (by show y<=p+u.rd;grind) G I (by show p+r<=y+u.ru;grind)
 have:=Azx (zK u b) D
 refine⟨by unfold P' YJ;grind,?_,?_⟩
 ·rw[Asq,Ayi];unfold mx;grind
 ·rw[Akh,Aza];unfold mn;grind
def GH{u:Un}(k:u.Ok){a b:Rat}{f:F1}{L:Hy}{lo hi x:Int}(s:Stage u f L lo hi)(x1:Wj u.min (lo - u.rd)<=x)(x2:x<=F4 u.max (hi+u.ru)):(lo<=fk u L (Az u b) x/\fk u L (Az u b) x<=hi)/\HourOk u true (fk u L (Az u b) x) x (bJ u L (Az u b) x)/\f (fk u L (Az u b) x)+P' u a b x (bJ u L (Az u b) x)=YJ u a b f L x:=by
 have ko:=s.ok k b
 have e1:(uE u L (Az u b)).fst=lo:=congrArg (fun z:Int=>(z:Rat)) s.up.fstP
 have e2:(uE u L (Az u b)).lst=hi:=congrArg (fun z:Int=>(z:Rat)) s.up.lstP
 have C:=Bo x1;have D:=Bo x2
 rw[Asq,Ayi]at C;rw[Akh,Aza]at D
 have a1:(u.min:Rat)<=x/\(lo:Rat) - u.rd<=x:=by revert C;unfold mx;grind
 have a2:(x:Rat)<=u.max/\(x:Rat)<=hi+u.ru:=by revert D;unfold mn;grind
 have dm:(uE u L (Az u b)).dom x:=⟨by rw[e1];exact a1.2,by rw[e2];exact a2.2,a2.1⟩
 obtain⟨b1,b2,b3,b4⟩:=ko.befR dm
 obtain⟨c1,c2,c3,c4⟩:=ko.res dm
 have b3:(x:Rat) - u.ru<=(uE u L (Az u b)).bef x:=b3
 have b4:(uE u L (Az u b)).bef x<=(x:Rat)+u.rd:=b4
 rw[e1,<-JN]at b1;rw[e2,<-JN]at b2;rw[<-JN]at b3 b4
 refine⟨⟨Ayr.1 b1,Ayr.1 b2⟩,?_⟩
 have rs0:=Bo k.rs0.1
 by_cases Y:0<Az u b
 ·have er:=Anz (u:=u) (L:=L) (x:=x) Y
  have I:((bJ u L (Az u b) x:Int):Rat)=mn ((uE u L (Az u b)).T x) ((uE u L (Az u b)).bef x)+(-1*x+(uE u L (Az u b)).ru):=er
  rw[<-I]at c1 c2 c3 c4
  refine⟨⟨a1.1,c1,c2,c3,?_⟩,?_⟩
  ·have c4:(x:Rat)+(bJ u L (Az u b) x:Int)<=(uE u L (Az u b)).bef x+u.ru:=c4
   rw[<-JN]at c4
   simp only[if_true];constructor<;>grind
  ·unfold P' YJ Stp.G
   rw[<-I,JN,<-ni Y];grind
 ·have hz:Az u b=0:=by have:=nh u b;grind
  have er:bJ u L (Az u b) x=0:=by unfold bJ;rw[if_neg Y]
  rw[er]
  refine⟨⟨a1.1,Azr,rs0,by grind,?_⟩,?_⟩
  ·simp only[if_true];constructor<;>grind
  ·unfold P' YJ Stp.G
   rw[JN,hz];grind
def Akl{u:Un}{a b p r q:Rat}(h:HourOk u false q p r):P' u a b p r<=bL u a b p/\(u.min:Rat)<=p/\p<=u.sr:=by
 have hr:p+r<=u.sr:=h.ramp
 obtain⟨k,C,D,G,_⟩:=h
 have:=Azx (zK u b) C
 have:=ml (show r<=mn (u.rs:Rat) (u.sr - p) by unfold mn;grind) (nh u b)
 exact⟨by unfold P' bL;grind,k,by grind⟩
def zM(u:Un)(w:Rat)(x:Int):Int:=if 0<w then F4 u.rs (u.sr - x)else 0
def Akm{u:Un}(k:u.Ok){a b q:Rat}{x:Int}(x1:u.min<=x)(x2:x<=u.sr):HourOk u false q x (zM u (Az u b) x)/\P' u a b x (zM u (Az u b) x)=bL u a b x:=by
 have rs0:=Bo k.rs0.1;have L:=Bo k.sr0.2
 have C:=Bo x1;have G:=Bo x2
 unfold zM
 by_cases D:0<Az u b
 ·rw[if_pos D,Akh,Ayi]
  refine⟨⟨C,by unfold mn;grind,by unfold mn;grind,by unfold mn;grind,?_⟩,?_⟩
  ·simp only[Azb,if_false];unfold mn;grind
  ·unfold P' bL;rw[<-ni D]
 ·have I:Az u b=0:=by have:=nh u b;grind
  rw[if_neg D]
  refine⟨⟨C,Azr,rs0,by grind,?_⟩,?_⟩
  ·simp only[Azb,if_false];grind
  ·unfold P' bL;rw[I];grind
section
variable(u:Un)(a b:Nat->Rat)(fi:Nat)
def Kb:Bool:=fi==0&&u.on
def oL:Hy:=[(u.out,0)]
def runF:Nat->F1×Hy
|0=>if Kb u fi then(YJ u (a fi) (b fi) (fun _=>0) (oL u),wQ u (a fi) (b fi) (fun _=>0) (oL u))else(bL u (a fi) (b fi),Ahl u (a fi) (b fi))
|k+1=>(YJ u (a (fi+k+1)) (b (fi+k+1)) (runF k).1 (runF k).2,wQ u (a (fi+k+1)) (b (fi+k+1)) (runF k).1 (runF k).2)
def Bs:Nat->Int
|0=>if Kb u fi then Wj u.min (u.out - u.rd)else u.min
|k+1=>Wj u.min (Bs k - u.rd)
def D2:Nat->Int
|0=>if Kb u fi then F4 u.max (u.out+u.ru)else u.sr
|k+1=>F4 u.max (D2 k+u.ru)
variable{u}{a b}{fi}
def uF(h:Kb u fi=true):u.on=true:=by unfold Kb at h;simp at h;exact h.2
def T'(k:u.Ok)(h:u.on=true):Stage u (fun _=>0) (oL u) u.out u.out:=⟨⟨Cv.one (fun _=>0) u.out,rfl,rfl⟩,Conc.congr (Conc.lin 0 0 _ _) fun x=>by grind,(k.o0 h).1,A1f _,(k.o0 h).2⟩
def D6(k:u.Ok):∀ n,Stage u (runF u a b fi n).1 (runF u a b fi n).2 (Bs u fi n) (D2 u fi n)
|0=>by
  unfold runF Bs D2
  cases h:Kb u fi with
  |true=>exact fu k _ _ (T' k (uF h))
  |false=>exact Ahm k _ _
|n+1=>fu k _ _ (D6 k n)
variable(u)(a b)(fi)
def VM(p r:Nat->Rat):Nat->Prop
|0=>HourOk u (Kb u fi) u.out (p 0) (r 0)
|n+1=>VM p r n/\HourOk u true (p n) (p (n+1)) (r (n+1))
def YK(p r:Nat->Rat):Nat->Rat
|0=>P' u (a fi) (b fi) (p 0) (r 0)
|n+1=>YK p r n+P' u (a (fi+n+1)) (b (fi+n+1)) (p (n+1)) (r (n+1))
def fP:Nat->Int->Nat->Int
|0,x,_=>x
|n+1,x,i=>if i=n+1 then x else fP n (fk u (runF u a b fi n).2 (Az u (b (fi+n+1))) x) i
def fR:Nat->Int->Nat->Int
|0,x,_=>if Kb u fi then bJ u (oL u) (Az u (b fi)) x else zM u (Az u (b fi)) x
|n+1,x,i=>if i=n+1 then bJ u (runF u a b fi n).2 (Az u (b (fi+n+1))) x else fR n (fk u (runF u a b fi n).2 (Az u (b (fi+n+1))) x) i
variable{u}{a b}{fi}
def zN(k:u.Ok){p r:Nat->Rat}:∀ n,VM u fi p r n->YK u a b fi p r n<=(runF u a b fi n).1 (p n)/\(Bs u fi n:Rat)<=p n/\p n<=D2 u fi n
| 0,h=>by
  unfold VM at h
  unfold YK runF Bs D2
  cases hc:Kb u fi with
  |true =>
   rw[hc]at h
   have:=zL k (a:=a fi) (b:=b fi) (T' k (uF hc)) Azr Azr h
   exact⟨by have:=this.1;simp only[if_true];grind,this.2⟩
  |false=>rw[hc]at h;exact Akl h
|n+1,h=>by
  have C:=zN k n h.1
  have:=zL k (a:=a (fi+n+1)) (b:=b (fi+n+1)) (D6 (a:=a) (b:=b) (fi:=fi) k n) C.2.1 C.2.2 h.2
  refine⟨?_,this.2⟩
  unfold YK runF
  have:=this.1
  grind
def YL{p k r C:Nat->Rat}:∀ n,(∀ i≤n,p i=k i/\r i=C i)->VM u fi p r n->VM u fi k C n
|0,e,h=>by unfold VM at *;rw[<-(e 0 (by omega)).1,<-(e 0 (by omega)).2];exact h
|n+1,e,h=>by
  unfold VM at *
  rw[<-(e n (by omega)).1,<-(e (n+1) (by omega)).1,<-(e (n+1) (by omega)).2]
  exact⟨YL n (fun i hi=>e i (by omega)) h.1,h.2⟩
def fv{p k r C:Nat->Rat}:∀ n,(∀ i≤n,p i=k i/\r i=C i)->YK u a b fi p r n=YK u a b fi k C n
|0,e=>by unfold YK;rw[<-(e 0 (by omega)).1,<-(e 0 (by omega)).2]
|n+1,e=>by
  unfold YK
  rw[<-(e (n+1) (by omega)).1,<-(e (n+1) (by omega)).2,fv n fun i hi=>e i (by omega)]
def nO:∀ n (x:Int),fP u a b fi n x n=x
|0,_=>rfl
|n+1,_=>by rw[fP,if_pos rfl]
def zO(k:u.Ok):∀ n (x:Int),Bs u fi n<=x->x<=D2 u fi n->VM u fi (fun i=>fP u a b fi n x i) (fun i=>fR u a b fi n x i) n/\YK u a b fi (fun i=>fP u a b fi n x i) (fun i=>fR u a b fi n x i) n=(runF u a b fi n).1 x
| 0,x,x1,x2=>by
  unfold VM YK runF
  unfold Bs at x1;unfold D2 at x2
  simp only[fP,fR]
  cases hc:Kb u fi with
  |true =>
   rw[hc]at x1 x2
   have:=GH k (a:=a fi) (b:=b fi) (T' k (uF hc)) x1 x2
   have e:fk u (oL u) (Az u (b fi)) x=u.out:=Int.le_antisymm this.1.2 this.1.1
   rw[e]at this
   refine⟨this.2.1,?_⟩
   have:=this.2.2
   simp only[if_true];grind
  |false=>rw[hc]at x1 x2;exact Akm k x1 x2
| n+1,x,x1,x2=>by
  have:=GH k (a:=a (fi+n+1)) (b:=b (fi+n+1)) (D6 (a:=a) (b:=b) (fi:=fi) k n) x1 x2
  obtain⟨⟨y1,y2⟩,G,I⟩:=this
  have C:=zO k n _ y1 y2
  have e:∀ i≤n,((fP u a b fi n (fk u (runF u a b fi n).2 (Az u (b (fi+n+1))) x) i:Int):Rat)=(fP u a b fi (n+1) x i:Int)/\((fR u a b fi n (fk u (runF u a b fi n).2 (Az u (b (fi+n+1))) x) i:Int):Rat)=(fR u a b fi (n+1) x i:Int):=fun i hi=>by
   rw[fP,fR,if_neg (by omega),if_neg (by omega)];exact⟨rfl,rfl⟩
  have e1:fP u a b fi (n+1) x n=fk u (runF u a b fi n).2 (Az u (b (fi+n+1))) x:=by rw[fP,if_neg (by omega),nO]
  have D:fR u a b fi (n+1) x (n+1)=bJ u (runF u a b fi n).2 (Az u (b (fi+n+1))) x:=by rw[fR,if_pos rfl]
  refine⟨⟨YL n e C.1,?_⟩,?_⟩
  ·simp only[e1,D,nO];exact G
  ·unfold YK
   rw[<-fv n e,C.2]
   simp only[D,nO]
   exact I
end
def Akn{u:Un}{f:F1}{L:Hy}{lo hi t:Int}(s:Stage u f L lo hi)(h:lo<=t){y:Rat}(y1:(lo:Rat)<=y)(y2:y<=hi)(y3:y<=t):f y<=f (F4 (E9 0 L) t:Int):=by
 have p:=s.up.pk 0
 have C:∀ x:Rat,(lo:Rat)<=x->x<=hi->f x<=f (E9 0 L:Int):=fun x D k=>by have:=p.2.2 x D k;grind
 have a1:=Bo p.2.1.1;have a2:=Bo p.2.1.2
 rw[Akh];unfold mn
 by_cases k:(E9 0 L:Rat)<=t
 ·rw[if_pos k];exact C y y1 y2
 ·rw[if_neg k];exact s.cc.rise a2 C y1 y3 (by grind)
end Gx.Uo
namespace Gx.Uo
def Nc(U:Un)(H f n:Nat):Int:=if f+n+1<H then F4 (D2 U f n) U.tr else D2 U f n
def Qn(U:Un)(a b:Nat->Rat)(H f n:Nat):Int:=F4 (E9 0 (runF U a b f n).2) (Nc U H f n)
end Gx.Uo
namespace Gx
open Go
inductive AV where
|int (k:IntKind) (n:Int)
|bool (b:Bool)
|str (s:List UInt8)
|nsl
|imm (c:List AV) (len sz:Nat) (tight org:Bool)
|iptr (c:List AV) (org:Bool)
|pagg (c:List AV) (org:Bool)
|own (b off len:Nat)
|optr (b off:Nat)
|agg (c:List AV)
|tup (c:List AV)
|fn (f:Nat) (caps:List AV)
|nilptr
|nilfn
|undef
|omap (b:Nat)
abbrev A6q(k n:Nat):AV:=.own (300000+k) 0 n
abbrev A6r:AV:=.int .i64 0
structure Blk where
 dead:Bool
 sealed:Bool
 pure:Bool
 taint:Bool
 sz:Nat
 cells:List AV
 mp:Bool:=false
 ty:Option (Nat×Nat):=none
abbrev LA:=List AV
abbrev O(R:Type):=Option R
abbrev Ay:=List (Nat×Blk)
abbrev G7:=List (Nat×AV)
def Am:Ay->Nat->Option Blk
|[],_=>none
|(i,x)::r,b=>cond (beq i b) (some x) (Am r b)
def Fp:Ay->Nat->Blk->Ay
|[],b,y=>[(b,y)]
|(i,x)::r,b,y=>cond (beq i b) ((b,y)::r) (cond (Nat.blt b i) ((b,y)::(i,x)::r) ((i,x)::Fp r b y))
def Gc:G7->Nat->AV
|[],_=>.undef
|(i,x)::r,b=>cond (beq i b) x (Gc r b)
def QA:G7->Nat->AV->G7
|[],b,y=>[(b,y)]
|(i,x)::r,b,y=>cond (beq i b) ((b,y)::r) (cond (Nat.blt b i) ((b,y)::(i,x)::r) ((i,x)::QA r b y))
structure St where
 s:G7
 h:Ay
mutual
def fy:Value->AV
|.int k n=>.int k n
|.bool b=>.bool b
|.string ⟨⟨s⟩⟩=>.str s
|.slice none 0 0=>.nsl
|.pointer none=>.nilptr
|.nilFunc=>.nilfn
|.agg ⟨cs⟩=>.agg (Li cs)
|_=>.undef
def Li:List Value->List AV
|[]=>[]
|v::r=>fy v::Li r
end
def ev(s:G7):Operand->AV
|.tmp t=>Gc s t
|.const v=>fy v
|.func f=>cond (Nat.blt f 1000000) (.fn f []) .undef
|.global _=>.undef
def Bk(P:Program)(t:TypeId):Option Nat:=(P.info? t).map (·.size)
def wT(P:Program)(t:TypeId):Option Nat:=(P.info? t).map (·.bytes)
def Af2(P:Program)(t:TypeId):Bool:=((P.info? t).map (·.hasPointers)).getD true
def bM(P:Program)(t:TypeId):Option AV:=((P.info? t).bind (·.zero)).map fy
def A9:LA->Bool
|[]=>true
|.int ..::r=>A9 r
|.bool _::r=>A9 r
|.str _::r=>A9 r
|.nsl::r=>A9 r
|.nilptr::r=>A9 r
|.nilfn::r=>A9 r
|_=>false
def WR(P:Program)(t:TypeId):Option LA:=(P.info? t).bind fun i=>(i.zero).bind fun v=>cond (A9 (Li v.cells.toList)&&beq v.cells.toList.length i.size) (some (Li v.cells.toList)) none
def gA(op:BinOp)(k:IntKind)(a b:Int):Option AV :=
 match op with
|.add=>some (.int k (k.wrap (a+b)))
|.sub=>some (.int k (k.wrap (a - b)))
|.mul=>some (.int k (k.wrap (a*b)))
|.and=>some (.int k (k.wrap ((BitVec.ofInt k.bits a &&& BitVec.ofInt k.bits b).toNat:Int)))
|.or=>some (.int k (k.wrap ((BitVec.ofInt k.bits a ||| BitVec.ofInt k.bits b).toNat:Int)))
|.xor=>some (.int k (k.wrap ((BitVec.ofInt k.bits a ^^^ BitVec.ofInt k.bits b).toNat:Int)))
|.andNot=>some (.int k (k.wrap ((BitVec.ofInt k.bits a &&& ~~~ (BitVec.ofInt k.bits b)).toNat:Int)))
|.eql=>some (.bool (a==b))
|.neq=>some (.bool (a != b))
|.lss=>some (.bool (decide (a<b)))
|.leq=>some (.bool (decide (a<=b)))
|.gtr=>some (.bool (decide (a>b)))
|.geq=>some (.bool (decide (a>=b)))
|_=>none
def Kc(k k':IntKind):Bool:=decide (k=k')
def UA(P:Program)(t:TypeId):Bool:=match P.underlying t with|some .bool=>true|_=>false
def Ahn{R:Type}(P:Program)(t:TypeId)(op:BinOp)(x y:AV)(r:AV->O R):O R :=
 match x,y with
|.int k a,.int k' b =>
  match op with
  |.shl=>cond (decide (b<0)) none (r (.int k (k.wrap (a*2 ^ (min b.toNat k.bits)))))
  |.shr=>cond (decide (b<0)) none (r (.int k (a.fdiv (2 ^ (min b.toNat k.bits)))))
  |.quo=>cond (Kc k k') (cond (b==0) none (r (.int k (k.wrap (a.tdiv b))))) none
  |.rem=>cond (Kc k k') (cond (b==0) none (r (.int k (a.tmod b)))) none
  |op=>cond (Kc k k') ((gA op k a b).bind r) none
|.bool a,.bool b =>
  match op with
  |.eql=>cond (UA P t) (r (.bool (a==b))) none
  |.neq=>cond (UA P t) (r (.bool (!(a==b)))) none
  |_=>none
|.str a,.str b =>
  match op with
  |.add=>cond (ble (a.length+b.length) 140737488355328) (r (.str (a++b))) none
  |.eql=>r (.bool (a==b))
  |.neq=>r (.bool (!(a==b)))
  |.lss=>r (.bool (Op.bytesLess a b))
  |.leq=>r (.bool (Op.bytesLess a b||a==b))
  |.gtr=>r (.bool (!(Op.bytesLess a b||a==b)))
  |.geq=>r (.bool (!Op.bytesLess a b))
  |_=>none
|_,_=>none
def Auq(op:UnOp)(x:AV):Option AV :=
 match op,x with
|.neg,.int k n=>some (.int k (k.wrap (0 - n)))
|.xor,.int k n=>gA .xor k (cond k.signed (-1) k.max) n
|.not,.bool b=>some (.bool (!b))
|_,_=>none
def WS(k:IntKind):AV->Option Int
|.int k' n=>cond (Kc k k') (some n) none
|_=>none
def asBool:AV->Option Bool
|.bool b=>some b
|_=>none
def jV:AV->Option Lu
|.str s=>some s
|_=>none
def Aho(sz:Nat):AV->Option (LA×Nat)
|.imm c len sz' _ _=>cond (beq sz sz') (some (c,len)) none
|.nsl=>some ([],0)
|_=>none
def Ako:AV->Option UInt8
|.int .u8 n=>some (UInt8.ofNat n.toNat)
|_=>none
def bO:LA->Option Lu
|[]=>some []
|x::r=>(Ako x).bind fun b=>(bO r).bind fun l=>some (b::l)
def GI{R:Type}(step:TypeId->LA->LA->(Bool->O R)->O R)(x y:LA):List (Nat×TypeId)->(Bool->O R)->O R
|[],k=>k true
|(off,t)::r,k=>step t (x.drop off) (y.drop off) fun b=>GI step x y r fun c=>k (b&&c)
def wU(P:Program)(sz:Nat)(f:Field):Bool:=match Bk P f.type with
|some s => ble 1 s && (ble (f.offset + s) sz && !(f.name == "_"))
|none=>false
def lZ{R:Type}(P:Program):Nat->TypeId->LA->LA->(Bool->O R)->O R
|0,_,_,_,_=>none
|d+1,t,x,y,k=>match P.underlying t with
  |some (.int kd)=>(x.head?).bind fun u=>(WS kd u).bind fun a=>(y.head?).bind fun v=>(WS kd v).bind fun b=>k (a==b)
  |some .bool=>(x.head?).bind fun u=>(asBool u).bind fun a=>(y.head?).bind fun v=>(asBool v).bind fun b=>k (a==b)
  |some .string=>(x.head?).bind fun u=>(jV u).bind fun a=>(y.head?).bind fun v=>(jV v).bind fun b=>k (a==b)
  |some (.struct fs)=>(Bk P t).bind fun sz=>cond (P.stoodInHeld t||!(fs.toList.all (wU P sz))) none (GI (lZ P d) x y (fs.toList.map fun f=>(f.offset,f.type)) k)
  |some (.array n e)=>(Bk P e).bind fun s=>(Bk P t).bind fun sz=>cond (ble 1 s&&ble (n*s) sz) (GI (lZ P d) x y ((List.range n).map fun i=>(i*s,e)) k) none
  |_=>none
def wV:AV->Option LA
|.pagg c _=>some c
|.agg c=>some c
|_=>none
def Akp(P:Program)(t:TypeId):Bool:=match P.underlying t with|some (.struct _)=>true|some (.array _ _)=>true|_=>false
def uG{R:Type}(P:Program)(t:TypeId)(op:BinOp)(x y:AV)(r:AV->O R):O R :=
 match wV x,wV y with
| some a,some b=>(Bk P t).bind fun s=>cond (ble 1 s&&(beq a.length s&&(beq b.length s&&(Akp P t&&!(P.eqGuardType P.depth t)))))
  (match op with
   |.eql=>lZ P 8 t a b fun c=>r (.bool c)
   |.neq=>lZ P 8 t a b fun c=>r (.bool (!c))
   | _=>none) none
|_,_=>Ahn P t op x y r
def Yw{R:Type}(P:Program)(t:TypeId)(c:LA)(org:Bool)(k:Bool->O R):O R:=cond (Af2 P t) (k org) (cond (!org||A9 c) (k false) none)
def QB{R:Type}(P:Program)(t:TypeId)(c:LA)(org:Bool)(k:AV->O R):O R :=
 match P.underlying t with
|some (.int kd)=>(c.head?).bind fun x=>(WS kd x).bind fun n=>k (.int kd n)
|some .bool=>(c.head?).bind fun x=>(asBool x).bind fun b=>k (.bool b)
|some .string=>(c.head?).bind fun x=>(jV x).bind fun s=>k (.str s)
|some (.slice e)=>(Bk P e).bind fun sz=>(c.head?).bind fun x=>(Aho sz x).bind fun p=>k (.imm p.1 p.2 sz false org)
|some (.struct _)=>(Bk P t).bind fun n=>cond (ble n c.length) (Yw P t (c.take n) org fun o=>k (.pagg (c.take n) o)) none
|some (.array _ _)=>(Bk P t).bind fun n=>cond (ble n c.length) (Yw P t (c.take n) org fun o=>k (.pagg (c.take n) o)) none
|_=>none
def JO{R:Type}(n:Nat)(k:AV->O R):LA->Nat->O R
|[],_=>none
|v::r,i=>cond (beq n i) (k v) (JO n k r (i+1))
def jX{R:Type}(P:Program)(t:TypeId)(c:LA)(k:AV->O R):O R :=
 match P.underlying t with
|some (.struct _)=>(Bk P t).bind fun n=>cond (ble n c.length) (k (.agg (c.take n))) none
|some (.array _ _)=>(Bk P t).bind fun n=>cond (ble n c.length) (k (.agg (c.take n))) none
|some _=>(c.head?).bind k
|none=>none
def QC{R:Type}(P:Program)(t:TypeId)(c:LA)(off:Nat)(k:AV->O R):O R :=
 match P.underlying t with
|some (.struct _)=>(Bk P t).bind fun n=>cond (ble n (c.drop off).length) (k (.agg ((c.drop off).take n))) none
|some (.array _ _)=>(Bk P t).bind fun n=>cond (ble n (c.drop off).length) (k (.agg ((c.drop off).take n))) none
|some _=>JO off k c 0
|none=>none
abbrev A6:=Nat->Option Blk
def Gd(g:A6)(b:Nat):Option Blk:=(g b).bind fun x=>cond x.dead none (some x)
def nk{R:Type}(P:Program)(g:A6)(t:TypeId)(p:AV)(k:AV->O R):O R :=
 match p with
|.iptr c org=>QB P t c org k
|.optr b off=>(Gd g b).bind fun x=>cond x.pure (QB P t (x.cells.drop off) x.taint k) (QC P t x.cells off k)
|_=>none
def Ac(i:Int)(n:Nat):Bool:=decide (0<=i)&&decide (i<(n:Int))
def T4{R:Type}(P:Program)(t:TypeId)(x i:AV)(k:AV->O R):O R :=
 match P.underlying t,x,i with
|some (.slice el),.imm c len sz _ org,.int _ i=>(Bk P el).bind fun sz'=>cond (beq sz sz') (cond (Ac i len) (k (.iptr (c.drop (i.toNat*sz)) org)) none) none
|some (.slice el),.own b off len,.int _ i=>(Bk P el).bind fun sz=>cond (Ac i len) (k (.optr b (off+i.toNat*sz))) none
|some (.array len el),.iptr c org,.int _ i=>(Bk P el).bind fun sz=>cond (Ac i len) (k (.iptr (c.drop (i.toNat*sz)) org)) none
|some (.array len el),.optr b off,.int _ i=>(Bk P el).bind fun sz=>cond (Ac i len) (k (.optr b (off+i.toNat*sz))) none
|_,_,_=>none
def jY{R:Type}(i:Int)(k:Nat->O R):Nat->Nat->O R
|0,_=>none
|m+1,j=>cond (i==(j:Int)) (k j) (jY i k m (j+1))
def nP(P:Program)(t:TypeId)(f:Nat):Option (Nat×TypeId) :=
 match P.underlying t with
|some (.struct fs)=>(fs[f]?).map fun x=>(x.offset,x.type)
|_=>none
def T5{R:Type}(P:Program)(t:TypeId)(x:AV)(f:Nat)(k:AV->O R):O R :=
 (nP P t f).bind fun p=>(Bk P p.2).bind fun n=>cond (beq n 0) none
 (match x with
|.iptr c org=>k (.iptr (c.drop p.1) org)
|.optr b off=>k (.optr b (off+p.1))
| _=>none)
def gB{R:Type}(P:Program)(t:TypeId)(x:AV)(f:Nat)(k:AV->O R):O R :=
 (nP P t f).bind fun p =>
 match x with
|.pagg c org=>QB P p.2 (c.drop p.1) org k
|.agg c=>jX P p.2 (c.drop p.1) k
|_=>none
def gC{R:Type}(P:Program)(t:TypeId)(x i:AV)(k:AV->O R):O R :=
 match P.underlying t,x,i with
|some .string,.str s,.int _ i=>cond (Ac i s.length) (k (.int .u8 ((s.getD i.toNat 0).toNat:Int))) none
|some (.array len el),.pagg c org,.int _ i=>(Bk P el).bind fun sz=>cond (Ac i len) (QB P el (c.drop (i.toNat*sz)) org k) none
|some (.array len el),.agg c,.int _ i=>(Bk P el).bind fun sz=>cond (Ac i len) (QC P el c (i.toNat*sz) k) none
|_,_,_=>none
def bR(o:Option AV)(d:Nat):Option Int:=match o with|none=>some (d:Int)|some (.int _ i)=>some i|_=>none
def Yx{R:Type}(lo hi mx:Option AV)(n:Nat)(k:Nat->Nat->O R):O R :=
 (bR lo 0).bind fun l=>(bR hi n).bind fun h=>(bR mx n).bind fun m=>cond (mx.isSome&&!hi.isSome) none <|
 cond (decide (0<=l)&&(decide (l<=h)&&(decide (h<=m)&&decide (m<=(n:Int))))) (k l.toNat h.toNat) none
def Af3(tight:Bool)(hi mx:Option AV):Bool:=match hi,mx with|none,none=>tight|some (.int _ a),some (.int _ b)=>a==b|_,_=>false
def gD{R:Type}(P:Program)(g:A6)(t:TypeId)(x:AV)(lo hi mx:Option AV)(k:AV->O R):O R :=
 match P.underlying t,x with
|some .string,.str s=>cond mx.isSome none (Yx lo hi none s.length fun l h=>k (.str ((s.drop l).take (h - l))))
|some (.slice el),.nsl=>(Bk P el).bind fun _=>Yx lo hi mx 0 fun _ _=>k .nsl
| some (.slice el),.imm c n sz tight org=>(Bk P el).bind fun sz'=>cond (beq sz sz') (Yx lo hi mx n fun l h =>
   k (.imm ((c.drop (l*sz)).take ((h - l)*sz)) (h - l) sz (Af3 tight hi mx) org)) none
|some (.slice el),.own b off n=>(Bk P el).bind fun sz=>(Gd g b).bind fun y=>cond (beq sz y.sz) (Yx lo hi mx n fun l h=>k (.own b (off+l*sz) (h - l))) none
|some (.array n el),.optr b off=>(Bk P el).bind fun _=>(Gd g b).bind fun y=>cond (beq y.sz 0&&(ble (off+n) y.cells.length&&(lo.isNone&&(hi.isNone&&mx.isNone)))) (k (.own b off n)) none
|_,_=>none
def Aqp(P:Program)(t:TypeId)(x:AV):Option AV :=
 match P.underlying t,x with
|some (.slice _),.nsl=>some (.int .i64 0)
|some (.slice _),.imm _ n _ _ _=>some (.int .i64 n)
|some (.slice _),.own _ _ n=>some (.int .i64 n)
|some .string,.str s=>some (.int .i64 s.length)
|some (.array n _),_=>some (.int .i64 n)
|_,_=>none
def uH(g:A6)(sz:Nat):AV->Option (LA×Nat×Bool)
|.nsl=>some ([],0,false)
|.imm c n sz' _ org=>cond (beq sz sz') (some (c,n,org)) none
|.own b off n=>(Gd g b).bind fun x=>cond (x.pure&&beq sz x.sz) (some ((x.cells.drop off).take (n*sz),n,x.taint)) none
|.str s=>cond (beq sz 1) (some (s.map fun b=>.int .u8 (b.toNat:Int),s.length,false)) none
|_=>none
def YM{R:Type}(P:Program)(el:TypeId)(g:A6)(sz:Nat)(x:AV)(k:LA×Nat×Bool->O R):O R:=(uH g sz x).bind fun q=>Yw P el q.1 q.2.2 fun o=>k (q.1,q.2.1,o)
abbrev D7:=List (Nat×Option Blk)
def WT(g:A6):AV->Option (AV×D7×Bool)
|.own b off n=>(Gd g b).bind fun x=>cond x.pure (some (.imm ((x.cells.drop off).take (n*x.sz)) n x.sz false x.taint,[(b,some {x with sealed:=true})],x.taint)) none
|.optr ..|.agg _|.tup _|.undef|.fn ..|.omap _=>none
|.imm c n sz t org=>some (.imm c n sz t org,[],org)
|.iptr c org=>some (.iptr c org,[],org)
|.pagg _ _=>none
|v=>some (v,[],false)
def AE(g:A6):LA->Option (LA×D7×Bool)
|[]=>some ([],[],false)
|v::r=>(WT g v).bind fun p=>(AE g r).bind fun q=>some (p.1::q.1,p.2.1++q.2.1,p.2.2||q.2.2)
def Zy(g:A6):AV->Option (LA×D7×Bool)
|.pagg c org=>some (c,[],org)
|.agg c=>AE g c
|v=>AE g [v]
def Dd(c:LA)(off:Nat)(vs:LA):LA:=c.take off++vs++c.drop (off+vs.length)
def A4:D7->Nat->Bool
|[],_=>false
|(i,_)::r,b=>cond (beq i b) true (A4 r b)
def GJ(g:A6):AV->Bool
|.own b _ _=>(Gd g b).isSome
|.optr b _=>(Gd g b).isSome
|.agg _=>false
|.pagg _ _=>false
|.tup _=>false
|.undef=>false
|.omap _=>false
|_=>true
def L0(g:A6):LA->Bool
|[]=>true
|v::r=>GJ g v&&L0 g r
def setCells(c:LA)(off:Nat)(vs:LA):LA:=match vs with|[y]=>c.set off y|ys=>Dd c off ys
def wW(P:Program):Nat->TypeId->Nat->List (Nat×TypeId)
|0,t,off=>[(off,t)]
|d+1,t,off=>match P.underlying t with
  |some (.struct fs)=>fs.toList.flatMap fun f=>wW P d f.type (off+f.offset)
  |_=>[(off,t)]
def Akq(P:Program)(t:TypeId):Bool:=match P.underlying t with
|some (.int _)=>true|some .bool=>true|some .string=>true|some (.slice _)=>true|_=>false
def NP{R:Type}(P:Program)(c:LA)(org:Bool):List (Nat×TypeId)->LA->(LA->O R)->O R
|[],acc,k=>k acc
|(off,t)::r,acc,k=>cond (beq off acc.length&&Akq P t) (QB P t (c.drop off) org fun v=>NP P c org r (acc++[v]) k) none
def gE {R:Type} (P:Program) (g:A6) (t:TypeId) (p v:AV) (k:AV->D7->O R):O R :=
  match p with
  | .optr b off=>(Gd g b).bind fun x=>(Bk P t).bind fun n =>
    cond x.sealed none
    (cond x.pure
      ((Zy g v).bind fun q=>cond (beq q.1.length n&&(ble (off+n) x.cells.length&&!A4 q.2.1 b))
        (k .undef (q.2.1++[(b,some { x with cells:=setCells x.cells off q.1,taint:=x.taint||q.2.2 })])) none)
      (match v with
        |.agg c=>cond (L0 g c&&(beq c.length n&&ble (off+n) x.cells.length)) (k .undef [(b,some {x with cells:=Dd x.cells off c})]) none
        | .pagg c org=>cond (beq off 0&&(beq c.length n&&beq x.cells.length n)) (k .undef [(b,some { x with pure:=true,taint:=org,cells:=c })])
          (cond (beq off 0&&beq x.cells.length n) none (NP P c org (wW P 4 t 0) [] fun l=>cond (beq c.length l.length&&(L0 g l&&(beq l.length n&&ble (off+n) x.cells.length))) (k .undef [(b,some {x with cells:=Dd x.cells off l})]) none))
        | v=>cond (GJ g v&&(beq n 1&&Nat.blt off x.cells.length)) (k .undef [(b,some { x with cells:=x.cells.set off v })]) none))
  |_=>none
def Hr:Nat:=1000000
def nid(d:Nat):Nat:=1000000+d*16
def wX(P:Program)(t:TypeId):Option (Nat×Nat) :=
 match P.underlying t with
| some (.struct fs)=>(fs[0]?).bind fun f=>match P.underlying f.type with
  |some (.pointer u)=>cond (beq u t) ((Bk P t).map fun n=>(t,n)) none
  |some (.struct gs)=>(gs[0]?).bind fun g=>match P.underlying g.type with
   |some (.pointer u)=>cond (beq u f.type) ((Bk P t).map fun n=>(t,n)) none
   |_=>none
  |_=>none
|_=>none
def Rv(d:Nat)(pure taint:Bool)(sz:Nat)(cells:LA):D7:=[(nid d,some {dead:=false,sealed:=false,pure,taint,sz,cells})]
def zP{R:Type}(P:Program)(g:A6)(d:Nat)(t:TypeId)(v:AV)(k:AV->D7->O R):O R :=
 match v with
|.pagg c org=>k (.optr (nid d) 0) (Rv d true org 0 c)
| .agg c =>
  cond (Af2 P t) (cond (L0 g c&&beq c.length ((Bk P t).getD 0)) (k (.optr (nid d) 0) [(nid d,some {dead:=false,sealed:=false,pure:=false,taint:=false,sz:=0,cells:=c,ty:=wX P t})]) none)
   ((AE g c).bind fun q=>k (.optr (nid d) 0) (q.2.1++Rv d true q.2.2 0 q.1))
|v=>cond (GJ g v) (k (.optr (nid d) 0) (Rv d false false 0 [v])) none
def Gm(sz:Nat):Blk:={dead:=false,sealed:=false,pure:=true,taint:=false,sz,cells:=[]}
def Akr(co:Bool)(v:AV):AV:=match co,v with
|true,.agg c=>cond (A9 c) (.pagg c false) (.agg c)
|_,v=>v
def gF{R:Type}(P:Program)(g:A6)(co:Bool)(d:Nat)(t:TypeId)(k:AV->D7->O R):O R :=
 match P.underlying t,bM P t with
|some (.slice el),some .nsl=>(Bk P el).bind fun sz=>k (.optr (nid d) 0) [(nid d+1,some (Gm sz)),(nid d,some {dead:=false,sealed:=false,pure:=false,taint:=false,sz:=0,cells:=[.own (nid d+1) 0 0]})]
|_,some z=>zP P g d t (Akr co z) k
|_,none=>none
def Pf(place:Nat->Option (Nat×Nat)):List (Nat×LA)->LA->Option LA
|[],c=>some c
|(i,vs)::r,c=>(place i).bind fun p=>cond (beq vs.length p.2&&ble (p.1+p.2) c.length) (Pf place r (setCells c p.1 vs)) none
def jZ{R:Type}(place:Nat->Option (Nat×Nat)):List (Nat×LA)->LA->(LA->O R)->O R
|[],c,k=>k c
|(i,vs)::r,c,k=>(place i).bind fun p=>cond (beq vs.length p.2&&ble (p.1+p.2) c.length) (jZ place r (setCells c p.1 vs) k) none
def Fa(n:Nat)(z:LA):LA:=match z with|[v]=>replicate n v|z=>(replicate n z).flatten
def Zz(g:A6):List (Nat×AV)->Option (List (Nat×LA)×D7×Bool)
|[]=>some ([],[],false)
|(i,v)::r=>(Zy g v).bind fun q=>(Zz g r).bind fun q'=>some ((i,q.1)::q'.1,q.2.1++q'.2.1,q.2.2||q'.2.2)
def Aks:AV->Bool
|.optr ..=>true
|.fn _ (_::_)=>true
|_=>false
def T6{R:Type}(P:Program)(g:A6)(d:Nat)(t:TypeId)(len:Nat)(parts:List (Nat×AV))(k:AV->D7->O R):O R :=
 match P.underlying t with
| some (.slice el)=>(Bk P el).bind fun sz=>(WR P el).bind fun z =>
  cond (beq sz 1&&(ble len 16777216&&L0 g (parts.map (·.2)))) ((Pf (fun i=>some (i*1,1)) (parts.map fun p=>(p.1,[p.2])) (Fa len z)).bind fun cells =>
   k (.own (nid d) 0 len) (Rv d false false 1 cells)) none
|_=>none
def Ra{R:Type}(P:Program)(g:A6)(d:Nat)(t:TypeId)(len:Nat)(parts:List (Nat×AV))(k:AV->D7->O R):O R :=
 match P.underlying t with
| some (.slice el)=>(Bk P el).bind fun sz=>(WR P el).bind fun z=>(Zz g parts).bind fun q =>
  cond (ble (len*sz) 16777216) (jZ (fun i=>some (i*sz,sz)) q.1 (Fa len z) fun cells =>
   k (.own (nid d) 0 len) (q.2.1++Rv d true q.2.2 sz cells)) none
|_=>none
def YN:AV->Bool
|.own ..|.optr ..|.fn ..|.undef|.agg _|.pagg _ _|.tup _|.omap _=>true
|_=>false
def np:AV->Bool
|.agg c=>c.any YN
|.pagg _ _=>false
|v=>YN v
def cellsOf:AV->LA
|.agg c=>c
|.pagg c _=>c
|v=>[v]
def wY:AV->Bool
|.imm _ _ _ _ o=>o
|.iptr _ o=>o
|_=>false
def j0:AV->Bool
|.pagg _ o=>o
|.agg c=>c.any wY
|v=>wY v
def JP:AV->Bool
|.pagg _ _=>true
|_=>false
def QD(P:Program)(t:TypeId):Option (Nat->Option (Nat×Nat)) :=
 match P.underlying t with
|some (.array _ e)=>(P.info? e).map fun ie=>fun i=>some (i*ie.size,ie.size)
|some (.struct fs)=>(fs.toList.mapM fun f=>(P.info? f.type).map fun i=>(f.offset,i.size)).map fun pl=>fun i=>pl[i]?
|_=>none
def uI(P:Program)(t:TypeId):Option LA:=(P.info? t).bind fun i=>(i.zero).map fun v=>Li v.cells.toList
def F5:List (Nat×AV)->List (Nat×LA)
|[]=>[]
|(i,v)::r=>(i,cellsOf v)::F5 r
def zQ(o:Bool):AV->AV
|.imm c n s t _=>.imm c n s t o
|.iptr c _=>.iptr c o
|v=>v
def nq:AV->LA
|.agg c=>c
|.pagg c o=>c.map (zQ o)
|v=>[v]
def Kd:List (Nat×AV)->List (Nat×LA)
|[]=>[]
|(i,v)::r=>(i,nq v)::Kd r
def QE:AV->Bool
|.undef=>false
|.tup _=>false
|.omap _=>false
|_=>true
def wZ(P:Program)(t:TypeId)(parts:List (Nat×AV)):Option AV :=
 (QD P t).bind fun place=>cond (parts.all fun p=>QE p.2) (
 cond (parts.any fun p=>JP p.2)
  (cond (parts.any fun p=>np p.2) ((uI P t).bind fun z=>(Pf place (Kd parts) z).map fun c=>.agg c) ((WR P t).bind fun z=>(Pf place (F5 parts) z).map fun c=>.pagg c (parts.any fun p=>j0 p.2)))
  ((uI P t).bind fun z=>(Pf place (F5 parts) z).map fun c=>.agg c)) none
def w8{R:Type}(P:Program)(t:TypeId)(parts:List (Nat×AV))(k:AV->O R):O R :=
 (QD P t).bind fun place=>cond (parts.all fun p=>QE p.2) (
 cond (parts.any fun p=>JP p.2)
  (cond (parts.any fun p=>np p.2) ((uI P t).bind fun z=>jZ place (Kd parts) z fun c=>k (.agg c)) ((WR P t).bind fun z=>jZ place (F5 parts) z fun c=>k (.pagg c (parts.any fun p=>j0 p.2))))
  ((uI P t).bind fun z=>jZ place (F5 parts) z fun c=>k (.agg c))) none
def UB{R:Type}(P:Program)(g:A6)(t:TypeId)(parts:List (Nat×AV))(k:AV->D7->O R):O R:=(QD P t).bind fun place=>(WR P t).bind fun z=>(Zz g parts).bind fun q=>jZ place q.1 z fun c=>k (.pagg c q.2.2) q.2.1
def Ahp(P:Program)(t:TypeId):List (Nat×Nat) :=
 match P.underlying t with
|some (.struct fs)=>fs.toList.filterMap fun f=>match P.underlying f.type with|some (.slice el)=>(Bk P el).map fun s=>(f.offset,s)|_=>none
|_=>[]
def Af4(P:Program)(n:Nat)(e:TypeId)(off:Nat):List (Nat×Nat) :=
 match P.underlying e with
|some (.slice el)=>((Bk P el).map fun s=>(List.range (min n 7)).map fun i=>(off+i,s)).getD []
|_=>[]
def Rw(P:Program)(t:TypeId):List (Nat×Nat) :=
 match P.underlying t with
|some (.array n e)=>Af4 P n e 0
|some (.struct fs)=>fs.toList.flatMap fun f=>match P.underlying f.type with
  |some (.slice el)=>((Bk P el).map fun s=>(f.offset,s)).toList
  |some (.struct _)=>(Ahp P f.type).map fun p=>(f.offset+p.1,p.2)
  |some (.array n e)=>Af4 P n e f.offset
  |_=>[]
|_=>[]
def Gq(d:Nat):List (Nat×Nat)->Nat->LA->LA×D7
|[],_,c=>(c,[])
|(o,sz)::r,j,c=>match c[o]? with
  |some .nsl=>((Gq d r (j+1) (c.set o (.own (nid d+j) 0 0))).1,(nid d+j,some (Gm sz))::(Gq d r (j+1) (c.set o (.own (nid d+j) 0 0))).2)
  |_=>Gq d r (j+1) c
def Ahq{R:Type}(P:Program)(t:TypeId)(co:Bool)(d:Nat)(v:AV)(k:AV->D7->O R):O R :=
 match co,v with
|true,.agg c=>cond (ble (Rw P t).length 15) (k (.agg (Gq d (Rw P t) 1 c).1) (Gq d (Rw P t) 1 c).2) none
|_,v=>k v []
def UC{R:Type}(P:Program)(g:A6)(d:Nat)(t:TypeId)(k:AV->D7->O R):O R :=
 match bM P t with
|some (.agg c)=>cond (ble (Rw P t).length 15&&L0 g c) (k (.optr (nid d) 0) ((Gq d (Rw P t) 1 c).2++Rv d false false 0 (Gq d (Rw P t) 1 c).1)) none
|_=>none
def gG{R:Type}(P:Program)(co:Bool)(t:TypeId)(v:AV)(k:AV->O R):O R :=
 match co,v with
|true,.pagg c org=>NP P c org (wW P 4 t 0) [] fun l=>cond (beq c.length l.length) (k (.agg l)) none
|_,v=>k v
def uJ{R:Type}(P:Program)(d:Nat)(t:TypeId)(len cap:AV)(k:AV->D7->O R):O R :=
 match P.underlying t,len,cap with
| some (.slice el),.int .i64 l,.int .i64 c=>(Bk P el).bind fun sz=>(wT P el).bind fun by_=>(WR P el).bind fun z =>
  cond (decide (0<=l)&&(decide (l<=c)&&(decide (c<=140737488355328)&&decide (c*(by_:Int)<=140737488355328)))) (
   k (.own (nid d) 0 l.toNat) (Rv d true false sz (Fa l.toNat z))) none
|_,_,_=>none
def Af5(g:A6)(sz:Nat)(s:AV):Option (LA×Nat×Bool×D7) :=
 match s with
|.nsl=>some ([],0,false,[])
|.imm _ n _ true _=>cond (beq n 0) (some ([],0,false,[])) none
|.own b off n=>(Gd g b).bind fun x=>cond (x.pure&&(!x.sealed&&beq sz x.sz)) (some ((x.cells.drop off).take (n*sz),n,x.taint,[(b,none)])) none
|_=>none
def j1(P:Program)(g:A6)(el tx:TypeId)(s:AV):Option (Nat×Nat) :=
 match s with
|.nsl=>match P.underlying tx with|some .string=>some (el,0)|_=>none
|.own b off _=>(Gd g b).bind fun x=>(x.ty).bind fun q=>cond (beq q.1 el&&(beq q.2 0&&beq off 0)) (some (el,0)) none
|_=>none
def w9(P:Program)(t:TypeId):Bool:=match P.underlying t with|some (.slice _)=>true|some .string=>true|_=>false
def UD{R:Type}(P:Program)(g:A6)(d:Nat)(t tx:TypeId)(s x:AV)(k:AV->D7->O R):O R :=
 match P.underlying t with
| some (.slice el)=>cond (w9 P tx) ( (Bk P el).bind fun sz=>(wT P el).bind fun by_=>(WR P el).bind fun _ =>
  (Af5 g sz s).bind fun old=>YM P el g sz x fun new =>
  cond (ble (old.2.1+new.2.1) 140737488355328&&ble ((old.2.1+new.2.1)*by_) 140737488355328) (
   k (.own (nid d) 0 (old.2.1+new.2.1)) (old.2.2.2++[(nid d,some { dead:=false,sealed:=false,pure:=true,taint:=old.2.2.1||new.2.2,sz,cells:=old.1++new.1,ty:=j1 P g el tx s })])) none) none
|_=>none
def YO{R:Type}(kd:IntKind):Nat->LA->(LA->O R)->O R
|0,_,k=>k []
|n+1,c,k=>(c.head?).bind fun x=>(WS kd x).bind fun v=>YO kd n (c.drop 1) fun l=>k (.int kd v::l)
def gH{R:Type}(P:Program)(el sz b off n:Nat)(y:Blk)(new:LA×Nat×Bool)(k:AV->D7->O R):O R :=
 match P.underlying el with
| some (.int kd)=>cond (beq sz 1&&(ble 1 n&&(beq y.sz 0&&(!y.sealed&&(!y.pure&&(ble n new.2.1&&ble (off+n) y.cells.length)))))) (
   YO kd n new.1 fun vs=>k (.int .i64 (n:Nat)) [(b,some { y with cells:=Dd y.cells off vs })]) none
|_=>none
def uK{R:Type}(P:Program)(g:A6)(t:TypeId)(s x:AV)(k:AV->D7->O R):O R :=
 match P.underlying t,s with
| some (.slice el),.own b off n=>(Bk P el).bind fun sz=>(Gd g b).bind fun y=>YM P el g sz x fun new =>
  cond (y.pure&&(!y.sealed&&beq sz y.sz)) (
   k (.int .i64 (min new.2.1 n:Nat)) [(b,some { y with cells:=Dd y.cells off (new.1.take ((min new.2.1 n)*sz)),taint:=y.taint||new.2.2 })]) (gH P el sz b off n y new k)
|some (.slice el),.nsl=>(Bk P el).bind fun sz=>YM P el g sz x fun _=>k (.int .i64 0) []
|_,_=>none
def gJ{R:Type}(P:Program)(g:A6)(t:TypeId)(s:AV)(k:AV->D7->O R):O R :=
 match P.underlying t,s with
|some (.slice el),.own b off n=>(Bk P el).bind fun sz=>(WR P el).bind fun z=>(Gd g b).bind fun y =>
  cond (y.pure&&(!y.sealed&&beq sz y.sz)) (k (.tup []) [(b,some {y with cells:=Dd y.cells off (Fa n z)})]) none
|_,_=>none
def uL {R:Type} (P:Program) (g:A6) (d:Nat) (src dst:TypeId) (x:AV) (k:AV->D7->O R):O R :=
 match P.underlying dst with
|some (.int kd)=>match x with|.int _ n=>cond (P.underlying src).isSome (k (.int kd (kd.wrap n)) []) none|_=>none
| some .string=>match P.underlying src with
  |some .string=>match x with|.str s=>k (.str s) []|_=>none
  | some (.slice el)=>match P.underlying el with
   |some (.int .u8)=>match x with
    |.str _=>none
    |x=>(uH g 1 x).bind fun q=>(bO q.1).bind fun s=>k (.str s) []
   |_=>none
  |_=>none
|some (.slice el)=>match P.underlying src,P.underlying el,x with
  |some (.slice _),some (.int .u8),.own b off n=>cond (beq src dst&&ble 1 n) ((Gd g b).bind fun x=>cond x.sealed none (k (.own b off n) [])) none
  |some .string,some (.int .u8),.str s=>k (.own (nid d) 0 s.length) (Rv d true false 1 (s.map fun b=>.int .u8 (b.toNat:Int)))
  |_,_,_=>none
|_=>none
def gK {R:Type} (P:Program) (g:A6) (d:Nat) (src dst:TypeId) (x:AV) (k:AV->D7->O R):O R :=
 match P.underlying dst with
|some .unsafePointer=>match P.underlying src,x with
  |some (.pointer t),.optr b off=>(Bk P t).bind fun n=>(Gd g b).bind fun y=>cond (!(beq n 0)&&Nat.blt off y.cells.length) (k (.optr b off) []) none
  |_,_=>none
|some (.pointer u)=>match P.underlying src,x with
  | some .unsafePointer,.optr b off=>(Bk P u).bind fun _=>(Gd g b).bind fun y=>(y.ty).bind fun q =>
    cond (Nat.blt 0 q.2&&(Nat.blt 0 y.cells.length&&liesAt P P.depth q.1 (q.2/P.cellsOf q.1) off u 1)) (k (.optr b off) []) none
  |_,_=>none
|_=>uL P g d src dst x k
def w_:AV->Option UInt8
|.int .u8 n=>cond (decide (((UInt8.ofNat n.toNat).toNat:Int)=n)) (some (UInt8.ofNat n.toNat)) none
|_=>none
def QF:LA->Option Lu
|[]=>some []
|x::r=>(w_ x).bind fun b=>(QF r).bind fun l=>some (b::l)
def T7{R:Type}(g:A6)(x:AV)(k:AV->D7->O R):O R :=
 match x with
|.nsl=>k .nilptr []
|.own b off n=>(Gd g b).bind fun _=>cond (Nat.blt 0 n) (k (.optr b off) []) none
|_=>none
def T8 {R:Type} (P:Program) (g:A6) (t:TypeId) (x n:AV) (k:AV->D7->O R):O R :=
 match x,n with
|.nilptr,.int .i64 n=>cond (n==0) (k (.str []) []) none
|.optr b off,.int .i64 n=>(Gd g b).bind fun y=>(y.ty).bind fun q=>match P.underlying t with
  | some (.pointer e)=>cond (beq q.1 e&&(beq (P.cellsOf e) 1&&(y.pure&&(!y.sealed&&(beq off 0&&(decide (0<n)&&(decide (n<=(y.cells.length:Int))&&decide (n<=9223372036854775807))))))))
    ((QF (y.cells.take n.toNat)).bind fun s=>k (.str s) [(b,none)]) none
  |_=>none
|_,_=>none
def nr:LA->Int->Bool
|[],_=>false
|.int _ m::r,n=>cond (n==m) true (nr r n)
|_::r,n=>nr r n
def Akt(c:LA)(n:Int):LA:=cond (nr c n) c (c++[.int .i64 n])
def wc(P:Program)(t:TypeId):Bool:=match P.underlying t with
|some (.map k e)=>(match P.underlying k with|some (.int .i64)=>true|_=>false)&&(match bM P e with|some (.bool false)=>true|_=>false)
|_=>false
def AF{R:Type}(d:Nat)(r:Option AV)(k:AV->D7->O R):O R :=
 match r with
|none=>k (.omap (nid d)) [(nid d,some {dead:=false,sealed:=false,pure:=true,taint:=false,sz:=0,cells:=[],mp:=true})]
|some _=>none
def gL{R:Type}(P:Program)(g:A6)(t:TypeId)(m key val:AV)(k:AV->D7->O R):O R :=
 match m,key,val with
|.omap b,.int .i64 n,.bool true=>cond (wc P t) ((Gd g b).bind fun x=>cond (x.mp&&beq x.sz 0) (k .undef [(b,some {x with cells:=Akt x.cells n})]) none) none
|_,_,_=>none
def uM{R:Type}(P:Program)(g:A6)(t:TypeId)(m key:AV)(comma:Bool)(k:AV->O R):O R :=
 match m,key,comma with
|.omap b,.int .i64 n,false=>cond (wc P t) ((Gd g b).bind fun x=>cond (x.mp&&beq x.sz 0) (k (.bool (nr x.cells n))) none) none
|_,_,_=>none
def Ahr(s:Lu)(p:Int):Nat×Nat:=Utf8.decode ⟨⟨s⟩⟩ p.toNat
def gM{R:Type}(P:Program)(d:Nat)(t:TypeId)(x:AV)(k:AV->D7->O R):O R :=
 match P.underlying t,x with
|some .string,.str s=>k (.omap (nid d)) [(nid d,some {dead:=false,sealed:=false,pure:=true,taint:=false,sz:=1,cells:=[.str s,.int .i64 0],mp:=true})]
|_,_=>none
def uO{R:Type}(g:A6)(it:AV)(isString:Bool)(k:AV->D7->O R):O R :=
 match it,isString with
| .omap b,true=>(Gd g b).bind fun x=>cond (x.mp&&beq x.sz 1)
  (match x.cells with
   | [.str s,.int .i64 p]=>cond (decide (p<(s.length:Int)))
     (k (.tup [.bool true,.int .i64 p,.int .i32 ((Ahr s p).1:Nat)]) [(b,some {x with cells:=[.str s,.int .i64 (p+((Ahr s p).2:Nat))]})]) (k (.tup [.bool false]) [])
   | _=>none) none
|_,_=>none
def Aku(g:A6)(x y:AV):Option Bool :=
 match x,y with
|.nilptr,.nilptr=>some true
|.nilptr,.optr _ _=>some false
|.optr _ _,.nilptr=>some false
|.nilptr,.iptr _ _=>some false
|.iptr _ _,.nilptr=>some false
|.optr b o,.optr b' o'=>(Gd g b).bind fun _=>cond (beq b b') (some (beq o o')) none
|_,_=>none
def Ac7(P:Program)(t:TypeId):Bool:=match P.underlying t with
|some (.pointer e)=>match Bk P e with|some n=>!(beq n 0)|none=>false
|_=>false
def uP{R:Type}(P:Program)(g:A6)(t:TypeId)(op:BinOp)(x y:AV)(r:AV->O R):O R :=
 match Aku g x y with
| some b=>cond (Ac7 P t) (match op with
  |.eql=>r (.bool b)
  |.neq=>r (.bool (!b))
  | _=>none) none
|none=>uG P t op x y r
mutual
def Gv:AV->List Nat
|.own b _ _=>[b]
|.optr b _=>[b]
|.omap b=>[b]
|.agg c=>Iv c
|.tup c=>Iv c
|.fn _ c=>Iv c
|_=>[]
def Iv:List AV->List Nat
|[]=>[]
|v::r=>Gv v++Iv r
end
mutual
def VN(ρ:Nat->Nat):AV->AV
|.own b off n=>.own (ρ b) off n
|.optr b off=>.optr (ρ b) off
|.omap b=>.omap (ρ b)
|.agg c=>.agg (X0 ρ c)
|.tup c=>.tup (X0 ρ c)
|.fn f c=>.fn f (X0 ρ c)
|v=>v
def X0(ρ:Nat->Nat):List AV->List AV
|[]=>[]
|v::r=>VN ρ v::X0 ρ r
end
def JQ(g:A6):AV->Option (AV×Bool)
|.own b off n=>(Gd g b).bind fun x=>cond x.pure (some (.imm ((x.cells.drop off).take (n*x.sz)) n x.sz false (!x.sealed||x.taint),!x.sealed||x.taint)) none
|.imm c n sz _ org=>some (.imm c n sz false org,org)
|.iptr c org=>some (.iptr c org,org)
|.optr ..|.agg _|.tup _|.undef|.fn ..|.pagg ..|.omap _=>none
|v=>some (v,false)
def GK(g:A6):LA->Option (LA×Bool)
|[]=>some ([],false)
|v::r=>(JQ g v).bind fun p=>(GK g r).bind fun q=>some (p.1::q.1,p.2||q.2)
def wg(g:A6):AV->Option (AV×Bool)
|.own b off n=>(Gd g b).bind fun x=>cond x.pure (some (.imm ((x.cells.drop off).take (n*x.sz)) n x.sz false (!x.sealed||x.taint),!x.sealed)) none
|.imm c n sz _ org=>some (.imm c n sz false org,false)
|.optr b off=>(Gd g b).bind fun x=>cond x.pure (some (.iptr (x.cells.drop off) (!x.sealed||x.taint),!x.sealed)) ((GK g (x.cells.drop off)).bind fun q=>some (.iptr q.1 true,true))
|.agg c=>(GK g c).bind fun q=>some (.pagg q.1 q.2,true)
|.fn f []=>some (.fn f [],false)
|.fn _ _|.tup _|.undef|.omap _=>none
|v=>some (v,false)
def Jc(d:Nat):List (Nat×Nat)->Nat->Nat
|[],_=>d
|(i,x)::r,b=>cond (beq i b) x (Jc d r b)
def Fv:List Nat->Nat->Bool
|[],_=>false
|i::r,b=>cond (beq i b) true (Fv r b)
def j2:List Nat->List Nat->List Nat
|[],acc=>acc.reverse
|i::r,acc=>cond (Fv acc i) (j2 r acc) (j2 r (i::acc))
def QG:List Nat->Bool
|[]=>true
|i::r=>!Fv r i&&QG r
def Aw(base:Nat):List Nat->List (Nat×Nat)
|[]=>[]
|i::r=>(i,base)::Aw (base+1) r
def Lj(g:A6):List Nat->List Nat
|[]=>[]
|b::r=>(match g b with|some x=>cond x.pure [] (Iv x.cells)|none=>[])++Lj g r
def AG(g:A6)(ids:List Nat):List Nat:=j2 (ids++Lj g (ids++Lj g ids)) []
def QH(g:A6):List Nat->Bool
|[]=>true
|b::r=>(match g b with|some x=>!x.dead|none=>false)&&QH g r
def Om(ρ:Nat->Nat)(x:Blk):Blk:={x with cells:=cond x.pure x.cells (X0 ρ x.cells)}
def sub(g:A6)(ρ:Nat->Nat):List Nat->Ay
|[]=>[]
|b::r=>match g b with
  |some x=>Fp (sub g ρ r) (ρ b) (Om ρ x)
  |none=>sub g ρ r
structure Tw where
 runK:{R:Type}->List AV->Ay->(AV->Ay->O R)->O R
 eq:∀{R:Type}(args:List AV)(h:Ay)(k:AV->Ay->O R),runK args h k=(runK args h fun v h'=>some (v,h')).bind fun p=>k p.1 p.2
def bS{R:Type}:List (Nat×Tw)->Nat->LA->Ay->(AV->Ay->O R)->O R
|[],_,_,_,_=>none
|(g,t)::r,f,args,h,k=>cond (beq g f) (t.runK args h k) (bS r f args h k)
structure Env where
 P:Program
 nt:Nat
 muts:Nat->List Bool
 nils:List (Nat×Nat)
 free:List Nat
 cob:List Nat
 tbl:List (Nat×Tw)
mutual
def Xj:AV->Bool
|.imm _ _ _ _ o=>o
|.iptr _ o=>o
|.pagg _ o=>o
|.agg c=>Vd c
|.tup c=>Vd c
|.fn _ c=>Vd c
|_=>false
def Vd:List AV->Bool
|[]=>false
|v::r=>Xj v||Vd r
end
def bT:Ay->Bool
|[]=>false
|(_,x)::r=>x.taint||(cond x.pure false (Vd x.cells))||bT r
def Iw(g:A6):LA->List Nat
|[]=>[]
|.own b _ _::r=>match g b with|some x=>cond x.sealed (Iw g r) (b::Iw g r)|none=>Iw g r
|_::r=>Iw g r
def Z0(g:A6):AV->List Nat
|.own b _ _=>match g b with|some x=>cond x.sealed [] [b]|none=>[]
|.optr b off=>match g b with|some x=>cond x.sealed [] [b]++cond x.pure [] (Iw g (x.cells.drop off))|none=>[]
|.agg c=>Iw g c
|_=>[]
def GL(g:A6):List Bool->LA->Option (LA×List Nat×List Nat)
|_,[]=>some ([],[],[])
| ms,v::r =>
  cond (ms.headD false)
   ((GL g ms.tail r).bind fun q=>some (v::q.1,Gv v++q.2.1,q.2.2))
   ((wg g v).bind fun p=>(GL g ms.tail r).bind fun q=>some (p.1::q.1,q.2.1,Z0 g v++q.2.2))
def NQ(ids:List Nat):List Nat->Bool
|[]=>true
|b::r=>Fv ids b&&NQ ids r
def zR:List Nat->List Nat->Bool
|[],_=>true
|i::r,l=>!Fv l i&&zR r l
def YP:List Nat->Bool
|[]=>true
|_=>false
mutual
def To:AV->AV->Bool
|.int k n,.int k' n'=>Kc k k'&&decide (n=n')
|.bool b,.bool b'=>decide (b=b')
|.str s,.str s'=>decide (s=s')
|.nsl,.nsl=>true
|.imm c n z t o,.imm c' n' z' t' o'=>FI c c'&&(beq n n'&&(beq z z'&&(decide (t=t')&&decide (o=o'))))
|.iptr c o,.iptr c' o'=>FI c c'&&decide (o=o')
|.pagg c o,.pagg c' o'=>FI c c'&&decide (o=o')
|.own b f n,.own b' f' n'=>beq b b'&&(beq f f'&&beq n n')
|.optr b f,.optr b' f'=>beq b b'&&beq f f'
|.agg c,.agg c'=>FI c c'
|.undef,.undef=>true
|.nilptr,.nilptr=>true
|_,_=>false
def FI:List AV->List AV->Bool
|[],[]=>true
|a::r,b::s=>To a b&&FI r s
|_,_=>false
end
def Akv(x y:Blk):Bool:=decide (x.dead=y.dead)&&(decide (x.sealed=y.sealed)&&(decide (x.pure=y.pure)&&(decide (x.taint=y.taint)&&(beq x.sz y.sz&&(FI x.cells y.cells&&(decide (x.mp=y.mp)&&decide (x.ty=y.ty)))))))
def zS(g:A6)(b:Nat)(x:Blk):Bool:=match g b with|some y=>Akv x y|none=>false
def NR(g:A6):D7->D7
|[]=>[]
|(b,some x)::r=>cond (zS g b x) (NR g r) ((b,some x)::NR g r)
|p::r=>p::NR g r
def nR:AV->AV
|.pagg c _=>.pagg c false
|.imm c n sz t _=>.imm c n sz t false
|v=>v
def uQ {R:Type} (E:Env) (g:A6) (d:Nat) (f:Nat) (args:LA) (k:AV->D7->O R):O R :=
 (GL g (E.muts f) args).bind fun q =>
 let ids:=AG g q.2.1
 let tin:=Aw 100000 ids
 let outs:=tin.map (·.2)
 cond (QH g ids&&(NQ ids q.2.1&&(NQ ids (Lj g ids)&&(zR q.2.2 ids&&(QG (ids.map (Jc 0 tin))&&ble ids.length 100000))))) (
  bS E.tbl f (X0 (Jc 0 tin) q.1) (sub g (Jc 0 tin) ids) fun rv rh =>
  let all:=AG (Am rh) (Gv rv++outs)
  let new:=all.filter fun b=>!Fv outs b
  let tnew:=Aw (nid d) new
  let σ:=Jc 0 ((tin.map fun p=>(p.2,p.1))++tnew)
  cond (!YP q.2.2&&(Xj rv||bT rh)) none
   (cond (QH (Am rh) new&&(ble new.length 16&&(NQ all (Gv rv)&&(NQ all outs&&(NQ all (Lj (Am rh) all)&&QG (all.map σ))))))
    (k (VN σ (cond (YP q.2.2) rv (nR rv))) (cond (Fv E.cob (d+7000000)) (NR g (tin.map fun p=>(p.1,(Am rh p.2).map (Om σ)))) (tin.map fun p=>(p.1,(Am rh p.2).map (Om σ)))++tnew.map fun p=>(p.2,(Am rh p.1).map (Om σ)))) none)) none
def uS{R:Type}(c a b:AV)(k:AV->O R):O R :=
 match c,a,b with
|.bool t,.bool x,.bool y=>k (.bool (cond t x y))
|.bool t,x,.tup []=>cond t (k x) none
|.bool t,.tup [],y=>cond t none (k y)
|.bool t,x,y=>cond t (k x) (k y)
|_,_,_=>none
def wh(P : Program)(f : Nat): Bool := match P.funcs[f]? with|some fn => fn.body.isSome && !(fn.name == "runtime.NumGoroutine")|none => false
def Akw(P : Program)(f : Nat): Bool := match P.funcs[f]? with|some fn => fn.body.isNone && (fn.name == "internal/abi.NoEscape" && fn.origin == "")|none => false
def Ca(a b:Int):Int:=cond (decide (b<a)) b a
def Mj(a b:Int):Int:=cond (decide (b>a)) b a
def Ahs:AV->AV->Option AV
|.int k a,.int _ b=>some (.int k (Ca a b))
|_,_=>none
def Aht:AV->AV->Option AV
|.int k a,.int _ b=>some (.int k (Mj a b))
|_,_=>none
def sS{R:Type}(E:Env)(g:A6)(d:Nat)(v:Operand->AV)(o:Op)(k:AV->D7->O R):O R :=
 match o with
|.move x=>k (v x) []
|.assign x=>k (v x) []
|.pick c a b=>uS (v c) (v a) (v b) fun r=>k r []
|.alloc t=>cond (Fv E.cob (d+1000000)) (UC E.P g d t k) (gF E.P g (Fv E.cob d) d t k)
|.box t x=>gG E.P (Fv E.cob d) t (v x) fun u=>zP E.P g d t u k
|.build t parts=>cond (Fv E.cob (d+4000000)) (UB E.P g t (parts.toList.map fun p=>(p.1,v p.2)) k) (w8 E.P t (parts.toList.map fun p=>(p.1,v p.2)) fun r=>Ahq E.P t (Fv E.cob d) d r k)
|.buildSlice t len parts=>cond ((parts.toList.map fun p=>(p.1,v p.2)).any fun p=>Aks p.2) (T6 E.P g d t len (parts.toList.map fun p=>(p.1,v p.2)) k) (Ra E.P g d t len (parts.toList.map fun p=>(p.1,v p.2)) k)
|.load t a=>nk E.P g t (v a) fun r=>k r []
|.store t a x=>gE E.P g t (v a) (v x) k
|.nilCheck x=>match v x with|.iptr c o=>k (.iptr c o) []|.optr b o=>k (.optr b o) []|_=>none
|.binOp op t x y _=>uP E.P g t op (v x) (v y) fun r=>k r []
|.unOp op _ x=>(Auq op (v x)).bind fun r=>k r []
|.convert s t x=>gK E.P g d s t (v x) k
|.makeFunc (.func f) first caps=>cond (Nat.blt f 1000000) (k (.fn (f+1000000*first.toList.length) ((first.toList++caps.toList).map v)) []) none
|.makeSlice t l c=>uJ E.P d t (v l) (v c) k
|.slice t x lo hi mx=>gD E.P g t (v x) (lo.map v) (hi.map v) (mx.map v) fun r=>k r []
|.fieldAddr t x f=>T5 E.P t (v x) f fun r=>k r []
|.field t x f=>gB E.P t (v x) f fun r=>k r []
|.indexAddr t x i=>T4 E.P t (v x) (v i) fun r=>k r []
|.index t x i=>gC E.P t (v x) (v i) fun r=>k r []
|.makeMap _ r=>AF d (r.map v) k
|.mapUpdate t m x y=>gL E.P g t (v m) (v x) (v y) k
|.lookup t m x c=>uM E.P g t (v m) (v x) c fun r=>k r []
|.range t x=>gM E.P d t (v x) k
|.next it s=>uO g (v it) s k
|.extract t i=>match v t with|.tup vs=>(vs[i]?).bind fun r=>k r []|_=>none
| .call c=>match c.callee with
  |.builtin .len=>match c.args.toList,c.argTypes.toList with|[x],[t]=>(Aqp E.P t (v x)).bind fun r=>k r []|_,_=>none
  |.builtin .append=>match c.args.toList,c.argTypes.toList with|[s,x],[t,tx]=>UD E.P g d t tx (v s) (v x) k|_,_=>none
  |.builtin .copy=>match c.args.toList,c.argTypes.toList with|[s,x],[t,_]=>uK E.P g t (v s) (v x) k|_,_=>none
  |.builtin .clear=>match c.args.toList,c.argTypes.toList with|[x],[t]=>gJ E.P g t (v x) k|_,_=>none
  |.builtin .min=>match c.args.toList with|[x,y]=>(Ahs (v x) (v y)).bind fun r=>k r []|[x,y,z]=>(Ahs (v x) (v y)).bind fun q=>(Ahs q (v z)).bind fun r=>k r []|_=>none
  |.builtin .max=>match c.args.toList with|[x,y]=>(Aht (v x) (v y)).bind fun r=>k r []|[x,y,z]=>(Aht (v x) (v y)).bind fun q=>(Aht q (v z)).bind fun r=>k r []|_=>none
  |.builtin .unsafeSliceData=>match c.args.toList with|[x]=>T7 g (v x) k|_=>none
  |.builtin .unsafeString=>match c.args.toList,c.argTypes.toList with|[x,y],[t,_]=>T8 E.P g t (v x) (v y) k|_,_=>none
  |.value fo=>match v fo with
   | .fn f caps=>cond (wh E.P (f%1000000)) (uQ E g d (f%1000000) (caps.take (f/1000000)++(c.args.toList.map v++caps.drop (f/1000000))) k)
     (cond (Akw E.P (f%1000000)) (match caps,c.args.toList.map v with|[],[x]=>k x []|_,_=>none) none)
   |_=>none
  |_=>none
|_=>none
structure Foot where
 r:List Nat
 w:Option Nat
 f:List Nat
 u:List Nat
def YQ:List Operand->List Nat
|[]=>[]
|.tmp t::r=>t::YQ r
|_::r=>YQ r
def An:D7->Ay->Ay
|[],h=>h
|(b,some x)::r,h=>An r (Fp h b x)
|(b,none)::r,h=>An r (match Am h b with|some x=>Fp h b {x with dead:=true,pure:=true,cells:=[]}|none=>h)
def UE(ops:Array Oper)(o:Oper):Option (Nat×Bool) :=
 match o.guard with
|none=>none
|some (j,want)=>((ops[j]?).bind (·.dst)).map fun t=>(t,want)
def JR(ops:Array Oper)(s:G7)(o:Oper):Option Bool :=
 match o.guard with
|none=>some true
| some (j,want)=>match (ops[j]?).bind (·.dst) with
  |some t=>match Gc s t with
   |.bool b=>some (b==want)
   |.tup []=>some false
   |_=>none
  |none=>some false
def Ac8(nt:Nat)(s:G7)(d:Option Nat)(v:AV):G7:=match d with|some d=>cond (Nat.blt d nt) (QA s d v) s|none=>s
def Af6:Op->Bool
|.binOp op ..=>match op with|.eql|.neq=>true|_=>false
|.move _|.assign _|.pick ..|.unOp ..|.makeFunc ..|.fieldAddr ..|.field ..|.indexAddr ..|.index ..|.extract ..|.nilCheck _=>false
|.call c=>match c.callee with
  |.builtin .len|.builtin .min|.builtin .max=>false
  |_=>true
|_=>true
def Af7:Op->Bool
|.load ..|.binOp ..=>true
|_=>false
def Xk(h:Ay)(op:Op)(vals:LA):List Nat:=cond (Af6 op) (cond (Af7 op) (j2 (Iv vals) []) (AG (Am h) (Iv vals))) []
def GM(d b:Nat):Bool:=ble (nid d) b&&Nat.blt b (nid d+16)
def WU(d:Nat)(F:List Nat)(h:Ay):D7->Bool
|[]=>true
|(b,_)::r=>cond (GM d b) (Am h b).isNone (Fv F b&&(Am h b).isSome)&&WU d F h r
def zT{R:Type}(E:Env)(ops:Array Oper)(o:Oper)(st:St)(k:St->Foot->O R):O R :=
 (JR ops st.s o).bind fun wanted=>cond wanted (
  sS E (fun b=>cond (Fv (Xk st.h o.op (o.op.operands.toList.map (ev st.s))) b) (Am st.h b) none) (o.dst.getD 50000) (ev st.s) o.op fun v ups =>
  cond (WU (o.dst.getD 50000) (Xk st.h o.op (o.op.operands.toList.map (ev st.s))) st.h ups)
   (k { s:=Ac8 E.nt st.s o.dst v,h:=An ups st.h } { r:=(match UE ops o with | some p=>[p.1] | none=>[])++YQ o.op.operands.toList,w:=o.dst,f:=Xk st.h o.op (o.op.operands.toList.map (ev st.s)),u:=ups.map (·.1) }) none)
  (k {st with s:=Ac8 E.nt st.s o.dst (.tup [])} {r:=(match UE ops o with|some p=>[p.1]|none=>[]),w:=o.dst,f:=[],u:=[]})
def gN{R:Type}(ops:Array Oper)(o:Oper)(st:St)(k:St->O R):O R :=
 match o.guard with
|none=>k st
| some (j,want)=>match (ops[j]?).bind (·.dst) with
  |none=>k st
  |some t=>match Gc st.s t with
   |.bool b=>cond (b==want) (k {s:=QA st.s t (.bool want),h:=st.h}) (k {s:=QA st.s t (.bool (!want)),h:=st.h})
   |_=>k st
def UF{R:Type}(E:Env)(o:Oper)(st:St)(k:St->O R):O R :=
 match o.op,o.dst with
| .move (.tmp i),some d=>cond (Fv E.cob (d+6000000)) (match Gc st.s i with
  |.int kd n=>jY n (fun j=>k {s:=QA st.s i (.int kd j),h:=st.h}) 7 0
  | _=>k st) (k st)
|_,_=>k st
def nv{R:Type}(E:Env)(ops:Array Oper):List Oper->St->List Foot->(St->List Foot->O R)->O R
|[],st,tr,k=>k st tr
|o::r,st,tr,k=>gN ops o st fun st=>UF E o st fun st=>zT E ops o st fun st f=>nv E ops r st (f::tr) k
def Auc:Option Nat->List Nat->Bool
|none,_=>false
|some d,l=>Fv l d
def j3(a b:Foot):Bool:=!Auc a.w b.r&&!Auc b.w a.r&&(match a.w,b.w with|some x,some y=>!beq x y|_,_=>true)&&zR a.u (b.f++b.u)&&zR b.u a.f
def QI(e:Edge):Bool:=match e.ground with|.textOnly _=>false|.gcOnly _=>false|_=>true
def JT(o:Oper):List Nat:=(o.after.toList.filter QI).map (·.on)
def wi{α:Type}:List Nat->(List Nat->α)->α
|[],k=>k []
|i::r,k=>wi r fun s=>k (i::s)
def GN{α:Type}:∀(l:List Nat)(k:List Nat->α),wi l k=k l
|[],_=>rfl
|i::r,k=>by rw[wi,GN r]
def Gz:List Oper->List (List Nat)->List (List Nat)
|[],acc=>acc
|o::r,acc=>wi (j2 (JT o++((JT o).flatMap fun i=>(acc[i]?).getD [])) []) fun a=>Gz r (acc++[a])
def Z1:Nat->List Oper->Bool
|_,[]=>true
|i,o::r=>(o.after.toList.all fun e=>!QI e||Nat.blt e.on i)&&Z1 (i+1) r
def bU(f:Foot)(anc:List Nat):Nat->List Foot->Bool
|_,[]=>true
|i,g::r=>(Fv anc i||j3 g f)&&bU f anc (i+1) r
def UG:List Foot->List (List Nat)->List Foot->Bool
|[],_,_=>true
|f::r,a::az9,seen=>bU f a 0 seen&&UG r az9 (seen++[f])
|_::_,[],_=>false
def Lk(b:Nat):Nat:=cond (ble Hr b) (b - Hr) b
mutual
def AH(g:A6):AV->AV
|.own b off n=>match Gd g b with|some _=>.own (Lk b) off n|none=>.undef
|.optr b off=>match Gd g b with|some _=>.optr (Lk b) off|none=>.undef
|.omap b=>match Gd g b with|some _=>.omap (Lk b)|none=>.undef
|.agg c=>.agg (Ke g c)
|.tup c=>.tup (Ke g c)
|.fn f c=>.fn f (Ke g c)
|v=>v
def Ke(g:A6):List AV->List AV
|[]=>[]
|v::r=>AH g v::Ke g r
end
def gO(g:A6)(K:List Nat):G7->G7
|[]=>[]
|(t,v)::r=>cond (Fv K t) ((t,AH g v)::gO g K r) (gO g K r)
def ny(K:List Nat):G7->List Nat
|[]=>[]
|(t,v)::r=>cond (Fv K t) (Gv v++ny K r) (ny K r)
def AI(g:A6):List Nat->Ay
|[]=>[]
|b::r=>match Gd g b with
  |some x=>Fp (AI g r) (Lk b) {x with cells:=cond x.pure x.cells (Ke g x.cells)}
  |none=>AI g r
def C_(g:A6)(ids:List Nat):List Nat:=ids.filter fun b=>match Gd g b with|some _=>true|none=>false
def nz(g:A6)(ids:List Nat):List Nat->Bool
|[]=>true
|b::r=>(Fv ids b||(Gd g b).isNone)&&nz g ids r
def Af8:List Nat->Bool
|[]=>true
|b::r=>cond (ble Hr b) (Nat.blt (Lk b) 100000) true&&Af8 r
def clean(K roots:List Nat)(st:St):Option St :=
 let g:=Am st.h
 let ids:=C_ g (AG g (ny K st.s++roots))
 cond (QG (ids.map Lk)&&(nz g ids (ny K st.s)&&(nz g ids (Lj g ids)&&Af8 ids))) (some {s:=gO g K st.s,h:=AI g ids}) none
def JU{R:Type}(E:Env)(roots:List Nat)(ops:Array Oper)(draw:Bool)(st:St)(k:St->O R):O R :=
 nv E ops ops.toList st [] fun st tr =>
  cond (!draw||(Z1 0 ops.toList&&UG tr.reverse (Gz ops.toList []) [])) ((clean (st.s.map (·.1)) roots st).bind k) none
def oA(b:Nat):Bool:=ble 100000 b&&Nat.blt b 200000
def JV(live:List Nat):List (Nat×Nat)->St->Option St
|[],st=>some st
|(t,sz)::r,st=>cond (ble 1000000 sz)
  (match Fv live t,Gc st.s t with
  |true,.nsl=>JV live r {s:=QA st.s t (.imm [] 0 (sz - 1000000) false false),h:=st.h}
  |true,.own b off n=>(WT (Am st.h) (.own b off n)).bind fun q=>JV live r {s:=QA st.s t q.1,h:=An q.2.1 st.h}
  | _,_=>JV live r st)
  (match Fv live t,Gc st.s t with
  |true,.nsl=>cond (Am st.h (nid t+15)).isSome none (JV live r {s:=QA st.s t (.own (nid t+15) 0 0),h:=Fp st.h (nid t+15) (Gm sz)})
  | _,_=>JV live r st)
def GO(free:List Nat)(b:Nat):Bool:=oA b&&!Fv free b
def Akx(free ids:List Nat):List (Nat×Nat):=Aw 300000 (ids.filter fun b=>!GO free b)
def AJ(free ids:List Nat)(b:Nat):Nat:=cond (GO free b) b (Jc 0 (Akx free ids) b)
def Aky(ρ:Nat->Nat)(K:List Nat):G7->G7
|[]=>[]
|(t,v)::r=>cond (Fv K t) ((t,VN ρ v)::Aky ρ K r) (Aky ρ K r)
def NS(E:Env)(live roots:List Nat)(st:St):Option St :=
 (JV live E.nils st).bind fun st =>
 let g:=Am st.h
 let ids:=C_ g (AG g (ny live st.s++roots))
 cond (QG (ids.map (AJ E.free ids))&&(NQ ids (ny live st.s)&&(NQ ids (Lj g ids)&&ble ids.length 100000))) (some {s:=Aky (AJ E.free ids) live st.s,h:=sub g (AJ E.free ids) ids}) none
inductive Hint where
|leaf
|node (live:List Nat) (a b:Hint)
|join (live:List Nat) (a b:Hint)
def Hint.live:Hint->List Nat
|.leaf=>[]
|.node l _ _=>l
|.join l _ _=>l
def Hint.a:Hint->Hint
|.leaf=>.leaf
|.node _ a _=>a
|.join _ a _=>a
def Hint.b:Hint->Hint
|.leaf=>.leaf
|.node _ _ b=>b
|.join _ _ b=>b
def Hint.isJoin:Hint->Bool
|.join _ _ _=>true
|_=>false
noncomputable def Ai{α:Type}(a:α):{x:α // x=a}:=Classical.choice ⟨⟨a,rfl⟩⟩
noncomputable def Akz{R:Type}(j:Bool)(f:St->O R):St->O R:=cond j (Ai f).1 f
def Ve{R:Type}(j:Bool)(f:St->O R):Akz j f=f:=by cases j;rfl;exact(Ai f).2
noncomputable def zU{R:Type}(E:Env)(roots:List Nat)(H:Hint)(f:St->O R)(st:St):O R:=cond H.isJoin ((NS E H.live roots st).bind (Akz true f)) (f st)
def NT{R:Type}(cn:St->Option St)(body:(St->O R)->St->O R):Nat->St->O R
|0,_=>none
|n+1,st=>body (fun st=>(cn st).bind (NT cn body n)) st
noncomputable def Dv{R:Type}(E:Env)(roots:List Nat)(N:Nat):Code->Hint->(St->O R)->(Nat->St->O R)->(St->O R)->St->O R
|.skip,_,k,_,_,st=>k st
|.region _ ops draw,_,k,_,_,st=>JU E roots ops draw st k
|.seq a b,H,k,x,r,st=>Dv E roots N a H.a (zU E roots H fun st=>Dv E roots N b H.b k x r st) x r st
|.cond c a b,H,k,x,r,st=>match ev st.s c with
  |.bool t=>cond t (Dv E roots N a H.a k x r st) (Dv E roots N b H.b k x r st)
  |_=>none
|.block id c,H,k,x,r,st=>Dv E roots N c H.a k (fun j st=>cond (beq j id) (k st) (x j st)) r st
|.loop c,H,_,x,r,st=>(NS E H.live roots st).bind (Akz true (NT (NS E H.live roots) (fun k st=>Dv E roots N c H.a k x r st) N))
|.exit id,_,_,x,_,st=>x id st
|.ret,_,_,_,r,st=>r st
|.scope c,H,k,x,r,st=>Dv E roots N c H.a k x r st
|.label _,_,k,_,_,st=>k st
|_,_,_,_,_,_=>none
def On{R:Type}(E:Env)(st:St):List ResultVar->LA->(LA->O R)->O R
|[],acc,k=>k acc.reverse
|.tmp t::r,acc,k=>On E st r (Gc st.s t::acc) k
|.cell a t::r,acc,k=>nk E.P (Am st.h) t (Gc st.s a) fun v=>On E st r (v::acc) k
def Aqq(g:A6)(i:Nat)(m:Nat×Nat)(v:AV):Option (AV×D7) :=
 cond (beq m.1 0) (some (v,[]))
 (cond (beq m.1 1) (match v with
  |.nsl=>some (.imm [] 0 m.2 false false,[])
  |.imm c n sz _ o=>some (.imm c n sz false o,[])
  |.own b off n=>(WT g (.own b off n)).bind fun q=>some (q.1,q.2.1)
  | _=>none)
 (cond (beq m.1 2) (match v with
  |.nsl=>cond (g (nid 90000+i)).isSome none (some (.own (nid 90000+i) 0 0,[(nid 90000+i,some (Gm m.2))]))
  | v=>some (v,[]))
 (match v with
  |.agg c=>(AE g c).bind fun q=>some (.pagg q.1 q.2.2,q.2.1)
  |.pagg c o=>some (.pagg c o,[])
  | _=>none)))
def zV(h:Ay):Nat->List (Nat×Nat)->LA->Option (LA×Ay)
|_,_,[]=>some ([],h)
|i,ms,v::r=>(Aqq (Am h) i (ms.headD (0,0)) v).bind fun p=>(zV (An p.2 h) (i+1) ms.tail r).bind fun q=>some (p.1::q.1,q.2)
def Aqr(l:LA):AV:=match l with|[v]=>v|l=>.tup l
def Vf{R:Type}(E:Env)(fn:Func)(modes:List (Nat×Nat))(outs:List Nat)(k:AV->Ay->O R)(st:St):O R :=
 On E st fn.results.toList [] fun l =>
 (zV st.h 0 modes l).bind fun q =>
 let v:=Aqr q.1
 let g:=Am q.2
 let ids:=C_ g (AG g (Gv v++outs))
 cond (QG (ids.map (AJ E.free ids))&&(NQ ids (Gv v)&&(NQ ids (Lj g ids)&&ble ids.length 100000))) (k (VN (AJ E.free ids) v) (sub g (AJ E.free ids) ids)) none
def oB:Nat->LA->G7
|_,[]=>[]
|i,v::r=>(i,v)::oB (i+1) r
structure Hints where
 H:Hint
 nils:List (Nat×Nat):=[]
 modes:List (Nat×Nat):=[]
 free:List Nat:=[]
 cob:List Nat:=[]
def bV:Ay->Bool
|[]=>true
|(b,_)::r=>oA b&&bV r
noncomputable def j4{R:Type}(P:Program)(muts:Nat->List Bool)(T:List (Nat×Tw))(hs:Hints)(N f:Nat)(args:LA)(h:Ay)(k:AV->Ay->O R):O R :=
 match P.funcs[f]? with
|none=>none
| some fn=>match fn.body with
  |none=>none
  |some c =>
   let E:Env:={P,nt:=fn.ntmps,muts,nils:=hs.nils,free:=hs.free,cob:=hs.cob,tbl:=T}
   let outs:=h.map (·.1)
   let fin:=Vf E fn hs.modes outs k
   cond (ble args.length fn.ntmps&&bV h) (Dv E outs N c hs.H fin (fun _ _=>none) fin {s:=oB 0 args,h}) none
end Gx
namespace Gx
open Go
mutual
def RepC(J:Nat->Prop)(w:World):AV->Value->Prop
|.int k n,v=>v=.int k n
|.bool b,v=>v=.bool b
|.str s,v=>v=.string ⟨⟨s⟩⟩
|.nsl,v=>v=.slice none 0 0
| .imm c len sz tight _,v=>c.length=len*sz/\∃ A cap,v=.slice A len cap/\len<=cap/\(tight=true->cap=len) /\
   (len=0\/∃ a,A=some a/\J a.block/\RepCs J w c (fun j=>w.cell? (a.add j)) 0)
|.iptr c _,v=>∃ a,v=.pointer (some a)/\J a.block/\RepCs J w c (fun j=>w.cell? (a.add j)) 0
|.nilptr,v=>v=.pointer none
|.nilfn,v=>v=.nilFunc
|.fn f [],v=>v=.func (.func (f%1000000)) #[] #[]
|_,_=>False
def RepCs(J:Nat->Prop)(w:World):List AV->(Nat->Option Value)->Nat->Prop
|[],_,_=>True
|x::r,rd,i=>(∃ u,rd i=some u/\RepC J w x u)/\RepCs J w r rd (i+1)
end
def By{J:Nat->Prop}{w:World}:∀{c:LA}{rd:Nat->Option Value}{i:Nat},
  RepCs J w c rd i↔∀ j x,c[j]?=some x->∃ u,rd (i+j)=some u/\RepC J w x u:=by
 intro c
 induction c with
|nil=>intro rd i;simp[RepCs]
| cons x r C =>
  intro rd i
  rw[RepCs,C]
  constructor
  ·rintro⟨D,G⟩ j y k
   cases j with
   |zero=>simp at k;subst k;simpa using D
   |succ j=>have:=G j y (by simpa using k);rwa [show i+1+j=i+(j+1) by omega]at this
  ·intro h
   refine⟨by simpa using h 0 x (by simp),fun j y k=>?_⟩
   have:=h (j+1) y (by simpa using k)
   rwa [show i+(j+1)=i+1+j by omega]at this
def zW(J:Nat->Prop)(w w':World):Prop:=∀ k,J k->w'.heap[k]?=w.heap[k]?
def gP{J:Nat->Prop}{w w':World}(h:zW J w w'){a:Addr}(k:J a.block):w'.cell? a=w.cell? a:=by unfold World.cell?;rw[h a.block k]
def T9(a:Addr)(n:Nat):(a.add n).block=a.block:=by unfold Addr.add;split<;>rfl
mutual
def RepC.keep{J J':Nat->Prop}{w w':World}(hJ:∀ k,J k->J' k)(hk:zW J w w'):∀{x:AV}{v:Value},RepC J w x v->RepC J' w' x v
|.int ..,_,h=>h
|.bool _,_,h=>h
|.str _,_,h=>h
|.nsl,_,h=>h
| .imm c _ _ _ _,_,h=>by
  rw[RepC]at h ⊢
  obtain⟨h1,A,cap,h2,h3,h4,h5⟩:=h
  refine⟨h1,A,cap,h2,h3,h4,?_⟩
  rcases h5 with h5|⟨a,ha,hj,hc⟩
  ·exact .inl h5
  ·refine .inr ⟨a,ha,hJ _ hj,RepCs.keep hJ hk (c:=c) (fun j=>?_) hc⟩
   exact gP hk (by rw[T9];exact hj)
|.iptr c _,_,h=>by
  rw[RepC]at h ⊢
  obtain⟨a,ha,hj,hc⟩:=h
  exact⟨a,ha,hJ _ hj,RepCs.keep hJ hk (c:=c) (fun j=>gP hk (by rw[T9];exact hj)) hc⟩
|.nilptr,_,h=>h
|.nilfn,_,h=>h
|.fn _ [],_,h=>h
|.fn _ (_::_),_,h=>by simp[RepC]at h
|.pagg ..,_,h=>by simp[RepC]at h
|.agg _,_,h=>by simp[RepC]at h
|.tup _,_,h=>by simp[RepC]at h
|.own ..,_,h=>by simp[RepC]at h
|.optr ..,_,h=>by simp[RepC]at h
|.undef,_,h=>by simp[RepC]at h
|.omap _,_,h=>by simp[RepC]at h
def RepCs.keep{J J':Nat->Prop}{w w':World}(hJ:∀ k,J k->J' k)(hk:zW J w w'):∀{c:List AV}{rd rd':Nat->Option Value}{i:Nat},(∀ j,rd' j=rd j)->RepCs J w c rd i->RepCs J' w' c rd' i
|[],_,_,_,_,_=>trivial
|x::r,rd,rd',i,he,h=>by
  rw[RepCs]at h ⊢
  obtain⟨⟨u,hu,hx⟩,hr⟩:=h
  exact⟨⟨u,by rw[he];exact hu,RepC.keep hJ hk (x:=x) hx⟩,RepCs.keep hJ hk (c:=r) he hr⟩
end
abbrev Ch:=Nat->Option (Nat×Nat)
def A1(w:World)(k:Nat):Nat:=match w.heap[k]? with|some (.cells cs _ _)=>cs.size|_=>0
def Asr(sz k:Nat):Value:=match sz with|0=>.map (some k)|_+1=>.pointer (some ⟨k,0,none⟩)
mutual
def Rep(J:Bool->Nat->Prop)(β:Ch)(h:Ay)(w:World):AV->Value->Prop
| .own b off n,v=>∃ x A cap,(Am h b=some x/\x.mp=false)/\v=.slice A n cap/\n<=cap/\(cap=0\/∃ k o,A=some ⟨k,o+off,none⟩ /\
   (x.dead=true\/(β b=some (k,o)/\o+off+cap*x.sz<=A1 w k/\off+n*x.sz<=x.cells.length)))
|.omap b,v=>∃ x k,(Am h b=some x/\x.mp=true)/\(x.dead=true\/(β b=some (k,0)/\v=Asr x.sz k))
|.optr b off,v=>∃ x k o,(Am h b=some x/\x.mp=false)/\v=.pointer (some ⟨k,o+off,none⟩)/\(x.dead=true\/β b=some (k,o))
|.pagg c org,v=>∃ cs,v=.agg ⟨cs⟩/\cs.length=c.length/\RepCs (J org) w c (fun j=>cs[j]?) 0
|.agg c,v=>∃ cs,v=.agg ⟨cs⟩/\Reps J β h w c cs
|.tup c,v=>∃ cs,v=.tuple ⟨cs⟩/\Reps J β h w c cs
|.fn f c,v=>∃ cs:List Value,v=.func (.func (f%1000000)) ⟨cs.take (f/1000000)⟩ ⟨cs.drop (f/1000000)⟩/\Reps J β h w c cs
|.undef,_=>True
|.imm c n sz t org,v=>RepC (J org) w (.imm c n sz t org) v
|.iptr c org,v=>RepC (J org) w (.iptr c org) v
|.int k n,v=>v=.int k n
|.bool b,v=>v=.bool b
|.str s,v=>v=.string ⟨⟨s⟩⟩
|.nsl,v=>v=.slice none 0 0
|.nilptr,v=>v=.pointer none
|.nilfn,v=>v=.nilFunc
def Reps(J:Bool->Nat->Prop)(β:Ch)(h:Ay)(w:World):List AV->List Value->Prop
|[],cs=>cs=[]
|x::r,cs=>∃ u us,cs=u::us/\Rep J β h w x u/\Reps J β h w r us
end
structure Ext(J:Bool->Nat->Prop)(β:Ch)(h:Ay)(w:World)(J':Bool->Nat->Prop)(β':Ch)(h':Ay)(w':World):Prop where
 jsub:∀ o k,J o k->J' o k
 keep:∀ o,zW (J o) w w'
 blk:∀ b x,Am h b=some x->∃ x',(Am h' b=some x'/\x'.mp=x.mp)/\(x'.dead=true\/(x.dead=false/\β' b=β b/\x'.sz=x.sz/\(x.mp=false->x'.cells.length=x.cells.length)))
 size:∀ b k o,β b=some (k,o)->A1 w k<=A1 w' k
mutual
def Rep.ext{J J':Bool->Nat->Prop}{β β':Ch}{h h':Ay}{w w':World}(E:Ext J β h w J' β' h' w'):∀{x:AV}{v:Value},Rep J β h w x v->Rep J' β' h' w' x v
| .own b off n,v,hr=>by
  rw[Rep]at hr ⊢
  obtain⟨x,A,cap,⟨hx,hm⟩,h1,h2,hr⟩:=hr
  obtain⟨x',⟨hx',hm'⟩,hd⟩:=E.blk b x hx
  refine⟨x',A,cap,⟨hx',by rw[hm',hm]⟩,h1,h2,?_⟩
  rcases hr with hr|⟨k,o,h3,hr⟩
  ·exact .inl hr
  ·refine .inr ⟨k,o,h3,?_⟩
   rcases hd with hd|⟨hd,hβ,hs,hl⟩
   ·exact .inl hd
   ·rcases hr with hr|⟨h4,h5,h6⟩
    ·simp[hd]at hr
    ·exact .inr ⟨by rw[hβ];exact h4,by rw[hs];exact Ay7 h5 (E.size b k o h4),by rw[hs,hl hm];exact h6⟩
| .optr b off,v,hr=>by
  rw[Rep]at hr ⊢
  obtain⟨x,k,o,⟨hx,hm⟩,h1,hr⟩:=hr
  obtain⟨x',⟨hx',hm'⟩,hd⟩:=E.blk b x hx
  refine⟨x',k,o,⟨hx',by rw[hm',hm]⟩,h1,?_⟩
  rcases hd with hd|⟨hd,hβ,hs,hl⟩
  ·exact .inl hd
  ·rcases hr with hr|hr
   ·simp[hd]at hr
   ·exact .inr (by rw[hβ];exact hr)
| .omap b,v,hr=>by
  rw[Rep]at hr ⊢
  obtain⟨x,k,⟨hx,hm⟩,hr⟩:=hr
  obtain⟨x',⟨hx',hm'⟩,hd⟩:=E.blk b x hx
  refine⟨x',k,⟨hx',by rw[hm',hm]⟩,?_⟩
  rcases hd with hd|⟨hd,hβ,hs,hl⟩
  ·exact .inl hd
  ·rcases hr with hr|⟨hr,hv⟩
   ·simp[hd]at hr
   ·exact .inr ⟨by rw[hβ];exact hr,by rw[hs];exact hv⟩
|.pagg c org,v,hr=>by
  rw[Rep]at hr ⊢
  obtain⟨cs,h1,h2,h3⟩:=hr
  exact⟨cs,h1,h2,RepCs.keep (E.jsub org) (E.keep org) (fun _=>rfl) h3⟩
|.agg c,v,hr=>by
  rw[Rep]at hr ⊢
  obtain⟨cs,h1,h2⟩:=hr
  exact⟨cs,h1,Reps.ext E (c:=c) h2⟩
|.tup c,v,hr=>by
  rw[Rep]at hr ⊢
  obtain⟨cs,h1,h2⟩:=hr
  exact⟨cs,h1,Reps.ext E (c:=c) h2⟩
|.fn f c,v,hr=>by
  rw[Rep]at hr ⊢
  obtain⟨cs,h1,h2⟩:=hr
  exact⟨cs,h1,Reps.ext E (c:=c) h2⟩
|.undef,_,_=>by rw[Rep];trivial
|.imm c n sz t org,v,hr=>by rw[Rep]at hr ⊢;exact RepC.keep (E.jsub org) (E.keep org) hr
|.iptr c org,v,hr=>by rw[Rep]at hr ⊢;exact RepC.keep (E.jsub org) (E.keep org) hr
|.int ..,_,hr=>hr
|.bool _,_,hr=>hr
|.str _,_,hr=>hr
|.nsl,_,hr=>hr
|.nilptr,_,hr=>hr
|.nilfn,_,hr=>hr
def Reps.ext{J J':Bool->Nat->Prop}{β β':Ch}{h h':Ay}{w w':World}(E:Ext J β h w J' β' h' w'):∀{c:List AV}{cs:List Value},Reps J β h w c cs->Reps J' β' h' w' c cs
|[],_,hr=>hr
|x::r,cs,hr=>by
  rw[Reps]at hr ⊢
  obtain⟨u,us,h1,h2,h3⟩:=hr
  exact⟨u,us,h1,Rep.ext E (x:=x) h2,Reps.ext E (c:=r) h3⟩
end
end Gx
namespace Gx
open Go
def Ass:List (Nat×List Value):=[]
def Aqs:List Nat:=[]
end Gx
namespace Gx
open Go
def CellsRep(J:Bool->Nat->Prop)(β:Ch)(h:Ay)(w:World)(x:Blk)(rd:Nat->Option Value):Prop :=
 (x.pure=true->RepCs (J x.taint) w x.cells rd 0) /\
 (x.pure=false->∀ j c,x.cells[j]?=some c->∃ u,rd j=some u/\Rep J β h w c u/\u.oneCell'=true)
def FrOk(n:Nat)(fr:Nat×Nat):Prop:=fr.1=fr.2\/n<=fr.1
def FrOk.at{n:Nat}{fr:Nat×Nat}(h:FrOk n fr)(j:Nat)(k:j<n):¬ (fr.1<=j/\j<fr.2):=by rcases h with h|h<;>omega
def TyOk(X:Option (Nat×Nat))(ty:TypeId)(o n:Nat):Prop:=∀ t m,X=some (t,m)->ty=t/\o=0/\(m=0\/n=m)
def FrTy(X:Option (Nat×Nat))(ty:TypeId)(o n:Nat)(fr:Nat×Nat):Prop:=FrOk n fr/\TyOk X ty o n
def TyOk.none{ty:TypeId}{o n:Nat}:TyOk .none ty o n:=fun _ _ h=>by cases h
def FrOk.un{n:Nat}{fr:Nat×Nat}(h:FrOk n fr){ty:TypeId}{o:Nat}:FrTy .none ty o n fr:=⟨h,TyOk.none⟩
def FrTy.un0{ty:TypeId}{o n a:Nat}:FrTy .none ty o n (a,a):=⟨.inl rfl,TyOk.none⟩
def Aqt(J:Bool->Nat->Prop)(β:Ch)(h:Ay)(w:World)(b:Nat)(x:Blk):Prop :=
 (β b=none/\x.cells=[])\/∃ k o cs ty fr,β b=some (k,o)/\w.heap[k]?=some (.cells cs ty fr) /\
  FrTy x.ty ty o cs.size fr/\o+x.cells.length<=cs.size/\CellsRep J β h w x (fun j=>cs[o+j]?) /\
  (x.sealed=false->∀ g,¬ J g k)/\(x.sealed=true->J x.taint k)
def Aqu(c:LA)(es:Array MapEntry):Prop:=∃ l:List Int,c=l.map (fun n=>.int .i64 n)/\es.toList.map (fun e=>(e.key,e.val))=l.map (fun n=>(.int .i64 n,.bool true))
def ObjIs(x:Blk)(ob:Obj):Prop:=(x.sz=0/\∃ es clk,ob=.map es clk/\Aqu x.cells es)\/(x.sz=1/\∃ s pos,ob=.stringIter ⟨⟨s⟩⟩ pos/\x.cells=[.str s,.int .i64 (pos:Int)])
def MapRep(J:Bool->Nat->Prop)(β:Ch)(w:World)(b:Nat)(x:Blk):Prop:=x.pure=true/\x.sealed=false/\∃ k ob,β b=some (k,0)/\w.heap[k]?=some ob/\ObjIs x ob/\∀ g,¬ J g k
def ObjIs.row{x:Blk}{ob:Obj}(h:ObjIs x ob){cs:Array Value}{ty:TypeId}{fr:Nat×Nat}:ob≠.cells cs ty fr:=by rcases h with⟨_,es,clk,rfl,_⟩|⟨_,s,pos,rfl,_⟩<;>exact fun h=>by cases h
def GlobOk(J:Bool->Nat->Prop)(w:World):Prop:=(∀ p∈Ass,J false p.1/\∃ ty fr,w.heap[p.1]?=some (.cells p.2.toArray ty fr))/\∀ g∈Aqs,J false g/\∃ m,w.cell? ⟨g,0,none⟩=some (.int .i64 m)
def GlobOk.to {J J':Bool->Nat->Prop} {w w':World} (h:GlobOk J w) (G:∀ k,J false k->J' false k) (I:zW (J false) w w'):GlobOk J' w':=⟨fun p C =>
 ⟨G _ (h.1 p C).1,by rw[I _ (h.1 p C).1];exact(h.1 p C).2⟩,fun g D=>⟨G _ (h.2 g D).1,by rw[gP I (by exact(h.2 g D).1)];exact(h.2 g D).2⟩⟩
def GlobOk.ext{J J':Bool->Nat->Prop}{β β':Ch}{h h':Ay}{w w':World}(G:GlobOk J w)(E:Ext J β h w J' β' h' w'):GlobOk J' w':=G.to (E.jsub false) (E.keep false)
structure SimH(J:Bool->Nat->Prop)(β:Ch)(h:Ay)(w:World):Prop where
 jlt:∀ o k,J o k->k<w.heap.size
 jft:∀ k,J false k->J true k
 gl:GlobOk J w
 blk:∀ b x,Am h b=some x->x.dead=false->x.mp=false->Aqt J β h w b x
 mblk:∀ b x,Am h b=some x->x.dead=false->x.mp=true->MapRep J β w b x
 sep:∀ b b' x x' k o o',Am h b=some x->Am h b'=some x'->x.dead=false->x'.dead=false->x.sealed=false->β b=some (k,o)->β b'=some (k,o')->b=b'
mutual
def JW{J:Bool->Nat->Prop}{β:Ch}{h:Ay}{w:World}:∀ v:Value,Rep J β h w (fy v) v
|.int ..=>by simp[fy,Rep]
|.bool _=>by simp[fy,Rep]
|.string ⟨⟨s⟩⟩=>by simp[fy,Rep]
|.slice none 0 0=>by simp[fy,Rep]
|.slice none 0 (_+1)=>by simp[fy,Rep]
|.slice none (_+1) _=>by simp[fy,Rep]
|.slice (some _) _ _=>by simp[fy,Rep]
|.pointer none=>by simp[fy,Rep]
|.pointer (some _)=>by simp[fy,Rep]
|.nilFunc=>by simp[fy,Rep]
|.agg ⟨cs⟩=>by rw[fy,Rep];exact⟨cs,rfl,UH cs⟩
|.float ..=>by simp[fy,Rep]
|.complex ..=>by simp[fy,Rep]
|.map _=>by simp[fy,Rep]
|.chan _=>by simp[fy,Rep]
|.func ..=>by simp[fy,Rep]
|.iface ..=>by simp[fy,Rep]
|.nilIface=>by simp[fy,Rep]
|.tuple _=>by simp[fy,Rep]
def UH{J:Bool->Nat->Prop}{β:Ch}{h:Ay}{w:World}:∀ cs:List Value,Reps J β h w (Li cs) cs
|[]=>by simp[Li,Reps]
|v::r=>by rw[Li,Reps];exact⟨v,r,rfl,JW v,UH r⟩
end
structure SimS(J:Bool->Nat->Prop)(β:Ch)(h:Ay)(w:World)(s:G7)(t:Array Value):Prop where
 slot:∀ i v,t[i]?=some v->Rep J β h w (Gc s i) v
 out:∀ i,t.size<=i->Gc s i=.undef
def A7{J:Bool->Nat->Prop}{β:Ch}{h:Ay}{w:World}{s:G7}{a:Act}(H:SimS J β h w s a.tmps)(x:Operand):Rep J β h w (ev s x) (a.eval x):=by
 cases x with
| tmp t =>
  rw[ev,Act.eval,A0a]
  cases k:a.tmps[t]? with
  |some v=>exact H.slot t v k
  |none =>
   have:a.tmps.size<=t:=by simpa using k
   rw[H.out t this];simp[Rep]
|const v=>exact JW v
|global g=>simp[ev,Rep]
| func f =>
  rw[ev]
  cases C:Nat.blt f 1000000 with
  |false=>simp[Rep]
  |true =>
   have:f<1000000:=by simpa using C
   simp[Rep,Act.eval,Reps,Ayl this]
section
variable{R:Type}{r:R}{P:Program}{J:Bool->Nat->Prop}{β:Ch}{h:Ay}{w:World}
def wk{t:TypeId}{op:BinOp}{k:IntKind}{a b:Int}{v:AV}(C:gA op k a b=some v):
  ∃ vc,(binOp op t (.int k a) (.int k b)).run P w=.ok vc w/\Rep J β h w v vc:=by cases op<;>simp[gA]at C<;>subst C<;>simp[binOp,Op.intArith,Op.intBits,Op.intCmp,Rep]
def Ac9{op:BinOp}{t:TypeId}{x y:AV}{k:AV->O R}{vx vy:Value}(hh:Ahn P t op x y k=some r)(Y:Rep J β h w x vx)(hy:Rep J β h w y vy)(ox oy:Operand):
  ∃ v vc,k v=some r/\(do eqGuard op t ox oy vx vy;binOp op t vx vy:Sem Value).run P w=.ok vc w/\Rep J β h w v vc:=by
 unfold Ahn at hh
 split at hh
 ·rename_i I a T b
  rw[Rep]at Y hy;subst Y hy
  have D:(eqGuard op t ox oy (.int I a) (.int T b)).run P w=.ok () w:=by
   unfold eqGuard;cases op<;>simp
  split at hh
  ·cases C:decide (b<0)<;>rw[C]at hh<;>simp at hh C
   refine⟨_,_,hh,?_,by rw[Rep]⟩
   simp[D,binOp,Op.shift];intro hc;omega
  ·cases C:decide (b<0)<;>rw[C]at hh<;>simp at hh C
   refine⟨_,_,hh,?_,by rw[Rep]⟩
   simp[D,binOp,Op.shift];intro hc;omega
  ·cases L:Kc I T<;>rw[L]at hh<;>simp at hh
   have G:I=T:=by simpa[Kc]using L
   subst G
   cases C:(b==0)<;>rw[C]at hh<;>simp at hh C
   refine⟨_,_,hh,?_,by rw[Rep]⟩
   simp[D,binOp,Op.intDiv,C]
  ·cases L:Kc I T<;>rw[L]at hh<;>simp at hh
   have G:I=T:=by simpa[Kc]using L
   subst G
   cases C:(b==0)<;>rw[C]at hh<;>simp at hh C
   refine⟨_,_,hh,?_,by rw[Rep]⟩
   simp[D,binOp,Op.intDiv,C]
  ·cases L:Kc I T<;>rw[L]at hh<;>simp at hh
   have G:I=T:=by simpa[Kc]using L
   subst G
   cases hi:gA op I a b with
   |none=>rw[hi]at hh;simp at hh
   |some v =>
    rw[hi]at hh
    obtain⟨vc,h1,h2⟩:=wk (P:=P) (J:=J) (β:=β) (h:=h) (w:=w) (t:=t) hi
    exact⟨v,vc,by simpa using hh,by simp[D,h1],h2⟩
 ·rename_i a b
  rw[Rep]at Y hy;subst Y hy
  split at hh
  ·cases C:UA P t<;>rw[C]at hh<;>simp at hh
   have ht:P.underlying t=some .bool:=by unfold UA at C;split at C<;>simp_all
   refine⟨_,_,hh,?_,by rw[Rep]⟩
   have he:(Op.equal t (.bool a) (.bool b)).run P w=.ok (a==b) w:=by
    have:∀ d,(Op.equalIn (d+1) t (.bool a) (.bool b)).run P w=.ok (a==b) w:=fun d=>by
     unfold Op.equalIn;simp only[Sem.run_bind,run_underlying ht,Result.andThen_ok,Sem.run_pure]
    exact this 9999
   have D:∀ op,(eqGuard op t ox oy (.bool a) (.bool b)).run P w=.ok () w:=fun op=>by unfold eqGuard;cases op<;>simp
   simp only[Sem.run_bind,D,Result.andThen_ok,binOp,he,Sem.run_pure]
  ·cases C:UA P t<;>rw[C]at hh<;>simp at hh
   have ht:P.underlying t=some .bool:=by unfold UA at C;split at C<;>simp_all
   refine⟨_,_,hh,?_,by rw[Rep]⟩
   have he:(Op.equal t (.bool a) (.bool b)).run P w=.ok (a==b) w:=by
    have:∀ d,(Op.equalIn (d+1) t (.bool a) (.bool b)).run P w=.ok (a==b) w:=fun d=>by
     unfold Op.equalIn;simp only[Sem.run_bind,run_underlying ht,Result.andThen_ok,Sem.run_pure]
    exact this 9999
   have D:∀ op,(eqGuard op t ox oy (.bool a) (.bool b)).run P w=.ok () w:=fun op=>by unfold eqGuard;cases op<;>simp
   simp only[Sem.run_bind,D,Result.andThen_ok,binOp,he,Sem.run_pure]
  ·simp at hh
 ·rename_i a b
  rw[Rep]at Y hy;subst Y hy
  have ea:(⟨⟨a⟩⟩:ByteArray).toList=a:=by simp[ByteArray.toList_eq]
  have eb:(⟨⟨b⟩⟩:ByteArray).toList=b:=by simp[ByteArray.toList_eq]
  have D:∀ op,(eqGuard op t ox oy (.string ⟨⟨a⟩⟩) (.string ⟨⟨b⟩⟩)).run P w=.ok () w:=fun op=>by unfold eqGuard;cases op<;>simp
  split at hh
  ·cases C:ble (a.length+b.length) 140737488355328<;>rw[C]at hh<;>simp at hh C
   refine⟨_,_,hh,?_,by rw[Rep]⟩
   have hl:¬ (((⟨⟨a⟩⟩:ByteArray).size+(⟨⟨b⟩⟩:ByteArray).size:Nat):Int)>IntKind.i64.max:=by
    show ¬ ((a.length+b.length:Nat):Int)>9223372036854775807
    omega
   have ec:(⟨⟨a⟩⟩:ByteArray)++⟨⟨b⟩⟩=⟨⟨a++b⟩⟩:=by
    apply ByteArray.ext;simp[ByteArray.data_append]
   simp only[Sem.run_bind,D,Result.andThen_ok,binOp,Op.stringOp,if_neg hl,Sem.run_pure,ec]
  all_goals first
   |(refine⟨_,_,hh,?_,by rw[Rep]⟩;simp only[Sem.run_bind,D,Result.andThen_ok,binOp,Op.stringOp,Sem.run_pure,ea,eb];done)
   |simp at hh
 ·simp at hh
end
end Gx
namespace Gx
open Go
section
variable{R:Type}{r:R}{P:Program}{J:Bool->Nat->Prop}{β:Ch}{h:Ay}{w:World}
def ub{α:Type}{o:Option α}{f:α->O R}(hh:o.bind f=some r):∃ x,o=some x/\f x=some r:=by
 cases o with
|none=>simp at hh
|some x=>exact⟨x,rfl,by simpa using hh⟩
def uc{b:Bool}{x:O R}(hh:cond b x none=some r):b=true/\x=some r:=by cases b<;>simp at hh;exact⟨rfl,hh⟩
def Ac2{b:Bool}{x:O R}(hh:cond b none x=some r):b=false/\x=some r:=by cases b<;>simp at hh;exact⟨rfl,hh⟩
def Ahu{op:UnOp}{x v:AV}{vx:Value}(hh:Auq op x=some v)(D:Rep J β h w x vx):
  ∃ vc,(Op.unary op vx).run P w=.ok vc w/\Rep J β h w v vc:=by
 unfold Auq at hh
 split at hh
 ·rename_i k n
  rw[Rep]at D;subst D;simp at hh;subst hh
  refine⟨.int k (k.wrap (-n)),by simp[Op.unary,Op.intArith],?_⟩
  rw[Rep]
 ·rename_i k n
  rw[Rep]at D;subst D
  have C:=hh
  rw[gA]at C
  simp only[Az1]at C;subst C
  refine⟨_,rfl,?_⟩
  rw[Rep];cases k.signed<;>rfl
 ·rename_i b
  rw[Rep]at D;subst D;simp at hh;subst hh
  exact⟨.bool (!b),by simp[Op.unary],by rw[Rep]⟩
 ·simp at hh
def j5(P:Program)(J:Bool->Nat->Prop)(β:Ch)(h:Ay)(w:World)(t:TypeId)(rd:Nat->Option Value)(v:AV):Prop :=
 (∃ d,P.underlying t=some d/\d.isRow=false/\∃ u,rd 0=some u/\Rep J β h w v u) \/
 (∃ d,P.underlying t=some d/\d.isRow=true/\∃ us:List Value,(P.info? t).map (·.size)=some us.length/\(∀ j u,us[j]?=some u->rd j=some u)/\Rep J β h w v (.agg us.toArray))
def RepCs.at{J:Nat->Prop}{c:LA}{rd:Nat->Option Value}(hc:RepCs J w c rd 0){j:Nat}{x:AV}(k:c[j]?=some x):∃ u,rd j=some u/\RepC J w x u:=by have:=By.1 hc j x k;simpa using this
def RepCs.drop{J:Nat->Prop}{c:LA}{rd:Nat->Option Value}(hc:RepCs J w c rd 0)(n:Nat):RepCs J w (c.drop n) (fun j=>rd (n+j)) 0:=by
 rw[By]at hc ⊢
 intro j x k
 rw[Ayw]at k
 simpa using hc (n+j) x k
def RepCs.take{J:Nat->Prop}{c:LA}{rd:Nat->Option Value}(hc:RepCs J w c rd 0)(n:Nat):RepCs J w (c.take n) rd 0:=by
 rw[By]at hc ⊢
 intro j x k
 rw[Azn]at k
 split at k
 ·exact hc j x k
 ·simp at k
def RepCs.list{J:Nat->Prop}{c:LA}{rd:Nat->Option Value}(hc:RepCs J w c rd 0):
  ∃ us:List Value,us.length=c.length/\(∀ j u,us[j]?=some u->rd j=some u)/\RepCs J w c (fun j=>us[j]?) 0:=by
 refine⟨c.zipIdx.map fun p=>(rd p.2).getD undef,by simp,fun j u k=>?_,?_⟩
 ·rw[A0n,A30]at k
  cases D:c[j]? with
  |none=>rw[D]at k;simp at k
  |some x =>
   rw[D]at k
   obtain⟨G,C,_⟩:=hc.at D
   simp[C]at k
   rw[C,k]
 ·rw[By]
  intro j x k
  obtain⟨u,C,hr⟩:=hc.at k
  refine⟨u,?_,hr⟩
  simp[k,C]
def j6{J1 J2:Nat->Prop}:∀{c:LA}{rd:Nat->Option Value}{i:Nat},A9 c=true->RepCs J1 w c rd i->RepCs J2 w c rd i
|[],_,_,_,_=>trivial
|x::r,rd,i,k,hc=>by
  rw[RepCs]at hc ⊢
  obtain⟨⟨u,C,G⟩,D⟩:=hc
  have hr:A9 r=true:=by unfold A9 at k;split at k<;>simp_all
  refine⟨⟨u,C,?_⟩,j6 hr D⟩
  unfold A9 at k
  split at k<;>simp_all[RepC]
def WV{t:TypeId}{c:LA}{org:Bool}{k:Bool->O R}{rd:Nat->Option Value}{i:Nat}(hh:Yw P t c org k=some r)(hc:RepCs (J org) w c rd i):∃ o,k o=some r/\RepCs (J o) w c rd i:=by
 unfold Yw at hh
 cases C:Af2 P t with
|true=>rw[C]at hh;exact⟨org,hh,hc⟩
|false =>
  rw[C,cond_false]at hh
  obtain⟨D,G⟩:=uc hh
  refine⟨false,G,?_⟩
  cases org with
  |false=>exact hc
  |true=>exact j6 (by simpa using D) hc
def Wk{t:TypeId}{c:LA}{org:Bool}{k:AV->O R}{rd:Nat->Option Value}(hh:QB P t c org k=some r)(hc:RepCs (J org) w c rd 0):
  ∃ v,k v=some r/\j5 P J β h w t rd v:=by
 unfold QB at hh
 have agg:∀{d:TypeDesc},P.underlying t=some d->d.isRow=true->((Bk P t).bind fun n=>cond (ble n c.length) (Yw P t (c.take n) org fun o=>k (.pagg (c.take n) o)) none)=some r ->
   ∃ v,k v=some r/\j5 P J β h w t rd v:=by
  intro d D hd hh
  obtain⟨n,hn,hh⟩:=ub hh
  obtain⟨hle,hh⟩:=uc hh
  have hle':n<=c.length:=by simpa using hle
  obtain⟨us,G,C,h3⟩:=(hc.take n).list
  have hl:us.length=n:=by rw[G];simp;omega
  obtain⟨o,hh,h4⟩:=WV hh h3
  refine⟨_,hh,.inr ⟨d,D,hd,us,?_,C,?_⟩⟩
  ·rw[hl];exact hn
  ·rw[Rep];exact⟨us,rfl,by rw[G],h4⟩
 split at hh
 ·rename_i kd D
  obtain⟨x,I,hh⟩:=ub hh
  obtain⟨n,hn,hh⟩:=ub hh
  obtain⟨u,G,C⟩:=hc.at (by rw[<-Ayp];exact I)
  refine⟨_,hh,.inl ⟨_,D,rfl,u,G,?_⟩⟩
  unfold WS at hn
  split at hn
  ·obtain⟨T,Y⟩:=uc hn
   simp[Kc]at T Y;subst T;subst Y
   rw[RepC]at C;rw[Rep];exact C
  ·simp at hn
 ·rename_i D
  obtain⟨x,I,hh⟩:=ub hh
  obtain⟨n,hn,hh⟩:=ub hh
  obtain⟨u,G,C⟩:=hc.at (by rw[<-Ayp];exact I)
  refine⟨_,hh,.inl ⟨_,D,rfl,u,G,?_⟩⟩
  unfold asBool at hn
  split at hn
  ·simp at hn;subst hn
   rw[RepC]at C;rw[Rep];exact C
  ·simp at hn
 ·rename_i D
  obtain⟨x,I,hh⟩:=ub hh
  obtain⟨n,hn,hh⟩:=ub hh
  obtain⟨u,G,C⟩:=hc.at (by rw[<-Ayp];exact I)
  refine⟨_,hh,.inl ⟨_,D,rfl,u,G,?_⟩⟩
  unfold jV at hn
  split at hn
  ·simp at hn;subst hn
   rw[RepC]at C;rw[Rep];exact C
  ·simp at hn
 ·rename_i e D
  obtain⟨sz,hsz,hh⟩:=ub hh
  obtain⟨x,I,hh⟩:=ub hh
  obtain⟨p,L,hh⟩:=ub hh
  obtain⟨u,G,C⟩:=hc.at (by rw[<-Ayp];exact I)
  refine⟨_,hh,.inl ⟨_,D,rfl,u,G,?_⟩⟩
  unfold Aho at L
  rw[Rep,RepC]
  split at L
  ·obtain⟨T,hp'⟩:=uc L
   simp at T hp';subst T;subst hp'
   rw[RepC]at C
   obtain⟨h3,A,cap,h4,h5,h6,h7⟩:=C
   exact⟨h3,A,cap,h4,h5,by simp,h7⟩
  ·simp at L;subst L
   rw[RepC]at C
   exact⟨by simp,none,0,C,by simp,by simp,.inl rfl⟩
  ·simp at L
 ·rename_i D;exact agg D rfl hh
 ·rename_i D;exact agg D rfl hh
 ·simp at hh
def Cb:∀{c:LA}{cs:List Value},Reps J β h w c cs↔cs.length=c.length/\∀(j:Nat)(x:AV)(u:Value),c[j]?=some x->cs[j]?=some u->Rep J β h w x u
|[],cs=>by rw[Reps];simp
| x::r,cs=>by
  rw[Reps]
  constructor
  ·rintro⟨u,us,rfl,D,G⟩
   rw[Cb]at G
   refine⟨by simp[G.1],fun j y v k C=>?_⟩
   cases j with
   |zero=>simp at k C;subst k C;exact D
   |succ j=>exact G.2 j y v (by simpa using k) (by simpa using C)
  ·rintro⟨I,D⟩
   cases cs with
   |nil=>simp at I
   |cons u us =>
    refine⟨u,us,rfl,D 0 x u (by simp) (by simp),?_⟩
    rw[Cb]
    exact⟨by simpa using I,fun j y v k C=>D (j+1) y v (by simpa using k) (by simpa using C)⟩
def QJ{t:TypeId}{c:LA}{k:AV->O R}{rd:Nat->Option Value}(hh:jX P t c k=some r)
  (hc:∀ j x,c[j]?=some x->∃ u,rd j=some u/\Rep J β h w x u) :
  ∃ v,k v=some r/\j5 P J β h w t rd v:=by
 unfold jX at hh
 have agg:∀{d:TypeDesc},P.underlying t=some d->d.isRow=true->((Bk P t).bind fun n=>cond (ble n c.length) (k (.agg (c.take n))) none)=some r ->
   ∃ v,k v=some r/\j5 P J β h w t rd v:=by
  intro d D Y hh
  obtain⟨n,hn,hh⟩:=ub hh
  obtain⟨T,hh⟩:=uc hh
  have L:n<=c.length:=by simpa using T
  refine⟨_,hh,.inr ⟨d,D,Y,(c.take n).zipIdx.map fun p=>(rd p.2).getD undef,?_,fun j u I=>?_,?_⟩⟩
  ·simp;rw[Ayd L];exact Option.map_eq_some_iff.1 hn
  ·rw[A0n,A30]at I
   cases C:(c.take n)[j]? with
   |none=>rw[C]at I;simp at I
   | some x =>
    rw[C]at I
    rw[Azn]at C
    split at C
    ·obtain⟨u',G,_⟩:=hc j x C
     simp[G]at I
     rw[G,I]
    ·simp at C
  ·rw[Rep]
   refine⟨_,rfl,Cb.2 ⟨by simp,fun j x u C D=>?_⟩⟩
   simp[C]at D
   rw[Azn]at C
   split at C
   ·obtain⟨u',G,hr⟩:=hc j x C
    simp[G]at D;subst D;exact hr
   ·simp at C
 split at hh
 ·rename_i D;exact agg D rfl hh
 ·rename_i D;exact agg D rfl hh
 ·rename_i d _ _ D
  obtain⟨x,C,hh⟩:=ub hh
  obtain⟨u,h1,h2⟩:=hc 0 x (by rw[<-Ayp];exact C)
  refine⟨x,hh,.inl ⟨d,D,?_,u,h1,h2⟩⟩
  cases d<;>simp_all
 ·simp at hh
def uT{n:Nat}{k:AV->O R}:∀{c:LA}{i:Nat},JO n k c i=some r->i<=n/\∃ x,c[n - i]?=some x/\k x=some r
|[],i,hh=>by simp[JO]at hh
| v::c,i,hh=>by
  rw[JO]at hh
  cases C:beq n i with
  |true =>
   rw[C]at hh
   have:n=i:=Axy C
   subst this
   exact⟨Axo _,v,by simp,hh⟩
  |false =>
   rw[C]at hh
   obtain⟨I,x,D,G⟩:=uT (c:=c) hh
   refine⟨by omega,x,?_,G⟩
   rw[show n - i=(n - (i+1))+1 by omega];simpa using D
def bW{t:TypeId}{c:LA}{off:Nat}{k:AV->O R}(hh:QC P t c off k=some r):jX P t (c.drop off) k=some r:=by
 unfold QC at hh
 unfold jX
 split at hh
 ·exact hh
 ·exact hh
 ·rename_i d I L T
  obtain⟨_,x,C,D⟩:=uT hh
  have G:(c.drop off).head?=some x:=by rw[Ayp,Ayw];simpa using C
  rw[G];exact D
 ·simp at hh
def UI{t:TypeId}{d:TypeDesc}(k:P.underlying t=some d):(isAgg t).run P w=.ok d.isRow w:=by
 unfold isAgg
 rw[Sem.run_bind,run_underlying k w]
 cases d<;>simp
def WW{t:TypeId}{a:Addr}{v:AV}(hr:j5 P J β h w t (fun j=>w.cell? (a.add j)) v):∃ vc,(loadVar t a).run P w=.ok vc w/\Rep J β h w v vc:=by
 rcases hr with⟨d,C,D,u,k,G⟩|⟨d,C,D,us,k,G,L⟩
 ·refine⟨u,?_,G⟩
  have I:w.cell? a=some u:=by simpa[Addr.add]using k
  simp[loadVar,UI C,D,I]
 ·refine⟨_,?_,L⟩
  have T:=run_loadCells_list (P:=P) w a us G
  cases hq:P.info? t with
  |none=>simp[hq]at k
  |some i =>
   have hs:i.size=us.length:=by simpa[hq]using k
   simp[loadVar,Sem.run_bind,UI C,D,Go.sizeOf,typeInfo,hq,hs,T]
def Vg{t:TypeId}{cs:List Value}{off:Nat}{v:AV}(hr:j5 P J β h w t (fun j=>cs[off+j]?) v):∃ vc,(part t ⟨cs⟩ off).run P w=.ok vc w/\Rep J β h w v vc:=by
 rcases hr with⟨d,C,D,u,k,G⟩|⟨d,C,D,us,k,G,L⟩
 ·refine⟨u,?_,G⟩
  simp at k
  simp[part,UI C,D,k]
 ·refine⟨_,?_,L⟩
  cases hq:P.info? t with
  |none=>simp[hq]at k
  | some i =>
   have hs:i.size=us.length:=by simpa[hq]using k
   have:(⟨cs⟩:Array Value).extract off (off+us.length)=us.toArray:=by
    apply Azi
    simp
    apply List.ext_getElem?
    intro j
    rw[Azn,Ayw]
    split
    ·rename_i I
     rw[Axn I]
     exact G j _ (Axn I)
    ·rename_i I
     rw[Ayz (by omega)]
   simp only[part,Sem.run_bind,UI C,D,Go.sizeOf,typeInfo,run_program,Result.andThen_ok,hq,Sem.run_pure,hs,if_true,this]
end
end Gx
namespace Gx
open Go
section
variable{R:Type}{r:R}{P:Program}{J:Bool->Nat->Prop}{β:Ch}{h:Ay}{w:World}{g:A6}
def Nf{k:Nat}{cs:Array Value}{ty:TypeId}{fr:Nat×Nat}(C:w.heap[k]?=some (.cells cs ty fr))(i:Nat):w.cell? ⟨k,i,none⟩=cs[i]?:=by simp[World.cell?,C]
def Looks(g:A6)(h:Ay):Prop:=∀ b x,g b=some x->Am h b=some x
def Dr{b:Nat}{x:Blk}(C:Looks g h)(k:Gd g b=some x):Am h b=some x/\x.dead=false:=by
 unfold Gd at k
 obtain⟨y,D,k⟩:=ub k
 obtain⟨G,k⟩:=Ac2 k
 simp at k;subst k
 exact⟨C b _ D,G⟩
def wl{b off:Nat}{x:Blk}{v:Value}(S:SimH J β h w)(I:Am h b=some x)(L:x.dead=false)(hr:Rep J β h w (.optr b off) v):
  ∃ k o cs ty fr,β b=some (k,o)/\v=.pointer (some ⟨k,o+off,none⟩)/\w.heap[k]?=some (.cells cs ty fr) /\
  FrTy x.ty ty o cs.size fr/\o+x.cells.length<=cs.size/\CellsRep J β h w x (fun j=>cs[o+j]?) /\
  (x.sealed=false->∀ g,¬ J g k)/\(x.sealed=true->J x.taint k):=by
 rw[Rep]at hr
 obtain⟨y,k,o,⟨D,T⟩,Y,hr⟩:=hr
 rw[I]at D;simp at D;subst D
 rcases hr with hr|G
 ·simp[L]at hr
 ·rcases S.blk b x I L T with⟨hn,_⟩|⟨k',o',cs,ty,fr,C,h1,h2,h3,h4,h5,h6⟩
  ·rw[G]at hn;simp at hn
  ·rw[G]at C;simp at C;obtain⟨rfl,rfl⟩:=C
   exact⟨k,o,cs,ty,fr,G,Y,h1,h2,h3,h4,h5,h6⟩
def CellsRep.reads{t:TypeId}{x:Blk}{cs:Array Value}{o off:Nat}{k:AV->O R}(hc:CellsRep J β h w x (fun j=>cs[o+j]?))
  (hh:cond x.pure (QB P t (x.cells.drop off) x.taint k) (QC P t x.cells off k)=some r) :
  ∃ v,k v=some r/\j5 P J β h w t (fun j=>cs[o+off+j]?) v:=by
 cases C:x.pure with
|true =>
  rw[C]at hh
  have:=(hc.1 C).drop off
  obtain⟨v,D,G⟩:=Wk (β:=β) (h:=h) hh this
  exact⟨v,D,by simpa[Ay8]using G⟩
| false =>
  rw[C]at hh
  obtain⟨v,D,G⟩:=QJ (J:=J) (β:=β) (h:=h) (w:=w) (rd:=fun j=>cs[o+(off+j)]?) (bW hh) (fun j y I=>by
   rw[Ayw]at I
   obtain⟨u,L,hr,_⟩:=hc.2 C _ _ I
   exact⟨u,L,hr⟩)
  exact⟨v,D,by simpa[Ay8]using G⟩
def j7{t:TypeId}{p:AV}{vp:Value}{k:AV->O R}(S:SimH J β h w)(Y:Looks g h)(hh:nk P g t p k=some r)(C:Rep J β h w p vp):
  ∃ v vc,k v=some r/\(Instr.loadAt t vp).run P w=.ok vc w/\Rep J β h w v vc:=by
 unfold nk at hh
 split at hh
 ·rename_i c org
  rw[Rep,RepC]at C
  obtain⟨a,rfl,_,hc⟩:=C
  obtain⟨v,D,G⟩:=Wk (β:=β) (h:=h) hh hc
  obtain⟨vc,I,L⟩:=WW G
  exact⟨v,vc,D,by simp[Instr.loadAt,Instr.sureAddr,I],L⟩
 ·rename_i b off
  obtain⟨x,hx,hh⟩:=ub hh
  obtain⟨hb,hd⟩:=Dr Y hx
  obtain⟨kk,o,cs,ty,fr,hβ,rfl,hk,_,_,hc,_⟩:=wl S hb hd C
  obtain⟨v,D,G⟩:=hc.reads hh
  have T:j5 P J β h w t (fun j=>w.cell? ((⟨kk,o+off,none⟩:Addr).add j)) v:=by
   simpa only[Addr.add_mid,Nf hk]using G
  obtain⟨vc,I,L⟩:=WW T
  exact⟨v,vc,D,by simp[Instr.loadAt,Instr.sureAddr,I],L⟩
 ·simp at hh
def Ck{t:TypeId}{n:Nat}(hs:Bk P t=some n)(w:World):(Go.sizeOf t).run P w=.ok n w:=by
 unfold Bk at hs
 cases hq:P.info? t with
|none=>simp[hq]at hs
|some i=>simp[hq]at hs;simp[Go.sizeOf,typeInfo,hq,hs]
def Ua{i:Int}{n:Nat}(hi:Ac i n=true):0<=i/\i<(n:Int):=by simpa[Ac]using hi
def bX{J:Nat->Prop}{c:LA}{a:Addr}(hc:RepCs J w c (fun j=>w.cell? (a.add j)) 0)(n:Nat):RepCs J w (c.drop n) (fun j=>w.cell? ((a.add n).add j)) 0:=by
 have e:∀ j,(a.add n).add j=a.add (n+j):=fun j=>by
  unfold Addr.add
  by_cases k:n=0<;>by_cases C:j=0<;>simp[k,C,Ay8]
 simpa[e]using hc.drop n
def An0{b off n:Nat}{v:Value}(m:Nat)(hr:Rep J β h w (.own b off n) v)(hn:n≠0):
  ∃ k o cap,v=.slice (some ⟨k,o,none⟩) n cap/\Rep J β h w (.optr b (off+m)) (.pointer (some ⟨k,o+m,none⟩)):=by
 rw[Rep]at hr
 obtain⟨x,A,cap,C,rfl,D,hr⟩:=hr
 rcases hr with hr|⟨k,o,rfl,hr⟩
 ·omega
 ·refine⟨k,o+off,cap,rfl,?_⟩
  rw[Rep];exact⟨x,k,o,C,by rw[Ay8],hr.imp id (·.1)⟩
def WX{t k:TypeId}{kd:IntKind}{i:Int}{len cap sz:Nat}{a:Addr}(C:P.underlying t=some (.slice k))(hs:Bk P k=some sz)(D:Ac i len=true):
  (Instr.indexAt t (.slice (some a) len cap) (.int kd i)).run P w=.ok (.pointer (some (a.add (i.toNat*sz)))) w:=by
 obtain⟨G,I⟩:=Ua D
 simp[Instr.indexAt,asIntOf,run_underlying C,G,I,Ck hs]
def WY{t k:TypeId}{kd:IntKind}{i:Int}{len sz:Nat}{a:Addr}(C:P.underlying t=some (.array len k))(hs:Bk P k=some sz)(D:Ac i len=true):
  (Instr.indexAt t (.pointer (some a)) (.int kd i)).run P w=.ok (.pointer (some (a.add (i.toNat*sz)))) w:=by
 obtain⟨G,I⟩:=Ua D
 simp[Instr.indexAt,asIntOf,run_underlying C,G,I,Ck hs,Instr.sureAddr]
def gQ{t:TypeId}{x i:AV}{vx vi:Value}{k:AV->O R}(hh:T4 P t x i k=some r)(D:Rep J β h w x vx)(hi:Rep J β h w i vi):
  ∃ v vc,k v=some r/\(Instr.indexAt t vx vi).run P w=.ok vc w/\Rep J β h w v vc:=by
 unfold T4 at hh
 split at hh
 ·rename_i T c len sz tight org kd i G
  obtain⟨Y,hs,I⟩:=ub hh
  obtain⟨he,h2⟩:=uc I
  obtain⟨C,L⟩:=uc h2
  have he':Y=sz:=by simp at he;exact he.symm
  subst he'
  rw[Rep]at hi;subst hi
  rw[Rep,RepC]at D
  obtain⟨hlen,A,cap,rfl,hcap,_,hA⟩:=D
  rcases hA with hA|⟨a,rfl,hj,hc⟩
  ·have:=Ua C;omega
  refine⟨_,_,L,WX G hs C,?_⟩
  rw[Rep,RepC]
  exact⟨_,rfl,by rw[T9];exact hj,bX hc _⟩
 ·rename_i T b off len kd i G
  obtain⟨sz,hs,I⟩:=ub hh
  obtain⟨C,L⟩:=uc I
  rw[Rep]at hi;subst hi
  obtain⟨kk,o,cap,rfl,h4⟩:=An0 (i.toNat*sz) D (by have:=Ua C;omega)
  exact⟨_,_,L,WX G hs C,by rw[Addr.add_mid];exact h4⟩
 ·rename_i len T c org kd i G
  obtain⟨sz,hs,I⟩:=ub hh
  obtain⟨C,L⟩:=uc I
  rw[Rep]at hi;subst hi
  rw[Rep,RepC]at D
  obtain⟨a,rfl,hj,hc⟩:=D
  refine⟨_,_,L,WY G hs C,?_⟩
  rw[Rep,RepC]
  exact⟨_,rfl,by rw[T9];exact hj,bX hc _⟩
 ·rename_i len T b off kd i G
  obtain⟨sz,hs,I⟩:=ub hh
  obtain⟨C,L⟩:=uc I
  rw[Rep]at hi;subst hi
  rw[Rep]at D
  obtain⟨y,kk,o,hy,rfl,h4⟩:=D
  refine⟨_,_,L,WY G hs C,?_⟩
  rw[Rep,Addr.add_mid]
  exact⟨y,kk,o,hy,by rw[Ay8],h4⟩
 ·simp at hh
def bY{t:TypeId}{f:Nat}{p:Nat×TypeId}(k:nP P t f=some p):∃ fs fd,P.underlying t=some (.struct fs)/\fs[f]?=some fd/\fd.offset=p.1/\fd.type=p.2:=by
 unfold nP at k
 split at k
 ·rename_i fs C
  cases hq:fs[f]? with
  |none=>simp[hq]at k
  |some fd=>simp[hq]at k;subst k;exact⟨fs,fd,C,hq,rfl,rfl⟩
 ·simp at k
def gR{t:TypeId}{x:AV}{f:Nat}{vx:Value}{k:AV->O R}(hh:T5 P t x f k=some r)(C:Rep J β h w x vx):
  ∃ v vc,k v=some r/\(Instr.fieldAt t vx f).run P w=.ok vc w/\Rep J β h w v vc:=by
 unfold T5 at hh
 obtain⟨p,I,L⟩:=ub hh
 obtain⟨n,hn,T⟩:=ub L
 obtain⟨Y,D⟩:=Ac2 T
 obtain⟨fs,fd,hu,hf,ho,ht⟩:=bY I
 have G:n≠0:=by intro e;subst e;simp at Y
 have run:∀ a:Addr,(Instr.fieldAt t (.pointer (some a)) f).run P w=.ok (.pointer (some (a.add p.1))) w:=fun a=>by
  simp[Instr.fieldAt,run_underlying hu,hf,Instr.sureAddr,fieldPlace,ht,Ck hn,G,ho]
 split at D
 ·rw[Rep,RepC]at C
  obtain⟨a,rfl,hj,hc⟩:=C
  refine⟨_,_,D,run a,?_⟩
  rw[Rep,RepC]
  exact⟨_,rfl,by rw[T9];exact hj,bX hc _⟩
 ·rw[Rep]at C
  obtain⟨y,kk,o,hy,rfl,h4⟩:=C
  refine⟨_,_,D,run _,?_⟩
  rw[Rep,Addr.add_mid]
  exact⟨y,kk,o,hy,by rw[Ay8],h4⟩
 ·simp at D
def wm{t:TypeId}{x:AV}{f:Nat}{vx:Value}{k:AV->O R}(hh:gB P t x f k=some r)(C:Rep J β h w x vx):
  ∃ v vc,k v=some r/\(Instr.field t vx f).run P w=.ok vc w/\Rep J β h w v vc:=by
 unfold gB at hh
 obtain⟨p,hp,D⟩:=ub hh
 obtain⟨fs,fd,hu,hf,ho,ht⟩:=bY hp
 split at D
 ·rename_i c org
  rw[Rep]at C
  obtain⟨cs,rfl,hl,hc⟩:=C
  obtain⟨v,G,I⟩:=Wk (β:=β) (h:=h) D (hc.drop p.1)
  obtain⟨vc,L,T⟩:=Vg I
  exact⟨v,vc,G,by simp[Instr.field,run_underlying hu,hf,asAgg,ht,ho,L],T⟩
 ·rename_i c
  rw[Rep]at C
  obtain⟨cs,rfl,hc⟩:=C
  rw[Cb]at hc
  obtain⟨v,G,I⟩:=QJ (J:=J) (β:=β) (h:=h) (w:=w) (rd:=fun j=>cs[p.1+j]?) D (fun j y Y=>by
   rw[Ayw]at Y
   have:p.1+j<cs.length:=by
    rw[hc.1];exact(Axw.1 Y).1
   exact⟨cs[p.1+j],Axn this,hc.2 _ _ _ Y (Axn this)⟩)
  obtain⟨vc,L,T⟩:=Vg I
  exact⟨v,vc,G,by simp[Instr.field,run_underlying hu,hf,asAgg,ht,ho,L],T⟩
 ·simp at D
def wo{t:TypeId}{x i:AV}{vx vi:Value}{k:AV->O R}(hh:gC P t x i k=some r)(C:Rep J β h w x vx)(hi:Rep J β h w i vi):
  ∃ v vc,k v=some r/\(Instr.index t vx vi).run P w=.ok vc w/\Rep J β h w v vc:=by
 unfold gC at hh
 split at hh
 ·rename_i s kd i D
  obtain⟨G,I⟩:=uc hh
  obtain⟨L,Y⟩:=Ua G
  rw[Rep]at hi;rw[Rep]at C;subst hi C
  have T:i.toNat<s.length:=by omega
  refine⟨_,.int .u8 ((s.getD i.toNat 0).toNat:Int),I,?_,by rw[Rep]⟩
  have hg:(⟨⟨s⟩⟩:ByteArray)[i.toNat]?=some s[i.toNat]:=by
   have:i.toNat<(⟨⟨s⟩⟩:ByteArray).size:=T
   rw[getElem?_pos (⟨⟨s⟩⟩:ByteArray) i.toNat this];rfl
  simp only[Instr.index,asIntOf,Sem.run_bind,Sem.run_pure,Result.andThen_ok,run_underlying D,L,if_true,hg,Axu,Axn T,Option.getD_some]
 ·rename_i len el c org kd i D
  obtain⟨sz,hs,I⟩:=ub hh
  obtain⟨G,Y⟩:=uc I
  obtain⟨L,h3⟩:=Ua G
  rw[Rep]at hi;rw[Rep]at C;subst hi
  obtain⟨cs,rfl,hl,hc⟩:=C
  obtain⟨v,h4,h5⟩:=Wk (β:=β) (h:=h) Y (hc.drop (i.toNat*sz))
  obtain⟨vc,h6,h7⟩:=Vg h5
  exact⟨v,vc,h4,by simp[Instr.index,asIntOf,run_underlying D,L,h3,Ck hs,h6],h7⟩
 ·rename_i len el c kd i D
  obtain⟨sz,hs,I⟩:=ub hh
  obtain⟨G,Y⟩:=uc I
  obtain⟨L,h3⟩:=Ua G
  rw[Rep]at hi;rw[Rep]at C;subst hi
  obtain⟨cs,rfl,hc⟩:=C
  rw[Cb]at hc
  obtain⟨v,h4,h5⟩:=QJ (J:=J) (β:=β) (h:=h) (w:=w) (rd:=fun j=>cs[i.toNat*sz+j]?) (bW Y) (fun j y hj=>by
   rw[Ayw]at hj
   have:i.toNat*sz+j<cs.length:=by
    rw[hc.1];exact(Axw.1 hj).1
   exact⟨cs[i.toNat*sz+j],Axn this,hc.2 _ _ _ hj (Axn this)⟩)
  obtain⟨vc,h6,h7⟩:=Vg h5
  exact⟨v,vc,h4,by simp[Instr.index,asIntOf,run_underlying D,L,h3,Ck hs,h6],h7⟩
 ·simp at hh
def Xl(J:Bool->Nat->Prop)(β:Ch)(h:Ay)(w:World):Option AV->Option Value->Prop
|none,none=>True
|some x,some v=>Rep J β h w x v
|_,_=>False
def QK{o:Option AV}{vo:Option Value}{d:Nat}{i:Int}(C:bR o d=some i)(D:Xl J β h w o vo):
  (o=none/\vo=none/\i=d)\/∃ k,vo=some (.int k i):=by
 unfold bR at C
 split at C
 ·simp at C;subst C
  cases vo with
  |none=>exact .inl ⟨rfl,rfl,rfl⟩
  |some v=>simp[Xl]at D
 ·rename_i k j
  simp at C;subst C
  cases vo with
  |none=>simp[Xl]at D
  |some v=>rw[Xl,Rep]at D;subst D;exact .inr ⟨k,rfl⟩
 ·simp at C
def Vh{lo hi mx:Option AV}{vlo vhi vmx:Option Value}{n cap:Nat}{k:Nat->Nat->O R}{isSlice:Bool}(hh:Yx lo hi mx n k=some r)
  (T:Xl J β h w lo vlo)
  (G:Xl J β h w hi vhi)
  (I:Xl J β h w mx vmx) (hcap:n<=cap) :
  ∃ l D m,k l D=some r/\l<=D/\D<=n/\D<=m/\m<=cap/\(mx=none->m=cap)/\(∀ kd i,vmx=some (.int kd i)->(m:Int)=i)/\(∀ kd i,vhi=some (.int kd i)->(D:Int)=i)/\(hi=none->D=n) /\
   (Instr.sliceBounds isSlice n cap vlo vhi vmx).run P w=.ok (l,D,m) w:=by
 unfold Yx at hh
 obtain⟨l,h1,h2⟩:=ub hh
 obtain⟨C,h3,h4⟩:=ub h2
 obtain⟨m,h5,Y⟩:=ub h4
 obtain⟨hm,Y⟩:=Ac2 Y
 obtain⟨hc,h7⟩:=uc Y
 simp at hc hm
 obtain⟨c1,c2,c3,c4⟩:=hc
 have run:∀(kd:IntKind)(i:Int)(y:Nat)(code:BoundsCode),0<=i->i<=(y:Int)->(Instr.sliceBound (.int kd i) y code).run P w=.ok i.toNat w:=fun kd i y code a b=>by
  simp[Instr.sliceBound,asIntOf,a,b]
 have bl:=QK (J:=J) (β:=β) (h:=h) (w:=w) h1 T
 have bh:=QK (J:=J) (β:=β) (h:=h) (w:=w) h3 G
 have bm:=QK (J:=J) (β:=β) (h:=h) (w:=w) h5 I
 rcases bm with⟨rfl,rfl,rfl⟩|⟨km,rfl⟩
 ·refine⟨l.toNat,C.toNat,cap,h7,by omega,by omega,by omega,by omega,fun _=>rfl,by simp,?_,?_,?_⟩
  ·intro kd i L
   rcases bh with⟨_,rfl,_⟩|⟨kh,rfl⟩
   ·simp at L
   ·simp at L;omega
  ·intro hn
   rcases bh with⟨_,_,rfl⟩|⟨kh,rfl⟩
   ·simp
   ·subst hn;simp[Xl]at G
  ·rcases bh with⟨_,rfl,rfl⟩|⟨kh,rfl⟩<;>rcases bl with⟨_,rfl,rfl⟩|⟨kl,rfl⟩
   ·simp[Instr.sliceBounds]
   ·simp[Instr.sliceBounds,run _ l n _ c1 (by omega)]
   ·simp[Instr.sliceBounds,run _ C cap _ (by omega) (by omega)]
   ·simp[Instr.sliceBounds,run _ C cap _ (by omega) (by omega),run _ l C.toNat _ c1 (by omega)]
 ·rcases bh with⟨rfl,rfl,rfl⟩|⟨kh,rfl⟩
  ·have:mx.isSome=true:=by
    cases mx with
    |none=>simp[Xl]at I
    |some _=>rfl
   have:=hm this;simp at this
  ·refine⟨l.toNat,C.toNat,m.toNat,h7,by omega,by omega,by omega,by omega,?_,?_,?_,?_,?_⟩
   ·intro hn;subst hn;simp[Xl]at I
   ·intro kd i L;simp at L;omega
   ·intro kd i L;simp at L;omega
   ·intro hn;subst hn;simp[Xl]at G
   ·rcases bl with⟨_,rfl,rfl⟩|⟨kl,rfl⟩
    ·simp[Instr.sliceBounds,run _ m cap _ (by omega) (by omega),run _ C m.toNat _ (by omega) (by omega)]
    ·simp[Instr.sliceBounds,run _ m cap _ (by omega) (by omega),run _ C m.toNat _ (by omega) (by omega),run _ l C.toNat _ c1 (by omega)]
def wq {t:TypeId} {x:AV} {lo hi mx:Option AV} {vx:Value} {vlo vhi vmx:Option Value} {k:AV->O R} (S:SimH J β h w) (hl:Looks g h) (hh:gD P g t x lo hi mx k=some r)
  (Y:Rep J β h w x vx) (hlo:Xl J β h w lo vlo) (D:Xl J β h w hi vhi) (I:Xl J β h w mx vmx) :
  ∃ v vc,k v=some r/\(Instr.sliceAt t vx vlo vhi vmx).run P w=.ok vc w/\Rep J β h w v vc:=by
 unfold gD at hh
 split at hh
 ·rename_i s hu
  obtain⟨hm,h1⟩:=Ac2 hh
  have hmn:mx=none:=by cases mx<;>simp_all
  subst hmn
  have hv:vmx=none:=by cases vmx<;>simp_all[Xl]
  subst hv
  rw[Rep]at Y;subst Y
  obtain⟨l,C,m,h2,h3,h4,_,_,h5,_,_,_,h6⟩:=Vh (P:=P) (isSlice:=false) h1 hlo D (vmx:=none) (by simp[Xl]) (Axo _)
  refine⟨_,_,h2,?_,by rw[Rep]⟩
  have hs:(⟨⟨s⟩⟩:ByteArray).size=s.length:=rfl
  have he:(⟨⟨s⟩⟩:ByteArray).extract l C=⟨⟨(s.drop l).take (C - l)⟩⟩:=by
   apply ByteArray.ext
   rw[ByteArray.data_extract]
   simp
  simp[Instr.sliceAt,Instr.slice,run_underlying hu,hs,h6,he]
 ·rename_i el hu
  rw[Rep]at Y;subst Y
  obtain⟨sz,hs,hh⟩:=ub hh
  obtain⟨l,C,m,h2,h3,h4,h5,h6,_,_,_,_,h7⟩:=Vh (P:=P) (isSlice:=true) hh hlo D I (Axo _)
  have:l=0:=by omega
  have:C=0:=by omega
  have:m=0:=by omega
  subst l;subst C;subst m
  refine⟨_,.slice none 0 0,h2,?_,by rw[Rep]⟩
  simp[Instr.sliceAt,Instr.slice,run_underlying hu,h7,Ck hs]
 ·rename_i el c n sz tight org hu
  obtain⟨sz',hs,h1⟩:=ub hh
  obtain⟨he,h2⟩:=uc h1
  have he':sz'=sz:=by simp at he;exact he.symm
  subst he'
  rw[Rep,RepC]at Y
  obtain⟨hlen,A,cap,rfl,L,ht,hA⟩:=Y
  obtain⟨l,C,m,h3,h4,h5,h6,h7,h8,h9,h10,h11,h12⟩:=Vh (P:=P) (isSlice:=true) h2 hlo D I L
  refine⟨_,.slice (if m=l then A else A.map (·.add (l*sz'))) (C - l) (m - l),h3,?_,?_⟩
  ·simp[Instr.sliceAt,Instr.slice,run_underlying hu,h12,Ck hs]
  ·rw[Rep,RepC]
   refine⟨?_,_,_,rfl,by omega,?_,?_⟩
   ·simp;rw[hlen,<-Nat.sub_mul]
    exact Ayd (Axs _ (by omega))
   ·intro T
    unfold Af3 at T
    split at T
    ·have:=ht T
     have:=h8 rfl
     have:=h11 rfl
     omega
    ·rename_i ka a kb b
     cases vhi with
     |none=>simp[Xl]at D
     | some u1=>cases vmx with
      |none=>simp[Xl]at I
      |some u2 =>
       rw[Xl,Rep]at D I;subst D I
       have e1:=h10 _ _ rfl
       have e2:=h9 _ _ rfl
       simp at T
       omega
    ·simp at T
   ·by_cases hz:C - l=0
    ·exact .inl hz
    ·right
     rcases hA with hA|⟨a,rfl,hj,hc⟩
     ·omega
     ·refine⟨a.add (l*sz'),by rw[if_neg (by omega)];rfl,by rw[T9];exact hj,(bX hc _).take _⟩
 ·rename_i el b off n hu
  obtain⟨sz,hs,h1⟩:=ub hh
  obtain⟨y,hy,h2⟩:=ub h1
  obtain⟨he,h3⟩:=uc h2
  obtain⟨hb,hd⟩:=Dr hl hy
  have he':sz=y.sz:=by simpa using he
  rw[Rep]at Y
  obtain⟨x,A,cap,⟨G,hmp⟩,rfl,L,hr⟩:=Y
  rw[hb]at G;simp at G;subst G
  obtain⟨l,C,m,h4,h5,h6,h7,h8,_,_,_,_,h9⟩:=Vh (P:=P) (isSlice:=true) h3 hlo D I L
  refine⟨_,.slice (if m=l then A else A.map (·.add (l*sz))) (C - l) (m - l),h4,?_,?_⟩
  ·simp[Instr.sliceAt,Instr.slice,run_underlying hu,h9,Ck hs]
  ·rw[Rep]
   refine⟨y,_,_,⟨hb,hmp⟩,rfl,by omega,?_⟩
   by_cases hz:m - l=0
   ·exact .inl hz
   ·right
    rcases hr with hr|⟨kk,o,rfl,hr⟩
    ·omega
    ·refine⟨kk,o,by rw[if_neg (by omega)];simp[Addr.add_mid,Ay8],?_⟩
     rcases hr with hr|⟨r1,r2,r3⟩
     ·simp[hd]at hr
     ·refine .inr ⟨r1,?_,?_⟩
      ·have:l*sz+(m - l)*y.sz<=cap*y.sz:=by
        rw[he',<-Ax2];exact Axs _ (by omega)
       omega
      ·have:l*sz+(C - l)*y.sz<=n*y.sz:=by
        rw[he',<-Ax2];exact Axs _ (by omega)
       omega
 ·rename_i n el b off hu
  obtain⟨sz,hs,h1⟩:=ub hh
  obtain⟨y,hy,h2⟩:=ub h1
  obtain⟨he,h3⟩:=uc h2
  simp at he
  obtain⟨e1,e2,e3,e4,e5⟩:=he
  subst e3;subst e4;subst e5
  obtain⟨hb,hd⟩:=Dr hl hy
  have nlo:vlo=none:=by cases vlo<;>simp_all[Xl]
  have nhi:vhi=none:=by cases vhi<;>simp_all[Xl]
  have nmx:vmx=none:=by cases vmx<;>simp_all[Xl]
  subst nlo;subst nhi;subst nmx
  rw[Rep]at Y
  obtain⟨x,kk,o,⟨G,hmp⟩,rfl,hr⟩:=Y
  rw[hb]at G;simp at G;subst G
  refine⟨_,.slice (some ⟨kk,o+off,none⟩) n n,h3,?_,?_⟩
  ·have e1:(Addr.add ⟨kk,o+off,none⟩ 0)=⟨kk,o+off,none⟩:=rfl
   simp[Instr.sliceAt,Instr.sureAddr,run_underlying hu,Instr.sliceBounds,Ck hs,e1]
  ·rw[Rep]
   refine⟨y,_,_,⟨hb,hmp⟩,rfl,Axo _,.inr ⟨kk,o,rfl,?_⟩⟩
   rcases hr with hr|hr
   ·exact .inl hr
   ·rcases S.blk b y hb hd hmp with⟨hn',_⟩|⟨k',o',cs,ty',fr,hβ',g1,g2,g3,_⟩
    ·rw[hr]at hn';simp at hn'
    ·rw[hr]at hβ';simp at hβ';obtain⟨rfl,rfl⟩:=hβ'
     refine .inr ⟨hr,?_,?_⟩
     ·rw[e1,show A1 w kk=cs.size by simp[A1,g1]];omega
     ·rw[e1];omega
 ·simp at hh
def Ada{t:TypeId}{x v:AV}{vx:Value}{ty:TypeId}(hh:Aqp P t x=some v)(C:Rep J β h w x vx):
  ∃ vc,(Builtin.len_ #[t] ty #[vx]).run P w=.ok vc w/\Rep J β h w v vc:=by
 unfold Aqp at hh
 split at hh
 ·rename_i k
  simp at hh;subst hh;rw[Rep]at C;subst C
  exact⟨.int .i64 0,by simp[Builtin.len_,run_underlying k,goInt],by rw[Rep]⟩
 ·rename_i n _ _ _ k
  simp at hh;subst hh;rw[Rep,RepC]at C
  obtain⟨_,A,cap,rfl,_⟩:=C
  exact⟨.int .i64 n,by simp[Builtin.len_,run_underlying k,goInt],by rw[Rep]⟩
 ·rename_i n k
  simp at hh;subst hh;rw[Rep]at C
  obtain⟨_,A,cap,_,rfl,_⟩:=C
  exact⟨.int .i64 n,by simp[Builtin.len_,run_underlying k,goInt],by rw[Rep]⟩
 ·rename_i s k
  simp at hh;subst hh;rw[Rep]at C;subst C
  refine⟨.int .i64 s.length,?_,by rw[Rep]⟩
  have hs:(⟨⟨s⟩⟩:ByteArray).size=s.length:=rfl
  simp[Builtin.len_,run_underlying k,goInt,hs]
 ·rename_i n _ k
  simp at hh;subst hh
  exact⟨.int .i64 n,by simp[Builtin.len_,run_underlying k,goInt],by rw[Rep]⟩
 ·simp at hh
def bZ{J:Nat->Prop}:∀{x:AV}{u:Value},RepC J w x u->u.oneCell'=true
|.int ..,_,hr=>by rw[RepC]at hr;subst hr;rfl
|.bool _,_,hr=>by rw[RepC]at hr;subst hr;rfl
|.str _,_,hr=>by rw[RepC]at hr;subst hr;rfl
|.nsl,_,hr=>by rw[RepC]at hr;subst hr;rfl
|.imm ..,_,hr=>by rw[RepC]at hr;obtain⟨_,A,cap,rfl,_⟩:=hr;rfl
|.iptr ..,_,hr=>by rw[RepC]at hr;obtain⟨a,rfl,_⟩:=hr;rfl
|.nilptr,_,hr=>by rw[RepC]at hr;subst hr;rfl
|.nilfn,_,hr=>by rw[RepC]at hr;subst hr;rfl
|.fn _ [],_,hr=>by rw[RepC]at hr;subst hr;rfl
|.fn _ (_::_),_,hr=>by simp[RepC]at hr
|.pagg ..,_,hr=>by simp[RepC]at hr
|.agg _,_,hr=>by simp[RepC]at hr
|.tup _,_,hr=>by simp[RepC]at hr
|.own ..,_,hr=>by simp[RepC]at hr
|.optr ..,_,hr=>by simp[RepC]at hr
|.undef,_,hr=>by simp[RepC]at hr
|.omap _,_,hr=>by simp[RepC]at hr
def RepCs.one{J:Nat->Prop}{c:LA}{us:List Value}(hc:RepCs J w c (fun j=>us[j]?) 0)(I:us.length=c.length):∀ u∈us,u.oneCell'=true:=by
 intro u D
 obtain⟨j,G,rfl⟩:=Azc D
 have C:j<c.length:=by omega
 obtain⟨L,k,hr⟩:=hc.at (Axn C)
 simp[Axn G]at k
 rw[k];exact bZ hr
structure Yield(P:Program)(w:World)(sz:Nat)(vx:Value)(n:Nat)(us:List Value):Prop where
 len:∀ w':World,(Builtin.lenOf vx).run P w'=.ok n w'
 cells:∀(w':World)(m:Nat),(∀ a,w'.cell? a=w.cell? a)->m<=n->(Builtin.firstCells sz m vx).run P w'=.ok (us.take (m*sz)).toArray w'
 length:us.length=n*sz
def j8{sz:Nat}{x:AV}{vx:Value}{q:LA×Nat×Bool}(S:SimH J β h w)(hl:Looks g h)(hh:uH g sz x=some q)(G:Rep J β h w x vx):
  ∃ us:List Value,Yield P w sz vx q.2.1 us/\q.1.length=us.length/\RepCs (J q.2.2) w q.1 (fun j=>us[j]?) 0:=by
 have ofSlice:∀(a:Addr)(n cap:Nat)(us:List Value),us.length=n*sz->(∀ j u,us[j]?=some u->w.cell? (a.add j)=some u)->Yield P w sz (.slice (some a) n cap) n us:=fun a n cap us C hu =>
  ⟨fun _=>rfl,fun w' m D hm=>by
   have hle:m*sz<=n*sz:=Axs _ hm
   refine run_firstCells_some (P:=P) w' sz m a n cap (us.take (m*sz)) (by simp;omega) (fun j v hv=>?_)
   rw[D]
   rw[Azn]at hv
   split at hv
   ·exact hu j v hv
   ·simp at hv,C⟩
 have ofEmpty:∀(A:Option Addr)(cap:Nat),Yield P w sz (.slice A 0 cap) 0 []:=fun A cap =>
  ⟨fun _=>rfl,fun w' m D hm=>by
   have:m=0:=by omega
   subst this
   cases A with
   |none=>simp[run_firstCells_none]
   | some a=>have:=run_firstCells_some (P:=P) w' sz 0 a 0 cap [] (by simp) (fun j v hv=>by simp at hv);simpa using this,by simp⟩
 unfold uH at hh
 split at hh
 ·simp at hh;subst hh;rw[Rep]at G;subst G
  exact⟨[],ofEmpty _ _,rfl,by simp[RepCs]⟩
 ·rename_i c n sz' tight org
  obtain⟨D,L⟩:=uc hh
  have he':sz'=sz:=by simp at D;exact D.symm
  subst he'
  simp at L;subst L
  rw[Rep,RepC]at G
  obtain⟨C,A,cap,rfl,hcap,ht,hA⟩:=G
  rcases hA with rfl|⟨a,rfl,hj,hc⟩
  ·have:c=[]:=by simpa using C
   subst this
   exact⟨[],ofEmpty _ _,rfl,by simp[RepCs]⟩
  ·obtain⟨us,I,h3,h4⟩:=hc.list
   exact⟨us,ofSlice a n cap us (by rw[I,C]) h3,I.symm,h4⟩
 ·rename_i b off n
  obtain⟨y,hy,L⟩:=ub hh
  obtain⟨D,I⟩:=uc L
  obtain⟨hb,hd⟩:=Dr hl hy
  simp at D I
  obtain⟨hp,D⟩:=D
  subst I;subst D
  rw[Rep]at G
  obtain⟨x,A,cap,⟨T,hmp⟩,rfl,hcap,hr⟩:=G
  rw[hb]at T;simp at T;subst T
  rcases hr with hr|⟨kk,o,rfl,hr⟩
  ·have:n=0:=by omega
   subst this
   exact⟨[],ofEmpty _ _,by simp,by simp[RepCs]⟩
  ·rcases hr with hr|⟨r1,r2,r3⟩
   ·simp[hd]at hr
   ·rcases S.blk b y hb hd hmp with⟨hn,_⟩|⟨k',o',cs,ty,fr,Y,g1,g2,g3,g4,g5,g6⟩
    ·rw[r1]at hn;simp at hn
    ·rw[r1]at Y;simp at Y;obtain⟨rfl,rfl⟩:=Y
     obtain⟨us,I,h3,h4⟩:=(((g4.1 hp).drop off).take (n*y.sz)).list
     have C:us.length=n*y.sz:=by rw[I];simp;omega
     refine⟨us,ofSlice _ n cap us C (fun j u hj=>?_),I.symm,h4⟩
     have:=h3 j u hj
     rw[Addr.add_mid,Nf g1,Ay8];exact this
 ·rename_i s
  obtain⟨D,L⟩:=uc hh
  simp at D L
  subst D;subst L
  rw[Rep]at G;subst G
  refine⟨s.map fun b=>.int .u8 (b.toNat:Int),⟨fun _=>rfl,fun w' m _ hm=>?_,by simp⟩,by simp,?_⟩
  ·simp[Builtin.firstCells]
  ·rw[By]
   intro j x hj
   simp at hj
   obtain⟨b,hb,rfl⟩:=hj
   exact⟨_,by simp[hb];rfl,by rw[RepC]⟩
 ·simp at hh
def JX{G:TypeId}{sz:Nat}{x:AV}{vx:Value}{k:LA×Nat×Bool->O R}(S:SimH J β h w)(I:Looks g h)(hh:YM P G g sz x k=some r)(L:Rep J β h w x vx):
  ∃(q:LA×Nat×Bool)(us:List Value),k q=some r/\Yield P w sz vx q.2.1 us/\q.1.length=us.length/\RepCs (J q.2.2) w q.1 (fun j=>us[j]?) 0:=by
 unfold YM at hh
 obtain⟨q,hq,T⟩:=ub hh
 obtain⟨us,Y,C,D⟩:=j8 (P:=P) S I hq L
 obtain⟨o,h2,h3⟩:=WV T D
 exact⟨_,us,h2,Y,C,h3⟩
end
end Gx
namespace Gx
open Go
def PL{a b:Nat}(h:a≠b):beq a b=false:=by
 cases k:beq a b with
|false=>rfl
|true=>exact absurd (Axy k) h
def X1{a b:Nat}(h:beq a b=false):a≠b:=fun e=>by subst e;rw[A4s]at h;cases h
def Ah:∀(h:Ay)(b:Nat)(y:Blk)(c:Nat),Am (Fp h b y) c=if c=b then some y else Am h c
| [],b,y,c=>by
  by_cases e:c=b
  ·subst e;simp[Fp,Am]
  ·have:beq b c=false:=PL (fun e'=>e e'.symm)
   simp[Fp,Am,e,this]
| (i,x)::r,b,y,c=>by
  rw[Fp]
  cases D:beq i b with
  | true =>
   have k:i=b:=by simpa using D
   subst k
   by_cases e:c=i
   ·subst e;simp[Am]
   ·have:beq i c=false:=PL (fun e'=>e e'.symm)
    simp[Am,e,this]
  | false =>
   have k:i≠b:=X1 D
   cases I:Nat.blt b i with
   | true =>
    by_cases e:c=b
    ·subst e;simp[Am]
    ·have:beq b c=false:=PL (fun e'=>e e'.symm)
     simp[Am,e,this]
   | false =>
    simp only[cond_false]
    rw[Am]
    cases G:beq i c with
    |true =>
     have C:i=c:=by simpa using G
     subst C
     simp[Am,k]
    |false=>simp[Am,G,Ah r b y c]
def L5:∀(h:G7)(b:Nat)(y:AV)(c:Nat),Gc (QA h b y) c=if c=b then y else Gc h c
| [],b,y,c=>by
  by_cases e:c=b
  ·subst e;simp[QA,Gc]
  ·have:beq b c=false:=PL (fun e'=>e e'.symm)
   simp[QA,Gc,e,this]
| (i,x)::r,b,y,c=>by
  rw[QA]
  cases D:beq i b with
  | true =>
   have k:i=b:=by simpa using D
   subst k
   by_cases e:c=i
   ·subst e;simp[Gc]
   ·have:beq i c=false:=PL (fun e'=>e e'.symm)
    simp[Gc,e,this]
  | false =>
   have k:i≠b:=X1 D
   cases I:Nat.blt b i with
   | true =>
    by_cases e:c=b
    ·subst e;simp[Gc]
    ·have:beq b c=false:=PL (fun e'=>e e'.symm)
     simp[Gc,e,this]
   | false =>
    simp only[cond_false]
    rw[Gc]
    cases G:beq i c with
    |true =>
     have C:i=c:=by simpa using G
     subst C
     simp[Gc,k]
    |false=>simp[Gc,G,L5 r b y c]
def zX(β:Ch)(h:Ay)(k:Nat):Prop:=∃ b x o,Am h b=some x/\x.dead=false/\x.sealed=false/\β b=some (k,o)
structure Step(J:Bool->Nat->Prop)(β:Ch)(h:Ay)(w:World)(J':Bool->Nat->Prop)(β':Ch)(h':Ay)(w':World):Prop where
 ext:Ext J β h w J' β' h' w'
 sim:SimH J' β' h' w'
 os:w'.os=w.os
 tape:w'.tape=w.tape
 output:w'.output=w.output
 size:w.heap.size<=w'.heap.size
 frame:∀ k,k<w.heap.size->¬ zX β h k->w'.heap[k]?=w.heap[k]?
 wr:∀ k,zX β' h' k->k<w.heap.size->zX β h k
 jup:∀ o k,J' o k->J o k\/zX β h k\/w.heap.size<=k
section
variable{J J' J'':Bool->Nat->Prop}{β β' β'':Ch}{h h' h'':Ay}{w w' w'':World}
def Ext.refl:Ext J β h w J β h w:=⟨fun _ _ k=>k,fun _ _ _=>rfl,fun b x C=>⟨x,⟨C,rfl⟩,by cases D:x.dead<;>simp⟩,fun _ _ _ _=>Axo _⟩
def Ext.trans(A:Ext J β h w J' β' h' w')(B:Ext J' β' h' w' J'' β'' h'' w'')(hs:∀ b k o,β b=some (k,o)->A1 w k<=A1 w'' k):Ext J β h w J'' β'' h'' w'' where
 jsub o k D:=B.jsub o k (A.jsub o k D)
 keep o k D:=(B.keep o k (A.jsub o k D)).trans (A.keep o k D)
 blk b x L:=by
  obtain⟨x',⟨T,m1⟩,G⟩:=A.blk b x L
  obtain⟨x'',⟨Y,m3⟩,C⟩:=B.blk b x' T
  refine⟨x'',⟨Y,m3.trans m1⟩,?_⟩
  rcases C with C|⟨C,h5,h6,h7⟩
  ·exact .inl C
  ·rcases G with G|⟨g1,g2,g3,g4⟩
   ·simp[C]at G
   ·exact .inr ⟨g1,h5.trans g2,h6.trans g3,fun I=>(h7 (m1.trans I)).trans (g4 I)⟩
 size:=hs
def Step.refl(S:SimH J β h w):Step J β h w J β h w:=⟨Ext.refl,S,rfl,rfl,rfl,Axo _,fun _ _ _=>rfl,fun _ k _=>k,fun _ _ C=>.inl C⟩
def Step.trans(A:Step J β h w J' β' h' w')(B:Step J' β' h' w' J'' β'' h'' w'')(hs:∀ b k o,β b=some (k,o)->A1 w k<=A1 w'' k):Step J β h w J'' β'' h'' w'' where
 ext:=A.ext.trans B.ext hs
 sim:=B.sim
 os:=B.os.trans A.os
 tape:=B.tape.trans A.tape
 output:=B.output.trans A.output
 size:=Ay7 A.size B.size
 frame k C G:=(B.frame k (Ax9 C A.size) (fun I=>G (A.wr k I C))).trans (A.frame k C G)
 wr k G C:=A.wr k (B.wr k G (Ax9 C A.size)) C
 jup o k L:=by
  rcases B.jup o k L with D|D|D
  ·exact A.jup o k D
  ·by_cases C:k<w.heap.size
   ·exact .inr (.inl (A.wr k D C))
   ·exact .inr (.inr (by omega))
  ·exact .inr (.inr (Ay7 A.size D))
def CellsRep.ext(E:Ext J β h w J' β' h' w'){x:Blk}{rd:Nat->Option Value}(hc:CellsRep J β h w x rd):CellsRep J' β' h' w' x rd :=
 ⟨fun k=>RepCs.keep (E.jsub _) (E.keep _) (fun _=>rfl) (hc.1 k),fun k j c C=>by
  obtain⟨u,D,G,I⟩:=hc.2 k j c C
  exact⟨u,D,Rep.ext E G,I⟩⟩
def D3{k:Nat}{cs:Array Value}{ty:TypeId}{fr:Nat×Nat}(C:w.heap[k]?=some (.cells cs ty fr)):A1 w k=cs.size:=by simp[A1,C]
def Yy{k:Nat}{o:Obj}(G:w.heap[k]?=some o):k<w.heap.size:=by
 rcases A2o k w.heap.size with C|D
 ·exact C
 ·rw[Azm D]at G;cases G
def MapRep.keep{b:Nat}{x:Blk}(M:MapRep J β w b x)(D:β' b=β b)(G:∀ k o,β b=some (k,o)->w'.heap[k]?=w.heap[k]?)(I:∀ g k o,β b=some (k,o)->J' g k->J g k):MapRep J' β' w' b x:=by
 obtain⟨L,T,k,ob,C,Y,h5,h6⟩:=M
 exact⟨L,T,k,ob,by rw[D];exact C,by rw[G k 0 C];exact Y,h5,fun g hg=>h6 g (I g k 0 C hg)⟩
def Step.drew(S:SimH J β h w):Step J β h w J β h w.drew where
 ext:=⟨fun _ _ C=>C,fun _ _ _=>rfl,fun b x D=>⟨x,⟨D,rfl⟩,by cases G:x.dead<;>simp⟩,fun _ _ _ _=>Axo _⟩
 sim:=by
  have E:Ext J β h w J β h w.drew:=⟨fun _ _ C=>C,fun _ _ _=>rfl,fun b x D=>⟨x,⟨D,rfl⟩,by cases G:x.dead<;>simp⟩,fun _ _ _ _=>Axo _⟩
  refine⟨S.jlt,S.jft,S.gl.ext E,fun b x D G I=>?_,fun b x D G I=>(S.mblk b x D G I).keep rfl (fun _ _ _=>rfl) (fun _ _ _ _ C=>C),S.sep⟩
  rcases S.blk b x D G I with L|⟨k,o,cs,ty,fr,L,T,Y,h4,h5,h6⟩
  ·exact .inl L
  ·exact .inr ⟨k,o,cs,ty,fr,L,T,Y,h4,h5.ext E,h6⟩
 os:=rfl
 tape:=rfl
 output:=rfl
 size:=Axo _
 frame _ _ _:=rfl
 wr _ I _:=I
 jup _ _ C:=.inl C
def Dw(w:World)(o:Obj){k:Nat}(C:k<w.heap.size):(w.alloc o).heap[k]?=w.heap[k]?:=by
 show(w.heap.push o)[k]?=_
 rw[Array.getElem?_push,if_neg (by omega)]
def Ub(S:SimH J β h w){b:Nat}{x:Blk}{k o:Nat}(I:Am h b=some x)(L:x.dead=false)(D:β b=some (k,o)):k<w.heap.size:=by
 cases T:x.mp with
|false =>
  rcases S.blk b x I L T with⟨hn,_⟩|⟨Y,o',cs,ty,fr,C,G,_⟩
  ·rw[D]at hn;simp at hn
  ·rw[D]at C;simp at C;obtain⟨rfl,rfl⟩:=C;exact Yy G
|true =>
  obtain⟨_,_,Y,ob,C,G,_⟩:=S.mblk b x I L T
  rw[D]at C;simp at C;obtain⟨rfl,_⟩:=C;exact Yy G
def Step.new(S:SimH J β h w){d:Nat}{x:Blk}{cs:Array Value}{ty:TypeId}{fr:Nat×Nat}(hn:Am h d=none)(hxd:x.dead=false)(hxs:x.sealed=false)
  (hfr:FrTy x.ty ty 0 cs.size fr) (hlen:x.cells.length<=cs.size) (hc:CellsRep J β h w x (fun j=>cs[j]?)) (hxm:x.mp=false:=by rfl) :
  Step J β h w J (fun b=>if b=d then some (w.heap.size,0)else β b) (Fp h d x) (w.alloc (.cells cs ty fr)):=by
 have ne:∀{b y},Am h b=some y->b≠d:=fun C e=>by subst e;rw[hn]at C;cases C
 have E:Ext J β h w J (fun b=>if b=d then some (w.heap.size,0)else β b) (Fp h d x) (w.alloc (.cells cs ty fr)):=by
  refine⟨fun _ _ G=>G,fun o k G=>Dw w _ (S.jlt o k G),fun b y C=>⟨y,⟨by rw[Ah,if_neg (ne C)];exact C,rfl⟩,?_⟩,fun b k o D=>?_⟩
  ·cases T:y.dead
   ·exact .inr ⟨rfl,by simp[ne C],rfl,fun _=>rfl⟩
   ·exact .inl rfl
  ·by_cases Y:k<w.heap.size
   ·simp[A1,Dw w _ Y]
   ·simp[A1,Azm (Az9 Y)]
 have hnew:(w.alloc (.cells cs ty fr)).heap[w.heap.size]?=some (.cells cs ty fr):=by
  show(w.heap.push _)[_]?=_;simp
 have hsz:(w.alloc (.cells cs ty fr)).heap.size=w.heap.size+1:=by show(w.heap.push _).size=_;simp
 refine⟨E,⟨fun o k G=>by have:=S.jlt o k G;omega,S.jft,S.gl.ext E,fun b y C T hm=>?_,fun b y C T hm=>by
   rw[Ah]at C
   by_cases e:b=d
   ·rw[if_pos e]at C;simp at C;subst C;simp[hxm]at hm
   ·rw[if_neg e]at C
    exact(S.mblk b y C T hm).keep (by simp[e]) (fun k o D=>Dw w _ (Ub S C T D)) (fun _ _ _ _ G=>G),?_⟩,rfl,rfl,rfl,by omega,fun k Y _=>Dw w _ Y,?_,fun _ _ G=>.inl G⟩
 ·rw[Ah]at C
  by_cases e:b=d
  ·subst e;simp at C;subst C
   exact .inr ⟨w.heap.size,0,cs,ty,fr,by simp,hnew,hfr,by omega,by simpa using hc.ext E,fun _ g G=>by have:=S.jlt g _ G;omega,fun hs=>by simp[hxs]at hs⟩
  ·rw[if_neg e]at C
   rcases S.blk b y C T hm with h1|⟨k,o,cs',ty',fr',h1,h2,h3,h4,h5,h6⟩
   ·exact .inl ⟨by simp[e,h1.1],h1.2⟩
   ·exact .inr ⟨k,o,cs',ty',fr',by simp[e,h1],by rw[Dw w _ (Yy h2)];exact h2,h3,h4,h5.ext E,h6⟩
 ·intro b b' y y' k o o' C I T hd' hs D L
  rw[Ah]at C I
  by_cases e:b=d<;>by_cases e':b'=d
  ·rw[e,e']
  ·rw[if_neg e']at I
   simp[e]at D;simp[e']at L
   have:=Ub S I hd' L;omega
  ·rw[if_neg e]at C
   simp[e']at L;simp[e]at D
   have:=Ub S C T D;omega
  ·rw[if_neg e]at C;rw[if_neg e']at I
   simp[e]at D;simp[e']at L
   exact S.sep b b' y y' k o o' C I T hd' hs D L
 ·rintro k ⟨b,y,o,C,T,hs,D⟩ Y
  rw[Ah]at C
  by_cases e:b=d
  ·simp[e]at D;omega
  ·rw[if_neg e]at C;simp[e]at D
   exact⟨b,y,o,C,T,hs,D⟩
def Step.newNone(S:SimH J β h w){d:Nat}{x:Blk}(hn:Am h d=none)(hc:x.cells=[])(hxm:x.mp=false:=by rfl):
  Step J β h w J (fun b=>if b=d then none else β b) (Fp h d x) w:=by
 have ne:∀{b y},Am h b=some y->b≠d:=fun C e=>by subst e;rw[hn]at C;cases C
 have E:Ext J β h w J (fun b=>if b=d then none else β b) (Fp h d x) w:=by
  refine⟨fun _ _ T=>T,fun o k T=>rfl,fun b y C=>⟨y,⟨by rw[Ah,if_neg (ne C)];exact C,rfl⟩,?_⟩,fun b k o D=>Axo _⟩
  cases G:y.dead
  ·exact .inr ⟨rfl,by simp[ne C],rfl,fun _=>rfl⟩
  ·exact .inl rfl
 refine⟨E,⟨S.jlt,S.jft,S.gl.ext E,fun b y C G Y=>?_,fun b y C G Y=>by
   rw[Ah]at C
   by_cases e:b=d
   ·rw[if_pos e]at C;simp at C;subst C;simp[hxm]at Y
   ·rw[if_neg e]at C
    exact(S.mblk b y C G Y).keep (by simp[e]) (fun k o D=>rfl) (fun _ _ _ _ T=>T),?_⟩,rfl,rfl,rfl,Axo _,fun k hk _=>rfl,?_,fun _ _ T=>.inl T⟩
 ·rw[Ah]at C
  by_cases e:b=d
  ·subst e;simp at C;subst C
   exact .inl ⟨by simp,hc⟩
  ·rw[if_neg e]at C
   rcases S.blk b y C G Y with h1|⟨k,o,cs',ty',fr',h1,h2,h3,h4,h5,h6⟩
   ·exact .inl ⟨by simp[e,h1.1],h1.2⟩
   ·exact .inr ⟨k,o,cs',ty',fr',by simp[e,h1],h2,h3,h4,h5.ext E,h6⟩
 ·intro b b' y y' k o o' C I G hd' hs D L
  rw[Ah]at C I
  by_cases e:b=d
  ·simp[e]at D
  ·by_cases e':b'=d
   ·simp[e']at L
   ·rw[if_neg e]at C;rw[if_neg e']at I
    simp[e]at D;simp[e']at L
    exact S.sep b b' y y' k o o' C I G hd' hs D L
 ·rintro k ⟨b,y,o,C,G,hs,D⟩ hk
  rw[Ah]at C
  by_cases e:b=d
  ·simp[e]at D
  ·rw[if_neg e]at C;simp[e]at D
   exact⟨b,y,o,C,G,hs,D⟩
def Step.newObj(S:SimH J β h w){d:Nat}{x:Blk}{ob:Obj}(hn:Am h d=none)(hxd:x.dead=false)(hxs:x.sealed=false)(hxp:x.pure=true)(hxc:ObjIs x ob)(hxm:x.mp=true):
  Step J β h w J (fun b=>if b=d then some (w.heap.size,0)else β b) (Fp h d x) (w.alloc ob):=by
 have ne:∀{b y},Am h b=some y->b≠d:=fun C e=>by subst e;rw[hn]at C;cases C
 have E:Ext J β h w J (fun b=>if b=d then some (w.heap.size,0)else β b) (Fp h d x) (w.alloc ob):=by
  refine⟨fun _ _ G=>G,fun o k G=>Dw w _ (S.jlt o k G),fun b y C=>⟨y,⟨by rw[Ah,if_neg (ne C)];exact C,rfl⟩,?_⟩,fun b k o D=>?_⟩
  ·cases T:y.dead
   ·exact .inr ⟨rfl,by simp[ne C],rfl,fun _=>rfl⟩
   ·exact .inl rfl
  ·by_cases Y:k<w.heap.size
   ·simp[A1,Dw w _ Y]
   ·simp[A1,Azm (Az9 Y)]
 have hnew:(w.alloc ob).heap[w.heap.size]?=some ob:=by
  show(w.heap.push _)[_]?=_;simp
 have hsz:(w.alloc ob).heap.size=w.heap.size+1:=by show(w.heap.push _).size=_;simp
 refine⟨E,⟨fun o k G=>by have:=S.jlt o k G;omega,S.jft,S.gl.ext E,fun b y C T hm=>?_,fun b y C T hm=>?_,?_⟩,rfl,rfl,rfl,by omega,fun k Y _=>Dw w _ Y,?_,fun _ _ G=>.inl G⟩
 ·rw[Ah]at C
  by_cases e:b=d
  ·rw[if_pos e]at C;simp at C;subst C;simp[hxm]at hm
  ·rw[if_neg e]at C
   rcases S.blk b y C T hm with h1|⟨k,o,cs',ty',fr',h1,h2,h3,h4,h5,h6⟩
   ·exact .inl ⟨by simp[e,h1.1],h1.2⟩
   ·exact .inr ⟨k,o,cs',ty',fr',by simp[e,h1],by rw[Dw w _ (Yy h2)];exact h2,h3,h4,h5.ext E,h6⟩
 ·rw[Ah]at C
  by_cases e:b=d
  ·rw[if_pos e]at C;simp at C;subst C
   exact⟨hxp,hxs,w.heap.size,ob,by simp[e],hnew,hxc,fun g G=>by have:=S.jlt g _ G;omega⟩
  ·rw[if_neg e]at C
   exact(S.mblk b y C T hm).keep (by simp[e]) (fun k o D=>Dw w _ (Ub S C T D)) (fun _ _ _ _ G=>G)
 ·intro b b' y y' k o o' C I T hd' hs D L
  rw[Ah]at C I
  by_cases e:b=d<;>by_cases e':b'=d
  ·rw[e,e']
  ·rw[if_neg e']at I
   simp[e]at D;simp[e']at L
   have:=Ub S I hd' L;omega
  ·rw[if_neg e]at C
   simp[e']at L;simp[e]at D
   have:=Ub S C T D;omega
  ·rw[if_neg e]at C;rw[if_neg e']at I
   simp[e]at D;simp[e']at L
   exact S.sep b b' y y' k o o' C I T hd' hs D L
 ·rintro k ⟨b,y,o,C,T,hs,D⟩ Y
  rw[Ah]at C
  by_cases e:b=d
  ·simp[e]at D;omega
  ·rw[if_neg e]at C;simp[e]at D
   exact⟨b,y,o,C,T,hs,D⟩
def Step.kill(S:SimH J β h w){d:Nat}{x y:Blk}(hx:Am h d=some x)(I:y.dead=true)(hym:y.mp=x.mp:=by rfl):Step J β h w J β (Fp h d y) w:=by
 have E:Ext J β h w J β (Fp h d y) w:=by
  refine⟨fun _ _ L=>L,fun o k L=>rfl,fun b z C=>?_,fun b k o T=>Axo _⟩
  by_cases e:b=d
  ·subst e;rw[hx]at C;simp at C;subst C;exact⟨y,⟨by rw[Ah,if_pos rfl],hym⟩,.inl I⟩
  ·refine⟨z,⟨by rw[Ah,if_neg e];exact C,rfl⟩,?_⟩
   cases G:z.dead
   ·exact .inr ⟨rfl,rfl,rfl,fun _=>rfl⟩
   ·exact .inl rfl
 refine⟨E,⟨S.jlt,S.jft,S.gl.ext E,fun b z C G hm=>?_,fun b z C G hm=>by
   rw[Ah]at C
   by_cases e:b=d
   ·rw[if_pos e]at C;simp at C;subst C;simp[I]at G
   ·rw[if_neg e]at C
    exact(S.mblk b z C G hm).keep rfl (fun k o T=>rfl) (fun _ _ _ _ L=>L),?_⟩,rfl,rfl,rfl,Axo _,fun k hk _=>rfl,?_,fun _ _ L=>.inl L⟩
 ·rw[Ah]at C
  by_cases e:b=d
  ·rw[if_pos e]at C;simp at C;subst C;simp[I]at G
  ·rw[if_neg e]at C
   rcases S.blk b z C G hm with h1|⟨k,o,cs',ty',fr',h1,h2,h3,h4,h5,h6⟩
   ·exact .inl h1
   ·exact .inr ⟨k,o,cs',ty',fr',h1,h2,h3,h4,h5.ext E,h6⟩
 ·intro b b' z z' k o o' C D G Y hs T hβ'
  rw[Ah]at C D
  by_cases e:b=d
  ·rw[if_pos e]at C;simp at C;subst C;simp[I]at G
  ·by_cases e':b'=d
   ·rw[if_pos e']at D;simp at D;subst D;simp[I]at Y
   ·rw[if_neg e]at C;rw[if_neg e']at D
    exact S.sep b b' z z' k o o' C D G Y hs T hβ'
 ·rintro k ⟨b,z,o,C,G,hs,T⟩ hk
  rw[Ah]at C
  by_cases e:b=d
  ·rw[if_pos e]at C;simp at C;subst C;simp[I]at G
  ·rw[if_neg e]at C
   exact⟨b,z,o,C,G,hs,T⟩
def Step.giveUp(S:SimH J β h w){d k o:Nat}{x y:Blk}(hx:Am h d=some x)(hd:x.dead=false)(hs:x.sealed=false)(hβ:β d=some (k,o))(hxm:x.mp=false)(hy:y.dead=true)
  (other:∀ j,j≠k->w'.heap[j]?=w.heap[j]?) (size:w'.heap.size=w.heap.size) (os:w'.os=w.os) (tape:w'.tape=w.tape) (output:w'.output=w.output) (hsz:A1 w k<=A1 w' k) (hym:y.mp=x.mp:=by rfl) :
  Step J β h w J β (Fp h d y) w':=by
 have nj:∀ g j,J g j->j≠k:=fun g j I e=>by
  subst e
  rcases S.blk d x hx hd hxm with⟨L,_⟩|⟨k',o',cs0,ty0,fr0,T,h2,h3,h4,h5,h6,h7⟩
  ·rw[hβ]at L;simp at L
  ·rw[hβ]at T;simp at T;obtain⟨rfl,rfl⟩:=T
   exact h6 hs g I
 have E:Ext J β h w J β (Fp h d y) w':=by
  refine⟨fun _ _ I=>I,fun o j I=>other j (nj o j I),fun b z C=>?_,fun b j oo C=>?_⟩
  ·by_cases e:b=d
   ·subst e;rw[hx]at C;simp at C;subst C;exact⟨y,⟨by rw[Ah,if_pos rfl],hym⟩,.inl hy⟩
   ·refine⟨z,⟨by rw[Ah,if_neg e];exact C,rfl⟩,?_⟩
    cases hd:z.dead
    ·exact .inr ⟨rfl,rfl,rfl,fun _=>rfl⟩
    ·exact .inl rfl
  ·by_cases e:j=k
   ·subst e;exact hsz
   ·simp[A1,other j e]
 have live:∀{b z},Am (Fp h d y) b=some z->z.dead=false->b≠d/\Am h b=some z:=fun{b z} C D=>by
  rw[Ah]at C
  by_cases e:b=d
  ·rw[if_pos e]at C;simp at C;subst C;simp[hy]at D
  ·rw[if_neg e]at C;exact⟨e,C⟩
 have apart:∀{b z j oo},b≠d->Am h b=some z->z.dead=false->β b=some (j,oo)->j≠k:=fun{b z j oo} e C D G ej=>by
  subst ej;exact e (S.sep d b x z j o oo hx C hd D hs hβ G).symm
 refine⟨E,⟨fun g j I=>by rw[size];exact S.jlt g j I,S.jft,S.gl.ext E,fun b z C D hm=>?_,fun b z C D hm=>by
   obtain⟨e,C⟩:=live C D
   exact(S.mblk b z C D hm).keep rfl (fun j oo G=>other j (apart e C D G)) (fun _ _ _ _ I=>I),fun b b' z z' j oo oo' C hb' D hz' Y G hbj'=>?_⟩,os,tape,output,by rw[size];exact Axo _,fun j I hm=>other j (fun e=>by subst e;exact hm ⟨d,x,o,hx,hd,hs,hβ⟩),?_,fun _ _ I=>.inl I⟩
 ·obtain⟨e,C⟩:=live C D
  rcases S.blk b z C D hm with L|⟨j,oo,cs,ty,fr,L,h2,h3⟩
  ·exact .inl L
  ·exact .inr ⟨j,oo,cs,ty,fr,L,by rw[other j (apart e C D L)];exact h2,h3.1,h3.2.1,h3.2.2.1.ext E,h3.2.2.2⟩
 ·exact S.sep b b' z z' j oo oo' (live C D).2 (live hb' hz').2 D hz' Y G hbj'
 ·rintro j ⟨b,z,oo,C,D,Y,G⟩ _
  exact⟨b,z,oo,(live C D).2,D,Y,G⟩
end
end Gx
namespace Gx
open Go
section
variable{J J' J'':Bool->Nat->Prop}{β β' β'':Ch}{h h' h'':Ay}{w w' w'':World}
def Step.shutB(S:SimH J β h w){d:Nat}{x:Blk}(hx:Am h d=some x)(T:x.dead=false)(hxm:x.mp=false):
  Step J β h w (fun o k=>J o k\/∃ o',β d=some (k,o')/\(x.taint=true->o=true)) β (Fp h d {x with sealed:=true}) w:=by
 have E:Ext J β h w (fun o k=>J o k\/∃ o',β d=some (k,o')/\(x.taint=true->o=true)) β (Fp h d {x with sealed:=true}) w:=by
  refine⟨fun _ _ G=>.inl G,fun o k G=>rfl,fun b z C=>?_,fun b k o D=>Axo _⟩
  by_cases e:b=d
  ·subst e;rw[hx]at C;simp at C;subst C
   exact⟨{x with sealed:=true},⟨by rw[Ah,if_pos rfl],rfl⟩,.inr ⟨T,rfl,rfl,fun _=>rfl⟩⟩
  ·refine⟨z,⟨by rw[Ah,if_neg e];exact C,rfl⟩,?_⟩
   cases T:z.dead
   ·exact .inr ⟨rfl,rfl,rfl,fun _=>rfl⟩
   ·exact .inl rfl
 refine⟨E,⟨?_,?_,S.gl.ext E,fun b z C L hm=>?_,fun b z C L hm=>by
   rw[Ah]at C
   by_cases e:b=d
   ·rw[if_pos e]at C;simp at C;subst C;simp[hxm]at hm
   ·rw[if_neg e]at C
    have M:=S.mblk b z C L hm
    refine M.keep rfl (fun k o D=>rfl) (fun g k o D G=>?_)
    rcases G with G|⟨o',hβ',_⟩
    ·exact G
    ·exact absurd (S.sep b d z x k o o' C hx L T M.2.1 D hβ') e,?_⟩,rfl,rfl,rfl,Axo _,fun k hk _=>rfl,?_,?_⟩
 ·rintro o k (G|⟨o',D,_⟩)
  ·exact S.jlt o k G
  ·exact Ub S hx T D
 ·rintro k (G|⟨o',D,ht⟩)
  ·exact .inl (S.jft k G)
  ·exact .inr ⟨o',D,fun _=>rfl⟩
 ·rw[Ah]at C
  by_cases e:b=d
  ·rw[if_pos e]at C;simp at C;subst C;subst e
   rcases S.blk b x hx T hxm with I|⟨k,o,Y,ty',fr',I,h2,h3,h4,h5,h6,h7⟩
   ·exact .inl I
   ·exact .inr ⟨k,o,Y,ty',fr',I,h2,h3,h4,h5.ext E,fun hs=>by simp at hs,fun _=>.inr ⟨o,I,id⟩⟩
  ·rw[if_neg e]at C
   rcases S.blk b z C L hm with I|⟨k,o,Y,ty',fr',I,h2,h3,h4,h5,h6,h7⟩
   ·exact .inl I
   ·refine .inr ⟨k,o,Y,ty',fr',I,h2,h3,h4,h5.ext E,fun hs g G=>?_,fun hs=>.inl (h7 hs)⟩
    rcases G with G|⟨o',D,_⟩
    ·exact h6 hs g G
    ·exact e (S.sep b d z x k o o' C hx L T hs I D)
 ·intro b b' z z' k o o' C hb' hd1 hd2 hs D hβ'
  have get:∀{c y},Am (Fp h d {x with sealed:=true}) c=some y->y.dead=false->∃ y',Am h c=some y'/\y'.dead=false/\(y.sealed=false->y'.sealed=false):=by
   intro c y hc hyd
   rw[Ah]at hc
   by_cases e:c=d
   ·subst e;exact⟨x,hx,T,fun hs=>by simp at hc;subst hc;simp at hs⟩
   ·rw[if_neg e]at hc;exact⟨y,hc,hyd,id⟩
  obtain⟨y1,g1,g2,g3⟩:=get C hd1
  obtain⟨y2,g4,g5,g6⟩:=get hb' hd2
  exact S.sep b b' y1 y2 k o o' g1 g4 g2 g5 (g3 hs) D hβ'
 ·rintro k ⟨b,z,o,C,L,hs,D⟩ hk
  rw[Ah]at C
  by_cases e:b=d
  ·rw[if_pos e]at C;simp at C;subst C;simp at hs
  ·rw[if_neg e]at C
   exact⟨b,z,o,C,L,hs,D⟩
 ·rintro o k (G|⟨o',D,ht⟩)
  ·exact .inl G
  ·cases hs:x.sealed with
   |false=>exact .inr (.inl ⟨d,x,o',hx,T,hs,D⟩)
   | true =>
    left
    rcases S.blk d x hx T hxm with⟨I,_⟩|⟨k',o1,Y,ty',fr',I,h2,h3,h4,h5,h6,h7⟩
    ·rw[D]at I;simp at I
    ·rw[D]at I;simp at I;obtain⟨rfl,rfl⟩:=I
     have:=h7 hs
     cases htt:x.taint with
     |true=>rw[htt]at this;rw[ht htt];exact this
     |false =>
      rw[htt]at this
      cases o
      ·exact this
      ·exact S.jft _ this
structure OnlyBlk(w w':World)(k:Nat)(cs cs':Array Value)(ty:TypeId)(fr:Nat×Nat):Prop where
 old:w.heap[k]?=some (.cells cs ty fr)
 new:w'.heap[k]?=some (.cells cs' ty fr)
 sz:cs'.size=cs.size
 other:∀ j,j≠k->w'.heap[j]?=w.heap[j]?
 size:w'.heap.size=w.heap.size
 os:w'.os=w.os
 tape:w'.tape=w.tape
 output:w'.output=w.output
def OnlyBlk.setCell{k i:Nat}{cs:Array Value}{ty:TypeId}{fr:Nat×Nat}(C:w.heap[k]?=some (.cells cs ty fr))(u:Value):
  OnlyBlk w (w.setCell ⟨k,i,none⟩ u) k cs (cs.setIfInBounds i u) ty fr:=by
 refine⟨C,?_,by simp,fun j D=>?_,by simp[World.setCell],rfl,rfl,rfl⟩
 ·simp[World.setCell,Azg,C]
 ·simp only[World.setCell,Azg];rw[if_neg (fun e=>D e.symm)]
def OnlyBlk.setCells{k:Nat}{ty:TypeId}{fr:Nat×Nat}:∀(us:List Value)(i:Nat)(w:World)(cs:Array Value),w.heap[k]?=some (.cells cs ty fr) ->
  ∃ C,OnlyBlk w (w.setCells k i us) k cs C ty fr/\∀ j,C[j]?=if i<=j/\j<i+us.length/\j<cs.size then us[j - i]? else cs[j]?
|[],i,w,cs,D=>⟨cs,⟨D,D,rfl,fun _ _=>rfl,rfl,rfl,rfl,rfl⟩,fun j=>by rw[if_neg (by simp;omega)]⟩
| u::us,i,w,cs,D=>by
  have A:=OnlyBlk.setCell (i:=i) D u
  obtain⟨C,B,hB⟩:=OnlyBlk.setCells us (i+1) (w.setCell ⟨k,i,none⟩ u) _ A.new
  refine⟨C,⟨D,B.new,B.sz.trans A.sz,fun j G=>(B.other j G).trans (A.other j G),B.size.trans A.size,B.os.trans A.os,B.tape.trans A.tape,B.output.trans A.output⟩,fun j=>?_⟩
  rw[hB j]
  simp only[A3b,Ayb]
  by_cases G:j=i
  ·subst G
   rw[if_neg (by omega)]
   by_cases hs:j<cs.size
   ·rw[if_pos (by omega)];simp[hs]
   ·rw[if_neg (by omega)];simp[hs]
  ·by_cases I:i+1<=j/\j<i+1+us.length/\j<cs.size
   ·rw[if_pos I,if_pos (by omega),show j - i=(j - (i+1))+1 by omega];simp
   ·rw[if_neg I,if_neg (by omega),A15 (by omega)]
def Step.set(S:SimH J β h w){d k o:Nat}{x x':Blk}{cs T:Array Value}{ty:TypeId}{fr:Nat×Nat}(Y:Am h d=some x)(I:x.dead=false)(hs:x.sealed=false)(hβ:β d=some (k,o))
  (O:OnlyBlk w w' k cs T ty fr) (hd':x'.dead=false) (hs':x'.sealed=false) (hz:x'.sz=x.sz) (hl:x'.cells.length=x.cells.length) (hc:CellsRep J β h w x' (fun j=>T[o+j]?)) (hxm:x.mp=false) (L:x'.mp=x.mp:=by rfl) (hty:x'.ty=x.ty:=by rfl) :
  Step J β h w J β (Fp h d x') w':=by
 obtain⟨k',o',cs0,ty0,fr0,hβ',h2,h3,h4,h5,h6,h7⟩:∃ k' o' cs0 ty0 fr0,β d=some (k',o')/\w.heap[k']?=some (.cells cs0 ty0 fr0) /\
   FrTy x.ty ty0 o' cs0.size fr0/\o'+x.cells.length<=cs0.size/\CellsRep J β h w x (fun j=>cs0[o'+j]?)/\(x.sealed=false->∀ g,¬ J g k')/\(x.sealed=true->J x.taint k'):=by
  rcases S.blk d x Y I hxm with⟨h1,_⟩|h1
  ·rw[hβ]at h1;simp at h1
  ·exact h1
 rw[hβ]at hβ';simp at hβ';obtain⟨rfl,rfl⟩:=hβ'
 rw[O.old]at h2;simp at h2;obtain⟨rfl,rfl,rfl⟩:=h2
 have nj:∀ g j,J g j->j≠k:=fun g j G e=>by subst e;exact h6 hs g G
 have E:Ext J β h w J β (Fp h d x') w':=by
  refine⟨fun _ _ G=>G,fun o j G=>O.other j (nj o j G),fun b z C=>?_,fun b j oo C=>?_⟩
  ·by_cases e:b=d
   ·subst e;rw[Y]at C;simp at C;subst C
    exact⟨_,⟨by rw[Ah,if_pos rfl],L⟩,.inr ⟨I,rfl,hz,fun _=>hl⟩⟩
   ·refine⟨z,⟨by rw[Ah,if_neg e];exact C,rfl⟩,?_⟩
    cases I:z.dead
    ·exact .inr ⟨rfl,rfl,rfl,fun _=>rfl⟩
    ·exact .inl rfl
  ·by_cases e:j=k
   ·subst e;rw[D3 O.old,D3 O.new,O.sz];exact Axo _
   ·simp[A1,O.other j e]
 refine⟨E,⟨fun g j G=>by rw[O.size];exact S.jlt g j G,S.jft,S.gl.ext E,fun b z C D hm=>?_,fun b z C D hm=>by
   rw[Ah]at C
   by_cases e:b=d
   ·rw[if_pos e]at C;simp at C;subst C;simp[L,hxm]at hm
   ·rw[if_neg e]at C
    exact(S.mblk b z C D hm).keep rfl (fun k2 o2 hβ2=>O.other k2 (fun e2=>by subst e2;exact e (S.sep d b x z k2 o o2 Y C I D hs hβ hβ2).symm)) (fun _ _ _ _ G=>G),?_⟩,O.os,O.tape,O.output,by rw[O.size];exact Axo _,fun j G hm=>?_,?_,fun _ _ G=>.inl G⟩
 ·rw[Ah]at C
  by_cases e:b=d
  ·rw[if_pos e]at C;simp at C;subst C;subst e
   refine .inr ⟨k,o,T,ty,fr,hβ,O.new,?_,by rw[hl,O.sz];exact h4,hc.ext E,fun _=>h6 hs,fun hh=>by simp[hs']at hh⟩
   rw[O.sz,hty];exact h3
  ·rw[if_neg e]at C
   rcases S.blk b z C D hm with g1|⟨k2,o2,cs2,ty2,fr2,g1,g2,g3,g4,g5,g6,g7⟩
   ·exact .inl g1
   ·have hne:k2≠k:=fun e2=>by
     subst e2;exact e (S.sep d b x z k2 o o2 Y C I D hs hβ g1).symm
    exact .inr ⟨k2,o2,cs2,ty2,fr2,g1,by rw[O.other k2 hne];exact g2,g3,g4,g5.ext E,g6,g7⟩
 ·intro b b' z z' kk oo oo' C hb' hd1 hd2 hs1 hβ1 hβ2
  have get:∀{c y},Am (Fp h d x') c=some y->y.dead=false->∃ y',Am h c=some y'/\y'.dead=false/\(y.sealed=false->y'.sealed=false):=by
   intro c y hc hyd
   rw[Ah]at hc
   by_cases e:c=d
   ·subst e;exact⟨x,Y,I,fun _=>hs⟩
   ·rw[if_neg e]at hc;exact⟨y,hc,hyd,id⟩
  obtain⟨y1,g1,g2,g3⟩:=get C hd1
  obtain⟨y2,g4,g5,g6⟩:=get hb' hd2
  exact S.sep b b' y1 y2 kk oo oo' g1 g4 g2 g5 (g3 hs1) hβ1 hβ2
 ·exact O.other j (fun e=>hm (by subst e;exact⟨d,x,o,Y,I,hs,hβ⟩))
 ·rintro j ⟨b,z,oo,C,D,hsz,hβz⟩ G
  rw[Ah]at C
  by_cases e:b=d
  ·subst e;exact⟨b,x,oo,Y,I,hs,hβz⟩
  ·rw[if_neg e]at C
   exact⟨b,z,oo,C,D,hsz,hβz⟩
def Step.setObj(S:SimH J β h w){d k:Nat}{x x':Blk}{ob ob':Obj}(hx:Am h d=some x)(hd:x.dead=false)(hm:x.mp=true)(hβ:β d=some (k,0))
  (old:w.heap[k]?=some ob) (new:w'.heap[k]?=some ob') (other:∀ j,j≠k->w'.heap[j]?=w.heap[j]?) (size:w'.heap.size=w.heap.size) (os:w'.os=w.os) (tape:w'.tape=w.tape) (output:w'.output=w.output)
  (hc:ObjIs x' ob') (hx'd:x'.dead=false) (hx's:x'.sealed=false) (hx'p:x'.pure=true) (hx'z:x'.sz=x.sz) (Y:x'.mp=true):Step J β h w J β (Fp h d x') w':=by
 have M:=S.mblk d x hx hd hm
 have nJ:∀ g,¬ J g k:=by
  obtain⟨_,_,k',_,I,_,_,L⟩:=M
  rw[hβ]at I;simp at I;subst I;exact L
 have nj:∀ g j,J g j->j≠k:=fun g j D e=>by subst e;exact nJ g D
 have E:Ext J β h w J β (Fp h d x') w':=by
  refine⟨fun _ _ D=>D,fun o j D=>other j (nj o j D),fun b z C=>?_,fun b j oo C=>?_⟩
  ·by_cases e:b=d
   ·subst e;rw[hx]at C;simp at C;subst C
    exact⟨_,⟨by rw[Ah,if_pos rfl],by rw[Y,hm]⟩,.inr ⟨hd,rfl,hx'z,fun h=>by simp[hm]at h⟩⟩
   ·refine⟨z,⟨by rw[Ah,if_neg e];exact C,rfl⟩,?_⟩
    cases hd:z.dead
    ·exact .inr ⟨rfl,rfl,rfl,fun _=>rfl⟩
    ·exact .inl rfl
  ·by_cases e:j=k
   ·subst e
    have r0:∀ cs ty fr,ob≠.cells cs ty fr:=by
     obtain⟨_,_,k',ob0,I,L,h3,_⟩:=M
     rw[hβ]at I;simp at I;subst I
     rw[old]at L;simp at L;subst L
     exact fun _ _ _=>h3.row
    have z0:A1 w j=0:=by
     unfold A1;rw[old]
     split
     ·rename_i e;simp at e;exact absurd e (r0 _ _ _)
     ·rfl
    rw[z0];exact A07 _
   ·simp[A1,other j e]
 refine⟨E,⟨fun g j D=>by rw[size];exact S.jlt g j D,S.jft,S.gl.ext E,fun b z C G T=>?_,fun b z C G T=>?_,?_⟩,os,tape,output,by rw[size];exact Axo _,fun j D hm=>?_,?_,fun _ _ D=>.inl D⟩
 ·rw[Ah]at C
  by_cases e:b=d
  ·rw[if_pos e]at C;simp at C;subst C;simp[Y]at T
  ·rw[if_neg e]at C
   rcases S.blk b z C G T with g1|⟨k2,o2,cs2,ty2,fr2,g1,g2,g3,g4,g5,g6,g7⟩
   ·exact .inl g1
   ·have hne:k2≠k:=fun e2=>by
     subst e2;rw[old]at g2;simp at g2
     obtain⟨_,_,k',ob0,I,L,h3,_⟩:=M
     rw[hβ]at I;simp at I;subst I
     rw[old]at L;simp at L;subst L
     exact absurd g2 h3.row
    exact .inr ⟨k2,o2,cs2,ty2,fr2,g1,by rw[other k2 hne];exact g2,g3,g4,g5.ext E,g6,g7⟩
 ·rw[Ah]at C
  by_cases e:b=d
  ·rw[if_pos e]at C;simp at C;subst C;subst e
   exact⟨hx'p,hx's,k,ob',hβ,new,hc,nJ⟩
  ·rw[if_neg e]at C
   exact(S.mblk b z C G T).keep rfl (fun k2 o2 hβ2=>other k2 (fun e2=>by subst e2;exact e (S.sep d b x z k2 0 o2 hx C hd G M.2.1 hβ hβ2).symm)) (fun _ _ _ _ D=>D)
 ·intro b b' z z' kk oo oo' C hb' hd1 hd2 hs1 hβ1 hβ2
  have get:∀{c y},Am (Fp h d x') c=some y->y.dead=false->∃ y',Am h c=some y'/\y'.dead=false/\(y.sealed=false->y'.sealed=false):=by
   intro c y hc hyd
   rw[Ah]at hc
   by_cases e:c=d
   ·subst e;exact⟨x,hx,hd,fun _=>M.2.1⟩
   ·rw[if_neg e]at hc;exact⟨y,hc,hyd,id⟩
  obtain⟨y1,g1,g2,g3⟩:=get C hd1
  obtain⟨y2,g4,g5,g6⟩:=get hb' hd2
  exact S.sep b b' y1 y2 kk oo oo' g1 g4 g2 g5 (g3 hs1) hβ1 hβ2
 ·exact other j (fun e=>hm (by subst e;exact⟨d,x,0,hx,hd,M.2.1,hβ⟩))
 ·rintro j ⟨b,z,oo,C,G,hsz,hβz⟩ D
  rw[Ah]at C
  by_cases e:b=d
  ·subst e;exact⟨b,x,oo,hx,hd,M.2.1,hβz⟩
  ·rw[if_neg e]at C
   exact⟨b,z,oo,C,G,hsz,hβz⟩
def Step.mark(S:SimH J β h w){d k o:Nat}{x:Blk}{cs:Array Value}{ty:TypeId}{fr L:Nat×Nat}(hx:Am h d=some x)(hd:x.dead=false)(hs:x.sealed=false)(hβ:β d=some (k,o))
  (old:w.heap[k]?=some (.cells cs ty fr)) (new:w'.heap[k]?=some (.cells cs ty L)) (hf:FrOk cs.size L) (other:∀ j,j≠k->w'.heap[j]?=w.heap[j]?) (size:w'.heap.size=w.heap.size) (os:w'.os=w.os) (tape:w'.tape=w.tape) (output:w'.output=w.output) (hxm:x.mp=false) :
  Step J β h w J β h w':=by
 have nj:∀ g j,J g j->j≠k:=fun g j C e=>by
  subst e
  rcases S.blk d x hx hd hxm with⟨h1,_⟩|⟨k',o',cs0,ty0,fr0,T,h2,h3,h4,h5,h6,h7⟩
  ·rw[hβ]at h1;simp at h1
  ·rw[hβ]at T;simp at T;obtain⟨rfl,rfl⟩:=T
   exact h6 hs g C
 have E:Ext J β h w J β h w':=by
  refine⟨fun _ _ C=>C,fun o j C=>other j (nj o j C),fun b z D=>⟨z,⟨D,rfl⟩,?_⟩,fun b j oo D=>?_⟩
  ·cases hd:z.dead
   ·exact .inr ⟨rfl,rfl,rfl,fun _=>rfl⟩
   ·exact .inl rfl
  ·by_cases e:j=k
   ·subst e;rw[D3 old,D3 new];exact Axo _
   ·simp[A1,other j e]
 refine⟨E,⟨fun g j C=>by rw[size];exact S.jlt g j C,S.jft,S.gl.ext E,fun b z D G I=>?_,fun b z D G I=>by
   refine(S.mblk b z D G I).keep rfl (fun Y o2 hβ2=>other Y (fun e2=>?_)) (fun _ _ _ _ C=>C)
   subst e2
   have:=S.sep d b x z Y o o2 hx D hd G hs hβ hβ2
   subst this
   rw[hx] at D;simp at D;subst D;simp[hxm] at I,S.sep⟩,os,tape,output,by rw[size];exact Axo _,fun j C I=>?_,fun _ I _=>I,fun _ _ C=>.inl C⟩
 ·rcases S.blk b z D G I with g1|⟨Y,o2,cs2,ty2,fr2,g1,g2,g3,g4,g5,g6,g7⟩
  ·exact .inl g1
  ·by_cases e:Y=k
   ·subst e
    rw[old]at g2;simp at g2;obtain⟨rfl,rfl,rfl⟩:=g2
    exact .inr ⟨Y,o2,cs,ty,L,g1,new,⟨hf,g3.2⟩,g4,g5.ext E,g6,g7⟩
   ·exact .inr ⟨Y,o2,cs2,ty2,fr2,g1,by rw[other Y e];exact g2,g3,g4,g5.ext E,g6,g7⟩
 ·exact other j (fun e=>I (by subst e;exact⟨d,x,o,hx,hd,hs,hβ⟩))
def Step.move(S:SimH J β h w){d d' k o o':Nat}{x x' y:Blk}{cs cs':Array Value}{ty:TypeId}{fr:Nat×Nat}(T:Am h d=some x)(hd:x.dead=false)(hs:x.sealed=false)(hβ:β d=some (k,o))
  (hn:Am h d'=none) (hy:y.dead=true)
  (O:OnlyBlk w w' k cs cs' ty fr) (hd':x'.dead=false) (hs':x'.sealed=false) (hl:o'+x'.cells.length<=cs.size) (hc:CellsRep J β h w x' (fun j=>cs'[o'+j]?)) (hxm:x.mp=false) (hym:y.mp=x.mp:=by rfl) (hxm':x'.mp=false:=by rfl) (hty:TyOk x'.ty ty o' cs.size:=by exact TyOk.none) :
  Step J β h w J (fun b=>if b=d' then some (k,o')else β b) (Fp (Fp h d y) d' x') w':=by
 obtain⟨k',o1,cs0,ty0,fr0,hβ',h2,h3,h4,h5,h6,h7⟩:∃ k' o' cs0 ty0 fr0,β d=some (k',o')/\w.heap[k']?=some (.cells cs0 ty0 fr0) /\
   FrTy x.ty ty0 o' cs0.size fr0/\o'+x.cells.length<=cs0.size/\CellsRep J β h w x (fun j=>cs0[o'+j]?)/\(x.sealed=false->∀ g,¬ J g k')/\(x.sealed=true->J x.taint k'):=by
  rcases S.blk d x T hd hxm with⟨h1,_⟩|h1
  ·rw[hβ]at h1;simp at h1
  ·exact h1
 rw[hβ]at hβ';simp at hβ';obtain⟨rfl,rfl⟩:=hβ'
 rw[O.old]at h2;simp at h2;obtain⟨rfl,rfl,rfl⟩:=h2
 have nj:∀ g j,J g j->j≠k:=fun g j I e=>by subst e;exact h6 hs g I
 have ndd:d≠d':=fun e=>by subst e;rw[hn]at T;cases T
 have ne:∀{b z},Am h b=some z->b≠d':=fun C e=>by subst e;rw[hn]at C;cases C
 have get:∀ b,Am (Fp (Fp h d y) d' x') b=if b=d' then some x' else if b=d then some y else Am h b:=fun b=>by rw[Ah,Ah]
 have E:Ext J β h w J (fun b=>if b=d' then some (k,o')else β b) (Fp (Fp h d y) d' x') w':=by
  refine⟨fun _ _ I=>I,fun o j I=>O.other j (nj o j I),fun b z C=>?_,fun b j oo C=>?_⟩
  ·by_cases e:b=d
   ·have hb0:=C;subst e;rw[T]at C;simp at C;subst C;exact⟨y,⟨by rw[get,if_neg (ne hb0),if_pos rfl],hym⟩,.inl hy⟩
   ·refine⟨z,⟨by rw[get,if_neg (ne C),if_neg e];exact C,rfl⟩,?_⟩
    cases hd:z.dead
    ·exact .inr ⟨rfl,by simp[ne C],rfl,fun _=>rfl⟩
    ·exact .inl rfl
  ·by_cases e:j=k
   ·subst e;rw[D3 O.old,D3 O.new,O.sz];exact Axo _
   ·simp[A1,O.other j e]
 have live:∀{b z},Am (Fp (Fp h d y) d' x') b=some z->z.dead=false->(b=d'/\z=x')\/(b≠d'/\b≠d/\Am h b=some z):=by
  intro b z C hz
  rw[get]at C
  by_cases e:b=d'
  ·rw[if_pos e]at C;simp at C;exact .inl ⟨e,C.symm⟩
  ·rw[if_neg e]at C
   by_cases Y:b=d
   ·rw[if_pos Y]at C;simp at C;subst C;simp[hy]at hz
   ·rw[if_neg Y]at C;exact .inr ⟨e,Y,C⟩
 refine⟨E,⟨fun g j I=>by rw[O.size];exact S.jlt g j I,S.jft,S.gl.ext E,fun b z C D hm=>?_,fun b z C D hm=>by
   rcases live C D with⟨rfl,rfl⟩|⟨e1,Y,C⟩
   ·simp[hxm']at hm
   ·exact(S.mblk b z C D hm).keep (by simp[e1]) (fun k2 o2 G=>O.other k2 (fun e=>by subst e;exact Y (S.sep d b x z k2 o o2 T C hd D hs hβ G).symm)) (fun _ _ _ _ I=>I),?_⟩,O.os,O.tape,O.output,by rw[O.size];exact Axo _,fun j I hm=>?_,?_,fun _ _ I=>.inl I⟩
 ·rcases live C D with⟨rfl,rfl⟩|⟨e1,Y,C⟩
  ·refine .inr ⟨k,o',cs',ty,fr,by simp,O.new,?_,by rw[O.sz];exact hl,hc.ext E,fun _=>h6 hs,fun hh=>by simp[hs']at hh⟩
   rw[O.sz];exact⟨h3.1,hty⟩
  ·rcases S.blk b z C D hm with g1|⟨k2,o2,cs2,ty2,fr2,g1,g2,g3,g4,g5,g6,g7⟩
   ·exact .inl ⟨by simp[e1,g1.1],g1.2⟩
   ·have hne:k2≠k:=fun e=>by
     subst e;exact Y (S.sep d b x z k2 o o2 T C hd D hs hβ g1).symm
    exact .inr ⟨k2,o2,cs2,ty2,fr2,by simp[e1,g1],by rw[O.other k2 hne];exact g2,g3,g4,g5.ext E,g6,g7⟩
 ·intro b b' z z' kk oo oo' C hb' hd1 hd2 hs1 L G
  rcases live C hd1 with⟨e0,_⟩|⟨e1,Y,hbb⟩<;>rcases live hb' hd2 with⟨e0',_⟩|⟨e3,e4,hbb'⟩
  ·rw[e0,e0']
  ·simp[e0]at L;simp[e3]at G
   obtain⟨rfl,rfl⟩:=L
   exact absurd (S.sep d b' x z' k o oo' T hbb' hd hd2 hs hβ G).symm e4
  ·simp[e0']at G;simp[e1]at L
   obtain⟨rfl,rfl⟩:=G
   exact absurd (S.sep d b x z k o oo T hbb hd hd1 hs hβ L).symm Y
  ·simp[e1]at L;simp[e3]at G
   exact S.sep b b' z z' kk oo oo' hbb hbb' hd1 hd2 hs1 L G
 ·exact O.other j (fun e=>hm (by subst e;exact⟨d,x,o,T,hd,hs,hβ⟩))
 ·rintro j ⟨b,z,oo,C,D,hsz,hβz⟩ I
  rcases live C D with⟨rfl,rfl⟩|⟨e1,Y,C⟩
  ·simp at hβz;obtain⟨rfl,rfl⟩:=hβz
   exact⟨d,x,o,T,hd,hs,hβ⟩
  ·simp[e1]at hβz;exact⟨b,z,oo,C,D,hsz,hβz⟩
end
end Gx
namespace Gx
open Go
def Ci:∀(a b:D7)(h:Ay),An (a++b) h=An b (An a h)
|[],_,_=>rfl
|(_,some _)::r,b,h=>by simp only[Ayu,An];exact Ci r b _
|(_,none)::r,b,h=>by simp only[Ayu,An];exact Ci r b _
def LooksS(g:A6)(h:Ay):Prop:=∀ b x,g b=some x->∃ y,Am h b=some y/\{y with sealed:=true}={x with sealed:=true}
def Looks.s{g:A6}{h:Ay}(k:Looks g h):LooksS g h:=fun b x C=>⟨x,k b x C,rfl⟩
section
variable{R:Type}{r:R}{P:Program}{J J':Bool->Nat->Prop}{β:Ch}{h:Ay}{w:World}{g:A6}
def LooksS.shutB(k:LooksS g h){b:Nat}{x:Blk}(C:g b=some x):LooksS g (Fp h b {x with sealed:=true}):=by
 intro c y hc
 rw[Ah]
 by_cases e:c=b
 ·subst e;rw[C]at hc;simp at hc;subst hc
  exact⟨{x with sealed:=true},by simp,rfl⟩
 ·rw[if_neg e];exact k c y hc
def Af9(S:SimH J β h w){b off n:Nat}{y:Blk}{v:Value}(hb:Am h b=some y)(hd:y.dead=false)(hp:y.pure=true)(hr:Rep J β h w (.own b off n) v)
  (hJ:∀ k o,β b=some (k,o)->J' y.taint k) (I:∀ o k,J o k->J' o k) (t o:Bool):RepC (J' y.taint) w (.imm ((y.cells.drop off).take (n*y.sz)) n y.sz t o) v↔(t=true->∃ A cap,v=.slice A n cap/\cap=n):=by
 rw[Rep]at hr
 obtain⟨x,A,cap,⟨D,T⟩,rfl,C,hr⟩:=hr
 rw[hb]at D;simp at D;subst D
 rw[RepC]
 constructor
 ·rintro⟨_,A',cap',Y,_,ht,_⟩ h1
  exact⟨A',cap',Y,ht h1⟩
 ·intro ht
  have L:t=true->cap=n:=fun h1=>by
   obtain⟨A',cap',Y,hc⟩:=ht h1
   simp at Y;omega
  rcases hr with hr|⟨kk,oo,rfl,hr⟩
  ·have:n=0:=by omega
   subst this
   exact⟨by simp,A,cap,rfl,C,L,.inl rfl⟩
  ·rcases hr with hr|⟨r1,r2,r3⟩
   ·simp[hd]at hr
   ·rcases S.blk b y hb hd T with⟨hn,_⟩|⟨k',o',cs,ty,fr,G,g1,g2,g3,g4,g5,g6⟩
    ·rw[r1]at hn;simp at hn
    ·rw[r1]at G;simp at G;obtain⟨rfl,rfl⟩:=G
     refine⟨by simp;omega,_,cap,rfl,C,L,.inr ⟨_,rfl,hJ _ _ r1,?_⟩⟩
     have:=((g4.1 hp).drop off).take (n*y.sz)
     refine RepCs.keep (fun k hk=>I _ k hk) (fun _ _=>rfl) (fun j=>?_) this
     rw[Addr.add_mid,Nf g1,Ay8]
def Ak0{b off n:Nat}{y:Blk}{v:Value}(D:Am h b=some y)(hr:Rep J β h w (.own b off n) v):y.mp=false:=by
 rw[Rep]at hr
 obtain⟨x,A,cap,⟨k,C⟩,_⟩:=hr
 rw[D]at k;simp at k;subst k;exact C
def An1{b off:Nat}{y:Blk}{v:Value}(G:Am h b=some y)(hr:Rep J β h w (.optr b off) v):y.mp=false:=by
 rw[Rep]at hr
 obtain⟨x,k,o,⟨C,D⟩,_⟩:=hr
 rw[G]at C;simp at C;subst C;exact D
def QL{v v':AV}{ups:D7}{org:Bool}{vc:Value}(S:SimH J β h w)(L:LooksS g h)(hh:WT g v=some (v',ups,org))(G:Rep J β h w v vc):
    ∃ J',Step J β h w J' β (An ups h) w/\RepC (J' org) w v' vc/\LooksS g (An ups h):=by
  unfold WT at hh
  split at hh
  · rename_i b off n
    obtain⟨x,D,h1⟩:=ub hh
    obtain⟨hp,Y⟩:=uc h1
    simp at Y
    obtain⟨rfl,rfl,rfl⟩:=Y
    unfold Gd at D
    obtain⟨x0,I,D⟩:=ub D
    obtain⟨hd,D⟩:=Ac2 D
    simp at D;subst D
    obtain⟨y,T,C⟩:=L b _ I
    have e1:y.cells=x0.cells:=by have:=congrArg Blk.cells C;simpa using this
    have e2:y.sz=x0.sz:=by have:=congrArg Blk.sz C;simpa using this
    have e3:y.taint=x0.taint:=by have:=congrArg Blk.taint C;simpa using this
    have e4:y.dead=x0.dead:=by have:=congrArg Blk.dead C;simpa using this
    have e5:y.pure=x0.pure:=by have:=congrArg Blk.pure C;simpa using this
    have A:=Step.shutB S T (by rw[e4];exact hd) (Ak0 T G)
    refine⟨_,by simp only[An];rw[<-C];exact A,?_,by simp only[An];exact L.shutB I⟩
    have:=(Af9 (J':=fun o k=>J o k\/∃ o',β b=some (k,o')/\(y.taint=true->o=true)) S T (by rw[e4];exact hd) (by rw[e5];exact hp) G (fun k o hβ=>.inr ⟨o,hβ,id⟩) (fun o k hj=>.inl hj) false x0.taint).2 (by simp)
    rw[e1,e2,e3]at this
    rw[e3]
    exact this
  all_goals first
    |(simp at hh;done)
    | (simp at hh; obtain ⟨rfl, rfl, rfl⟩ := hh
       refine⟨J,Step.refl S,?_,L⟩
       first
         |(rw[Rep]at G;exact G)
         | skip)
  · cases v
    case imm=>rename_i hi _ _;exact absurd rfl (hi _ _ _ _ _)
    case iptr=>rename_i hi _;exact absurd rfl (hi _ _)
    case pagg=>rename_i hi;exact absurd rfl (hi _ _)
    all_goals first|(rw[Rep]at G;rw[RepC];exact G)|simp_all
def Rx:∀{c c':LA}{ups:D7}{org:Bool}{cs:List Value}{J:Bool->Nat->Prop}{h:Ay},SimH J β h w->LooksS g h->AE g c=some (c',ups,org)->Reps J β h w c cs ->
  ∃ J',Step J β h w J' β (An ups h) w/\RepCs (J' org) w c' (fun j=>cs[j]?) 0/\c'.length=cs.length/\LooksS g (An ups h)
|[],c',ups,org,cs,J,h,S,I,hh,D=>by
  simp[AE]at hh;obtain⟨rfl,rfl,rfl⟩:=hh
  rw[Reps]at D;subst D
  exact⟨J,Step.refl S,by simp[RepCs],rfl,I⟩
| v::r,c',ups,org,cs,J,h,S,I,hh,D=>by
  rw[AE]at hh
  obtain⟨⟨v1,u1,o1⟩,hp,h1⟩:=ub hh
  obtain⟨⟨r2,u2,o2⟩,hq,h2⟩:=ub h1
  simp at h2
  obtain⟨rfl,rfl,rfl⟩:=h2
  rw[Reps]at D
  obtain⟨u,us,rfl,L,T⟩:=D
  obtain⟨J1,A,hA,Y⟩:=QL S I hp L
  obtain⟨J2,B,hB,G,hl2⟩:=Rx A.sim Y hq (Reps.ext A.ext T)
  refine⟨J2,by rw[Ci];exact A.trans B (fun _ _ _ _=>Axo _),?_,by simp[G],by rw[Ci];exact hl2⟩
  have mono:∀{a b:Bool}(k:Nat),J2 a k->J2 (a||b) k:=fun{a b} k C=>by
   cases a
   ·cases b
    ·exact C
    ·exact B.sim.jft k C
   ·exact C
  have mono':∀{a b:Bool}(k:Nat),J2 b k->J2 (a||b) k:=fun{a b} k C=>by rw[A3m];exact mono k C
  rw[RepCs]
  refine⟨⟨u,by simp,?_⟩,?_⟩
  ·exact RepC.keep (J:=J1 o1) (fun k C=>mono k (B.ext.jsub _ k C)) (fun _ _=>rfl) hA
  ·have:=RepCs.keep (J':=J2 (o1||o2)) (w':=w) (fun k C=>mono' k C) (fun _ _=>rfl) (rd':=fun j=>us[j]?) (fun _=>rfl) hB
   rw[By]at this ⊢
   intro j x hj
   have h3:=this j x hj
   simp only[Ax0]at h3
   rw[show 1+j=j+1 by omega]
   simpa using h3
def NU{v:AV}{c':LA}{ups:D7}{org:Bool}{vc:Value}(S:SimH J β h w)(G:LooksS g h)(hh:Zy g v=some (c',ups,org))(C:Rep J β h w v vc):
  ∃ J',Step J β h w J' β (An ups h) w/\RepCs (J' org) w c' (fun j=>vc.cells.toList[j]?) 0/\c'.length=vc.cells.toList.length/\LooksS g (An ups h):=by
 unfold Zy at hh
 split at hh
 ·rename_i c org'
  simp at hh;obtain⟨rfl,rfl,rfl⟩:=hh
  rw[Rep]at C
  obtain⟨cs,rfl,T,D⟩:=C
  exact⟨J,Step.refl S,D,by simp[Value.cells,T],G⟩
 ·rename_i c
  rw[Rep]at C
  obtain⟨cs,rfl,D⟩:=C
  exact Rx S G hh D
 ·rename_i v T D
  obtain⟨J',A,hA,k,I⟩:=Rx (cs:=[vc]) S G hh (by rw[Reps];exact⟨vc,[],rfl,C,by rw[Reps]⟩)
  have h3:vc.oneCell'=true:=by
   have L:c'.length=1:=k
   cases hc:c' with
   |nil=>simp[hc]at L
   |cons x r =>
    obtain⟨u,Y,hr⟩:=hA.at (j:=0) (x:=x) (by simp[hc])
    simp at Y;subst Y
    exact bZ hr
  have h4:vc.cells=#[vc]:=by cases vc<;>simp_all[Value.cells,Value.oneCell']
  rw[h4]
  exact⟨J',A,hA,k,I⟩
end
end Gx
namespace Gx
open Go
def Bu:∀(ups:D7)(h:Ay)(b:Nat),A4 ups b=false->Am (An ups h) b=Am h b
|[],_,_,_=>rfl
| (i,some x)::r,h,b,hi=>by
  rw[A4]at hi
  cases k:beq i b with
  |true=>rw[k]at hi;simp at hi
  |false =>
   rw[k]at hi
   rw[An,Bu r _ b hi,Ah,if_neg (fun e=>X1 k e.symm)]
| (i,none)::r,h,b,hi=>by
  rw[A4]at hi
  cases k:beq i b with
  |true=>rw[k]at hi;simp at hi
  |false =>
   rw[k]at hi
   rw[An,Bu r _ b hi]
   split
   ·rw[Ah,if_neg (fun e=>X1 k e.symm)]
   ·rfl
def Uc{c vs:LA}{off:Nat}(D:off+vs.length<=c.length)(j:Nat):(Dd c off vs)[j]?=if off<=j/\j<off+vs.length then vs[j - off]? else c[j]?:=by
 unfold Dd
 rw[Azz,Ay3]
 simp only[Ax6,Ayd (show off<=c.length by omega)]
 by_cases k:j<off
 ·rw[if_pos k,if_neg (by omega),Azn,if_pos k]
 ·rw[if_neg k,Ay3]
  by_cases C:j - off<vs.length
  ·rw[if_pos C,if_pos (by omega)]
  ·rw[if_neg C,if_neg (by omega),Ayw];congr 1;omega
def L6{c vs:LA}{off:Nat}(k:off+vs.length<=c.length):(Dd c off vs).length=c.length:=by unfold Dd;simp;omega
def JY{c vs:LA}{off:Nat}(k:off+vs.length<=c.length)(j:Nat):(setCells c off vs)[j]?=if off<=j/\j<off+vs.length then vs[j - off]? else c[j]?:=by
 unfold setCells
 split
 ·rename_i y
  simp at k
  rw[List.getElem?_set]
  by_cases e:off=j
  ·subst e;simp;omega
  ·rw[if_neg e,if_neg (by simp;omega)]
 ·exact Uc k j
def P8{c vs:LA}{off:Nat}(k:off+vs.length<=c.length):(setCells c off vs).length=c.length:=by
 unfold setCells
 split
 ·simp
 ·exact L6 k
section
variable{R:Type}{r:R}{P:Program}{J J':Bool->Nat->Prop}{β:Ch}{h:Ay}{w w':World}{g:A6}
def Kf{v:AV}{vc:Value}(hs:GJ g v=true)(C:Rep J β h w v vc):vc.oneCell'=true:=by
 cases v<;>simp[GJ]at hs
 case own=>rw[Rep]at C;obtain⟨x,A,cap,_,rfl,_⟩:=C;rfl
 case optr=>rw[Rep]at C;obtain⟨x,k,o,_,rfl,_⟩:=C;rfl
 case fn=>rw[Rep]at C;obtain⟨cs,rfl,_⟩:=C;rfl
 case imm=>rw[Rep,RepC]at C;obtain⟨_,A,cap,rfl,_⟩:=C;rfl
 case iptr=>rw[Rep,RepC]at C;obtain⟨a,rfl,_⟩:=C;rfl
 all_goals (rw[Rep]at C;subst C;rfl)
def Ry:∀{c:LA},L0 g c=true->∀(j:Nat)(x:AV),c[j]?=some x->GJ g x=true
|[],_,j,x,k=>by simp at k
|v::r,hs,j,x,k=>by
  rw[L0]at hs;simp at hs
  cases j with
  |zero=>simp at k;subst k;exact hs.1
  |succ j=>exact Ry hs.2 j x (by simpa using k)
def Adb{k:Nat}{cs C:Array Value}{ty:TypeId}{fr:Nat×Nat}(O:OnlyBlk w w' k cs C ty fr):∀ j,A1 w j<=A1 w' j:=fun j=>by
 by_cases e:j=k
 ·subst e;rw[D3 O.old,D3 O.new,O.sz];exact Axo _
 ·simp[A1,O.other j e]
def QM{t:TypeId}{k o:Nat}{vc:Value}{cs:Array Value}{ty:TypeId}{fr:Nat×Nat}(G:w.heap[k]?=some (.cells cs ty fr))(I:FrOk cs.size fr)
  (hs:Bk P t=some vc.cells.toList.length) (L:o+vc.cells.toList.length<=cs.size) (T:∀ u∈vc.cells.toList,u.oneCell'=true) :
  (Instr.storeAt t (.pointer (some ⟨k,o,none⟩)) vc).run P w=.ok () (w.setCells k o vc.cells.toList):=by
 have C:=run_storeCells_cells (P:=P) k o vc.cells.toList 0 w (fun j Y=>by
   rw[Ayq,Nf G];simp;omega)
  (fun j Y=>by
   rw[Ayq];simp only[World.frozen?,G]
   have:=I.at (o+j) (by omega)
   cases fr;simp at this ⊢;omega) T
 simp only[Ayq]at C
 have D:=Ck hs w
 simp only[A03]at D
 simp[Instr.storeAt,Instr.sureAddr,storeVar,D,C]
def QN{c:LA}{org:Bool}{cs:List Value}(hc:RepCs (J org) w c (fun j=>cs[j]?) 0):∀{L:List (Nat×TypeId)}{C:LA}{k:LA->O R},NP P c org L C k=some r ->
  (∀(j:Nat) x,C[j]?=some x->∃ u,cs[j]?=some u/\Rep J β h w x u)->∃ l:LA,k l=some r/\∀(j:Nat) x,l[j]?=some x->∃ u,cs[j]?=some u/\Rep J β h w x u
|[],C,k,hh,G=>⟨C,hh,G⟩
| (off,t)::L,C,k,hh,G=>by
  rw[NP]at hh
  obtain⟨I,h1⟩:=uc hh
  simp at I
  obtain⟨v,h2,h3⟩:=Wk (β:=β) (h:=h) h1 (hc.drop off)
  refine QN hc h2 (fun j x D=>?_)
  rw[Ay3]at D
  split at D
  ·exact G j x D
  ·have T:j=C.length:=by
    have:=(Axw.1 D).1
    simp at this;omega
   subst T
   simp at D;subst D
   rcases h3 with⟨d,hu,hd,u,h4,h5⟩|⟨d,hu,hd,_⟩
   ·refine⟨u,?_,h5⟩
    rw[I.1]at h4;simpa using h4
   ·exfalso
    have Y:=I.2
    unfold Akq at Y
    rw[hu]at Y
    split at Y<;>simp_all[TypeDesc.isRow]
def wt{t:TypeId}{p v:AV}{vp vv:Value}{k:AV->D7->O R}(S:SimH J β h w)(hl:Looks g h)(hh:gE P g t p v k=some r)(hp:Rep J β h w p vp)(hv:Rep J β h w v vv):
  ∃ val ups,k val ups=some r/\∃ J' β' w',(Instr.storeAt t vp vv).run P w=.ok () w'/\Step J β h w J' β' (An ups h) w'/\val=.undef:=by
 unfold gE at hh
 split at hh
 ·rename_i b off
  obtain⟨x,hx,h1⟩:=ub hh
  obtain⟨n,hn,h2⟩:=ub h1
  obtain⟨hs,h3⟩:=Ac2 h2
  obtain⟨hb,hd⟩:=Dr hl hx
  have hmpx:=An1 hb hp
  cases hpu:x.pure with
  | true =>
   rw[hpu]at h3
   obtain⟨⟨c',u1,org⟩,hq,h4⟩:=ub h3
   obtain⟨hc,h5⟩:=uc h4
   simp at hc
   obtain⟨G,I,hc3⟩:=hc
   obtain⟨J1,A,hA,T,_⟩:=NU S hl.s hq hv
   have hb1:Am (An u1 h) b=some x:=by rw[Bu _ _ _ hc3];exact hb
   obtain⟨kk,o,cs,ty,fr,hβ,rfl,L,hf,hle,hcr,_,_⟩:=wl A.sim hb1 hd (Rep.ext A.ext hp)
   obtain⟨cs',O,hO⟩:=OnlyBlk.setCells (k:=kk) vv.cells.toList (o+off) w cs L
   have hlen':off+c'.length<=x.cells.length:=by omega
   have hone:=RepCs.one hA T.symm
   have B:=Step.set (x':={ x with pure:=true,cells:=setCells x.cells off c',taint:=x.taint||org }) A.sim hb1 hd hs hβ O hd hs rfl (P8 hlen') (by
    refine⟨fun _=>?_,fun hh=>by simp at hh⟩
    have hold:=hcr.1 hpu
    rw[By]
    intro j y C
    simp only[JY hlen']at C
    simp only[Ax0]
    have mono:∀{a b:Bool}(k:Nat),J1 a k->J1 (a||b) k:=fun{a b} k L=>by
     cases a
     ·cases b
      ·exact L
      ·exact A.sim.jft k L
     ·exact L
    split at C
    ·rename_i hj'
     obtain⟨u,hu,hr⟩:=hA.at C
     refine⟨u,?_,RepC.keep (J:=J1 org) (fun k L=>by rw[A3m];exact mono k L) (fun _ _=>rfl) hr⟩
     rw[hO,if_pos (by omega),<-hu];congr 1;omega
    ·rename_i hj'
     obtain⟨u,hu,hr⟩:=hold.at C
     refine⟨u,?_,RepC.keep (J:=J1 x.taint) (fun k L=>mono k L) (fun _ _=>rfl) hr⟩
     rw[hO,if_neg (by omega)];exact hu)
   refine⟨_,_,h5,J1,β,_,QM L hf.1 (by rw[<-T,G];exact hn) (by omega) hone,?_,rfl⟩
   rw[Ci]
   exact A.trans (B hmpx) (fun _ k _ _=>Adb O k)
  | false =>
   rw[hpu]at h3
   obtain⟨kk,o,cs,ty,fr,hβ,rfl,L,hf,hle,hcr,_,_⟩:=wl S hb hd hp
   have go:∀(c:LA)(cells':LA),(∀(j:Nat)(y:AV),c[j]?=some y->∃ u,vv.cells.toList[j]?=some u/\Rep J β h w y u/\u.oneCell'=true)->c.length=vv.cells.toList.length->c.length=n->off+c.length<=x.cells.length ->
     cells'.length=x.cells.length->(∀ j:Nat,cells'[j]?=if off<=j/\j<off+c.length then c[j - off]? else x.cells[j]?) ->
     ∃ J' β' w',(Instr.storeAt t (.pointer (some ⟨kk,o+off,none⟩)) vv).run P w=.ok () w'/\Step J β h w J' β' (An [(b,some {x with pure:=false,cells:=cells'})] h) w':=by
    intro c cells' hc T hcn hoff hcl hget'
    obtain⟨cs',O,hO⟩:=OnlyBlk.setCells (k:=kk) vv.cells.toList (o+off) w cs L
    have B:=Step.set (x':={ x with pure:=false,cells:=cells' }) S hb hd hs hβ O hd hs rfl hcl (by
     refine⟨fun hh=>by simp at hh,fun _ j y C=>?_⟩
     simp only[hget']at C
     split at C
     ·rename_i hj'
      obtain⟨u,hu,hr,ho⟩:=hc _ _ C
      refine⟨u,?_,hr,ho⟩
      show cs'[o+j]?=some u
      rw[hO,if_pos (by omega),<-hu];congr 1;omega
     ·rename_i hj'
      obtain⟨u,hu,hr⟩:=hcr.2 hpu j y C
      refine⟨u,?_,hr⟩
      show cs'[o+j]?=some u
      rw[hO,if_neg (by omega)];exact hu)
    refine⟨J,β,_,QM L hf.1 (by rw[hn,<-hcn,T]) (by omega) (fun u hu=>?_),B hmpx⟩
    obtain⟨j,C,rfl⟩:=Azc hu
    obtain⟨u',hu',_,ho⟩:=hc j c[j] (Axn (by omega))
    rw[Axn C]at hu';simp only[Az1]at hu';rw[hu'];exact ho
   simp only[cond_false]at h3
   split at h3
   ·rename_i c
    obtain⟨hc,h5⟩:=uc h3
    simp at hc
    obtain⟨G,I,hc3⟩:=hc
    rw[Rep]at hv
    obtain⟨us,rfl,D⟩:=hv
    rw[Cb]at D
    obtain⟨J',β',w',g1,g2⟩:=go c (Dd x.cells off c) (fun j y C=>by
      have hlt:j<us.length:=by rw[D.1];exact(Axw.1 C).1
      refine⟨us[j],by simp[Value.cells,Axn hlt],D.2 j y _ C (Axn hlt),Kf (Ry G j y C) (D.2 j y _ C (Axn hlt))⟩)
     (by simp[Value.cells,D.1]) I (by omega) (L6 (by omega)) (Uc (by omega))
    exact⟨_,_,h5,J',β',w',g1,g2,rfl⟩
   ·rename_i c org
    cases hwh:beq off 0&&(beq c.length n&&beq x.cells.length n)with
    | false =>
     rw[hwh,cond_false]at h3
     obtain⟨_,h3⟩:=Ac2 h3
     rw[Rep]at hv
     obtain⟨us,rfl,D,hrc⟩:=hv
     obtain⟨l,h4,h6⟩:=QN (β:=β) (h:=h) hrc h3 (fun j x C=>by simp at C)
     obtain⟨hc,h5⟩:=uc h4
     simp at hc
     obtain⟨hc0,G,I,hc3⟩:=hc
     obtain⟨J',β',w',g1,g2⟩:=go l (Dd x.cells off l) (fun j y C=>by
       obtain⟨u,hu,hr⟩:=h6 j y C
       exact⟨u,by simpa[Value.cells] using hu,hr,Kf (Ry G j y C) hr⟩)
      (by simp[Value.cells];omega) I (by omega) (L6 (by omega)) (Uc (by omega))
     exact⟨_,_,h5,J',β',w',g1,g2,rfl⟩
    |true =>
    rw[hwh,cond_true]at h3
    have h5:=h3
    have hc:=hwh
    simp at hc
    obtain⟨rfl,I,hc3⟩:=hc
    rw[Rep]at hv
    obtain⟨us,rfl,D,hrc⟩:=hv
    obtain⟨cs',O,hO⟩:=OnlyBlk.setCells (k:=kk) us (o+0) w cs L
    have B:=Step.set (x':={ x with pure:=true,taint:=org,cells:=c }) S hb hd hs hβ O hd hs rfl (by simp;omega) (by
     refine⟨fun _=>?_,fun hh=>by simp at hh⟩
     rw[By]
     intro j y C
     obtain⟨u,hu,hr⟩:=hrc.at C
     have hlt:j<us.length:=by rw[D];exact(Axw.1 C).1
     refine⟨u,?_,hr⟩
     show cs'[o+(0+j)]?=some u
     rw[hO,if_pos (by omega),<-hu];congr 1;omega)
    exact⟨_,_,h5,J,β,_,QM (vc:=.agg ⟨us⟩) L hf.1 (by simp[Value.cells];rw[D,I];exact hn) (by simp[Value.cells];omega) (by simpa[Value.cells]using RepCs.one hrc D),B hmpx,rfl⟩
   ·rename_i hna
    obtain⟨hc,h5⟩:=uc h3
    simp at hc
    obtain⟨G,I,hc3⟩:=hc
    have ho:=Kf G hv
    have Y:vv.cells=#[vv]:=by cases vv<;>simp_all[Value.cells,Value.oneCell']
    obtain⟨J',β',w',g1,g2⟩:=go [v] (x.cells.set off v) (fun j y C=>by
      cases j with
      |zero=>simp at C;subst C;exact⟨vv,by simp[Y],hv,ho⟩
      |succ j=>simp at C) (by simp[Y]) (by simp;omega) (by simp;omega) (by simp) (fun j=>by
      have:=JY (c:=x.cells) (vs:=[v]) (off:=off) (by simp;omega) j
      simpa[setCells] using this)
    exact⟨_,_,h5,J',β',w',g1,g2,rfl⟩
 ·simp at hh
end
end Gx
namespace Gx
open Go
section
variable{R:Type}{r:R}{P:Program}{J J':Bool->Nat->Prop}{β:Ch}{h:Ay}{w w':World}{g:A6}
def uU{v v':AV}{ups:D7}{org:Bool}(hh:WT g v=some (v',ups,org))(b:Nat)(D:A4 ups b=true):∃ x,g b=some x:=by
 unfold WT at hh
 split at hh
 ·rename_i G off n
  obtain⟨x,k,L⟩:=ub hh
  obtain⟨T,I⟩:=uc L
  simp at I
  obtain⟨rfl,rfl,rfl⟩:=I
  unfold Gd at k
  obtain⟨x0,C,k⟩:=ub k
  have:G=b:=by
   cases e:beq G b with
   |true=>exact Axy e
   |false=>simp[A4,e]at D
  subst this;exact⟨x0,C⟩
 all_goals first
  |(simp at hh;done)
  |(simp at hh;obtain⟨rfl,rfl,rfl⟩:=hh;simp[A4]at D)
def H9:∀(a b:D7)(c:Nat),A4 (a++b) c=(A4 a c||A4 b c)
|[],_,_=>by simp[A4]
|(i,_)::r,b,c=>by
  rw[Ayu,A4,A4,H9 r b c]
  cases beq i c<;>simp
def AK:∀{c c':LA}{ups:D7}{org:Bool},AE g c=some (c',ups,org)->∀ b,A4 ups b=true->∃ x,g b=some x
|[],c',ups,org,hh,b,k=>by simp[AE]at hh;obtain⟨rfl,rfl,rfl⟩:=hh;simp[A4]at k
|v::r,c',ups,org,hh,b,k=>by
  rw[AE]at hh
  obtain⟨⟨v1,u1,o1⟩,G,I⟩:=ub hh
  obtain⟨⟨r2,u2,o2⟩,hq,C⟩:=ub I
  simp at C
  obtain⟨rfl,rfl,rfl⟩:=C
  rw[H9]at k
  cases D:A4 u1 b with
  |true=>exact uU G b D
  |false=>rw[D]at k;exact AK hq b (by simpa using k)
def sU{v:AV}{c':LA}{ups:D7}{org:Bool}(hh:Zy g v=some (c',ups,org))(b:Nat)(k:A4 ups b=true):∃ x,g b=some x:=by
 unfold Zy at hh
 split at hh
 ·simp at hh;obtain⟨rfl,rfl,rfl⟩:=hh;simp[A4]at k
 ·exact AK hh b k
 ·exact AK hh b k
def Aga{ups:D7}{d:Nat}(k:Looks g h)(C:∀ b,A4 ups b=true->∃ x,g b=some x)(hn:Am h (nid d)=none):Am (An ups h) (nid d)=none:=by
 rw[Bu]
 ·exact hn
 ·cases D:A4 ups (nid d)with
  |false=>rfl
  |true =>
   obtain⟨x,G⟩:=C _ D
   rw[k _ _ G]at hn;cases hn
def OpDone(J:Bool->Nat->Prop)(β:Ch)(h:Ay)(w:World)(ups:D7)(val:AV)(vc:Value)(w':World):Prop:=∃ J' β',Step J β h w J' β' (An ups h) w'/\Rep J' β' (An ups h) w' val vc
def UpsFree(d:Nat)(h:Ay)(ups:D7):Prop:=∀ b,A4 ups b=true->GM d b=true->Am h b=none
def UpsFree.nid {d:Nat} {h:Ay} {ups:D7} (k:UpsFree d h ups) (hi:A4 ups (nid d)=true):Am h (nid d)=none:=k _ hi (by
 have C:ble (Gx.nid d) (Gx.nid d)=true:=by simp
 have D:Nat.blt (Gx.nid d) (Gx.nid d+16)=true:=by simp
 rw[GM,C,D];rfl)
def UJ{d:Nat}{x:Blk}{cs:Array Value}{ty:TypeId}(S:SimH J β h w)(hn:Am h (nid d)=none)(D:x.dead=false)(hs:x.sealed=false)(k:x.cells.length<=cs.size)(hc:CellsRep J β h w x (fun j=>cs[j]?))(C:x.mp=false:=by rfl)(hty:TyOk x.ty ty 0 cs.size:=by exact TyOk.none):
  OpDone J β h w [(nid d,some x)] (.optr (nid d) 0) (.pointer (some ⟨w.heap.size,0,none⟩)) (w.alloc (.cells cs ty)):=by
 have A:=Step.new (ty:=ty) (fr:=(0,0)) S hn D hs ⟨.inl rfl,hty⟩ k hc C
 refine⟨_,_,A,?_⟩
 rw[Rep]
 exact⟨x,w.heap.size,0,⟨by simp[An,Ah],C⟩,rfl,.inr (by simp)⟩
def OpDone.after{ups ups':D7}{val:AV}{vc:Value}{J1:Bool->Nat->Prop}{β1:Ch}{C:World}(A:Step J β h w J1 β1 (An ups h) C)(B:OpDone J1 β1 (An ups h) C ups' val vc w')
  (hs:∀ k,A1 w k<=A1 w' k):OpDone J β h w (ups++ups') val vc w':=by
 obtain⟨J2,β2,B1,B2⟩:=B
 exact⟨J2,β2,by rw[Ci];exact A.trans B1 (fun _ k _ _=>hs k),by rw[Ci];exact B2⟩
def Qo(w:World)(o:Obj):∀ k,A1 w k<=A1 (w.alloc o) k:=fun k=>by
 by_cases C:k<w.heap.size
 ·simp[A1,Dw w _ C]
 ·simp[A1,Azm (Az9 C)]
def JZ{t:TypeId}{vc:Value}:(Instr.box t vc).run P w=.ok (.pointer (some ⟨w.heap.size,0,none⟩)) (w.alloc (.cells vc.cells t)):=by simp[Instr.box,newVar,newRow]
def wu{co:Bool}{t:TypeId}{v:AV}{vv:Value}{k:AV->O R}(hh:gG P co t v k=some r)(D:Rep J β h w v vv):∃ v',k v'=some r/\Rep J β h w v' vv:=by
 unfold gG at hh
 split at hh
 ·rename_i c org
  rw[Rep]at D
  obtain⟨cs,rfl,h1,G⟩:=D
  obtain⟨l,I,L⟩:=QN (β:=β) (h:=h) G hh (fun j x T=>by simp at T)
  obtain⟨Y,h6⟩:=uc I
  simp at Y
  refine⟨_,h6,?_⟩
  rw[Rep]
  refine⟨cs,rfl,Cb.2 ⟨by omega,fun j x u hx hu=>?_⟩⟩
  obtain⟨u',C,hr⟩:=L j x hx
  rw[hu]at C;simp at C;subst C;exact hr
 ·exact⟨_,hh,D⟩
def Ahv{t q m:Nat}(h:wX P t=some (q,m)):t=q/\Bk P t=some m:=by
 have key:∀{o:Option Nat},o=Bk P t->(o.map fun n=>(t,n))=some (q,m)->t=q/\Bk P t=some m:=by
  intro o k h
  cases o with
  |none=>simp at h
  |some n=>simp at h;exact⟨h.1,by rw[<-k,h.2]⟩
 unfold wX at h
 split at h
 ·obtain⟨f,_,h⟩:=ub h
  split at h
  ·obtain⟨_,h⟩:=uc h;exact key rfl h
  ·obtain⟨g,_,h⟩:=ub h
   split at h
   ·obtain⟨_,h⟩:=uc h;exact key rfl h
   ·cases h
  ·cases h
 ·cases h
def oC{d:Nat}{t:TypeId}{v:AV}{vv:Value}{k:AV->D7->O R}(S:SimH J β h w)(hl:Looks g h)(hh:zP P g d t v k=some r)(T:Rep J β h w v vv):
  ∃ val ups,k val ups=some r/\(UpsFree d h ups->∃ vc w',(Instr.box t vv).run P w=.ok vc w'/\OpDone J β h w ups val vc w'):=by
 unfold zP at hh
 split at hh
 ·rename_i c org
  refine⟨_,_,hh,fun hn=>⟨_,_,JZ,?_⟩⟩
  replace hn:=hn.nid (by simp[Rv,A4])
  rw[Rep]at T
  obtain⟨cs,rfl,h1,G⟩:=T
  exact UJ S hn rfl rfl (by simp[Value.cells,h1]) ⟨fun _=>by simpa[Value.cells]using G,fun I=>by simp at I⟩
 ·rename_i c
  cases I:Af2 P t with
  | true =>
   rw[I]at hh
   obtain⟨D,hh⟩:=uc hh
   simp only[Axr]at D
   obtain⟨D,L⟩:=D
   have L:=Axy L
   refine⟨_,_,hh,fun hn=>⟨_,_,JZ,?_⟩⟩
   replace hn:=hn.nid (by simp[A4])
   rw[Rep]at T
   obtain⟨cs,rfl,G⟩:=T
   rw[Cb]at G
   have hty:TyOk (wX P t) t 0 (Value.agg ⟨cs⟩).cells.size:=fun q m hq=>by
    obtain⟨e1,e2⟩:=Ahv hq
    refine⟨e1,rfl,.inr ?_⟩
    rw[e2]at L
    simp[Value.cells,G.1];simpa using L
   refine UJ S hn rfl rfl (by simp[Value.cells,G.1]) ⟨fun I=>by simp at I,fun _ j y Y=>?_⟩ rfl hty
   have hlt:j<cs.length:=by rw[G.1];exact(Axw.1 Y).1
   exact⟨cs[j],by simp[Value.cells,hlt],G.2 j y _ Y (Axn hlt),Kf (Ry D j y Y) (G.2 j y _ Y (Axn hlt))⟩
  |false =>
   rw[I]at hh
   obtain⟨⟨c',u1,o1⟩,hq,h1⟩:=ub hh
   refine⟨_,_,h1,fun hn=>⟨_,_,JZ,?_⟩⟩
   replace hn:=hn.nid (by simp[H9,Rv,A4])
   rw[Rep]at T
   obtain⟨cs,rfl,G⟩:=T
   obtain⟨J1,A,hA,hlen,_⟩:=Rx S hl.s hq G
   refine OpDone.after A (UJ A.sim (Aga hl (AK hq) hn) rfl rfl (by simp[Value.cells,hlen]) ⟨fun _=>?_,fun I=>by simp at I⟩) (Qo _ _)
   simpa[Value.cells]using hA
 ·rename_i v h1 G
  obtain⟨D,hh⟩:=uc hh
  refine⟨_,_,hh,fun hn=>⟨_,_,JZ,?_⟩⟩
  replace hn:=hn.nid (by simp[Rv,A4])
  have ho:=Kf D T
  have C:vv.cells=#[vv]:=by cases vv<;>simp_all[Value.cells,Value.oneCell']
  refine UJ S hn rfl rfl (by simp[C]) ⟨fun I=>by simp at I,fun _ j y Y=>?_⟩
  cases j with
  |zero=>simp at Y;subst Y;exact⟨vv,by simp[C],T,ho⟩
  |succ j=>simp at Y
end
end Gx
namespace Gx
open Go
def wv(z:LA):∀(l j:Nat),j<l*z.length->(Fa l z)[j]?=z[j%z.length]?:=by
 have flat:∀(l j:Nat),j<l*z.length->((replicate l z).flatten)[j]?=z[j%z.length]?:=by
  intro l
  induction l with
  |zero=>intro j k;simp at k
  | succ l D =>
   intro j k
   rw[A2k,List.flatten_cons,Ay3]
   by_cases C:j<z.length
   ·rw[if_pos C,Ayl C]
   ·rw[if_neg C,D _ (by rw[A4t]at k;omega)]
    rw[Nat.mod_eq_sub_mod (a:=j) (by omega)]
 intro l j k
 unfold Fa
 split
 ·rename_i v
  simp at k
  simp[k,Nat.mod_one]
 ·exact flat l j k
def Ge(l:Nat)(z:LA):(Fa l z).length=l*z.length:=by
 unfold Fa
 split
 ·simp
 ·simp
section
variable{R:Type}{r:R}{P:Program}{J J':Bool->Nat->Prop}{β:Ch}{h:Ay}{w w':World}{g:A6}
def J_{J:Nat->Prop}:∀{cs:List Value},A9 (Li cs)=true->∀(j:Nat)(u:Value),cs[j]?=some u->∃ x,(Li cs)[j]?=some x/\RepC J w x u
|[],_,j,u,k=>by simp at k
| v::r,C,j,u,k=>by
  have key:∃ x,fy v=x/\A9 (Li r)=true/\RepC J w x v:=by
   rw[Li]at C
   have hr:=JW (J:=fun _=>J) (β:=fun _=>none) (h:=[]) (w:=w) v
   cases D:fy v<;>rw[D]at C hr<;>simp[A9]at C<;>refine⟨_,rfl,C,?_⟩<;>(rw[Rep]at hr;rw[RepC];exact hr)
  obtain⟨x,D,G,hr⟩:=key
  cases j with
  |zero=>simp at k;subst k;exact⟨x,by simp[Li,D],hr⟩
  |succ j =>
   obtain⟨y,I,L⟩:=J_ (J:=J) (cs:=r) G j u (by simpa using k)
   exact⟨y,by simpa[Li]using I,L⟩
def Wl:∀ cs:List Value,(Li cs).length=cs.length
|[]=>rfl
|v::r=>by simp[Li,Wl r]
def Qp{t:TypeId}{z:LA}(k:WR P t=some z):∃ i v,P.info? t=some i/\i.zero=some v/\z=Li v.cells.toList/\A9 z=true/\v.cells.size=i.size/\z.length=i.size:=by
 unfold WR at k
 obtain⟨i,hi,D⟩:=ub k
 obtain⟨v,G,I⟩:=ub D
 obtain⟨hc,C⟩:=uc I
 simp at C hc
 subst C
 exact⟨i,v,hi,G,rfl,hc.1,by simpa using hc.2,by rw[Wl];simpa using hc.2⟩
def KA{J:Nat->Prop}{v:Value}(Y:A9 (Li v.cells.toList)=true)(l n:Nat)(hl:l*v.cells.size<=n):
  RepCs J w (Fa l (Li v.cells.toList)) (fun j=>(madeCells v.cells n)[j]?) 0:=by
 rw[By]
 intro j x G
 have C:(Li v.cells.toList).length=v.cells.size:=by rw[Wl];simp
 have k:j<l*(Li v.cells.toList).length:=by
  have:=(Axw.1 G).1
  rwa [Ge]at this
 rw[wv _ _ _ k]at G
 rw[C]at G k
 have D:0<v.cells.size:=by
  rcases Ayf v.cells.size with I|I
  ·rw[I]at k;simp at k
  ·exact I
 have T:j%v.cells.size<v.cells.size:=Azo _ D
 obtain⟨y,L,h2⟩:=J_ (w:=w) (J:=J) Y (j%v.cells.size) v.cells[j%v.cells.size] (by simp[T])
 rw[G]at L;simp at L;subst L
 refine⟨_,?_,h2⟩
 have:j<n:=by omega
 simp[madeCells,this,getElem!_pos,T]
def b6{d n cap sz:Nat}{x:Blk}{cs:Array Value}{ty:TypeId}{fr:Nat×Nat}(S:SimH J β h w)(hn:Am h (nid d)=none)(Y:x.dead=false)(hs:x.sealed=false)(L:x.sz=sz)
  (I:FrTy x.ty ty 0 cs.size fr) (k:x.cells.length=n*sz) (T:cap*sz<=cs.size) (C:n<=cap) (hc:CellsRep J β h w x (fun j=>cs[j]?)) (D:x.mp=false:=by rfl) :
  OpDone J β h w [(nid d,some x)] (.own (nid d) 0 n) (.slice (some ⟨w.heap.size,0,none⟩) n cap) (w.alloc (.cells cs ty fr)):=by
 have hle:n*sz<=cap*sz:=Axs _ C
 have A:=Step.new (ty:=ty) (fr:=fr) S hn Y hs I (by omega) hc D
 refine⟨_,_,A,?_⟩
 rw[Rep]
 refine⟨x,_,cap,⟨by simp[An,Ah],D⟩,rfl,C,.inr ⟨w.heap.size,0,rfl,.inr ⟨by simp,?_,by rw[L,k];omega⟩⟩⟩
 have G:(w.alloc (.cells cs ty fr)).heap[w.heap.size]?=some (.cells cs ty fr):=by show(w.heap.push _)[_]?=_;simp
 rw[D3 G,L];omega
def zY{d:Nat}{t:TypeId}{l c:AV}{vl vc:Value}{k:AV->D7->O R}(S:SimH J β h w)(hh:uJ P d t l c k=some r)(L:Rep J β h w l vl)(hc:Rep J β h w c vc):
  ∃ val ups,k val ups=some r/\(UpsFree d h ups->∃ u w',(Instr.makeSlice t vl vc).run P w=.ok u w'/\OpDone J β h w ups val u w'):=by
 unfold uJ at hh
 split at hh
 ·rename_i Y l c hu
  obtain⟨sz,hs,h1⟩:=ub hh
  obtain⟨by_,T,h2⟩:=ub h1
  obtain⟨z,hz,h3⟩:=ub h2
  obtain⟨hq,h4⟩:=uc h3
  simp at hq
  obtain⟨q1,q2,q3,q4⟩:=hq
  rw[Rep]at L hc;subst L hc
  obtain⟨i,v,hi,hv,rfl,D,e1,e2⟩:=Qp hz
  have C:i.size=sz:=by simp[Bk,hi]at hs;exact hs
  have G:i.bytes=by_:=by simp[wT,hi]at T;exact T
  have I:A4 (Rv d true false sz (Fa l.toNat (Li v.cells.toList))) (nid d)=true:=by simp[Rv,A4]
  refine⟨_,_,h4,fun hn=>⟨_,_,run_make w t Y i v hu hi hv _ _ l c q1 q2 (by rw[G,Int.mul_comm];omega) (by omega),?_⟩⟩
  refine b6 (sz:=sz) S (hn.nid I) rfl rfl rfl FrTy.un0 ?_ (by rw[size_madeCells,C];exact Axo _) (by omega) ⟨fun _=>?_,fun D=>by simp at D⟩
  ·show(Fa l.toNat (Li v.cells.toList)).length=_
   rw[Ge,e2,C]
  ·exact KA D _ _ (by rw[e1];exact Axs _ (by omega))
 ·simp at hh
def Yield.src{sz n:Nat}{tx:TypeId}{vx:Value}{us:List Value}(Y:Yield P w sz vx n us)(k:w9 P tx=true)(D:∀ u∈us,u.oneCell'=true):Src P sz tx vx n us w:=by
 refine⟨?_,Y.len,?_,?_,Y.length,D⟩
 ·unfold w9 at k
  split at k
  ·rename_i e C;exact .inl ⟨e,C⟩
  ·rename_i C;exact .inr C
  ·simp at k
 ·have:=Y.cells w n (fun _=>rfl) (Axo _)
  rwa [<-Y.length,Ayk]at this
 ·have:=Y.cells w.drew n (fun _=>rfl) (Axo _)
  rwa [<-Y.length,Ayk]at this
def ww{J:Nat->Prop}{a b:LA}{us vs:List Value}(G:RepCs J w a (fun j=>us[j]?) 0)(I:RepCs J w b (fun j=>vs[j]?) 0)(L:a.length=us.length)(tail:List Value):
  RepCs J w (a++b) (fun j=>(us++vs++tail)[j]?) 0:=by
 rw[By]
 intro j x k
 rw[Ay3]at k
 simp only[Ax0]
 by_cases D:j<a.length
 ·rw[if_pos D]at k
  obtain⟨u,C,hr⟩:=G.at k
  refine⟨u,?_,hr⟩
  rw[Azz,Ay3,if_pos (by omega)];exact C
 ·rw[if_neg D]at k
  obtain⟨u,C,hr⟩:=I.at k
  refine⟨u,?_,hr⟩
  have T:j - a.length<vs.length:=(Axw.1 C).1
  rw[Azz,Ay3,if_neg (by omega),Ay3,if_pos (by omega),<-L];exact C
def KB(w:World)(k:Nat):A1 w.drew k=A1 w k:=rfl
def oD{d sz n1 n2 cap0:Nat}{t tx ty C:TypeId}{i:TypeInfo}{z vx:Value}{A:Option Addr}{olds news:List Value}{c1 D:LA}{o:Bool}(S:SimH J β h w)(hn:Am h (nid d)=none)
  (hu:P.underlying t=some (.slice C)) (hi:P.info? C=some i) (hz:i.zero=some z) (hsz:i.size=sz) (hzs:z.cells.size=sz)
  (G:∀ w':World,(∀ a,w'.cell? a=w.cell? a)->(Builtin.firstCells sz n1 (.slice A n1 cap0)).run P w'=.ok olds.toArray w') (I:olds.length=n1*sz)
  (Y:Yield P w sz vx n2 news) (ht:w9 P tx=true) (ho:∀ u∈news,u.oneCell'=true)
  (h1:RepCs (J o) w c1 (fun j=>olds[j]?) 0) (L:c1.length=olds.length) (h2:RepCs (J o) w D (fun j=>news[j]?) 0) (h2l:D.length=news.length)
  (hg:cap0<n1+n2) (hb1:n1+n2<=140737488355328) (hb2:(n1+n2)*i.bytes<=140737488355328) {X:Option (Nat×Nat)} (hX:∀ q,X=some q->q=(C,0)) :
  ∃ u w',(Builtin.append_ #[t,tx] ty #[.slice A n1 cap0,vx]).run P w=.ok u w' /\
   OpDone J β h w [(nid d,some {dead:=false,sealed:=false,pure:=true,taint:=o,sz:=sz,cells:=c1++D,ty:=X})] (.own (nid d) 0 (n1+n2)) u w'/\(∀ k,A1 w k<=A1 w' k):=by
 subst hsz
 have run:=run_append_grow_src (P:=P) w t tx ty C i z hu hi hz A n1 cap0 olds (G w.drew (fun _=>rfl)) vx n2 news (Y.src ht ho) hg (by omega) (growslice_fits hg hb2)
 have T:n1+n2<=grownCap w (n1+n2) cap0 C:=by
  unfold grownCap;simp[Question.cut]
 refine⟨_,_,run,?_,?_⟩
 ·obtain⟨J',β',B1,B2⟩:=b6 (d:=d) (n:=n1+n2) (cap:=grownCap w (n1+n2) cap0 C) (sz:=i.size) (ty:=C) (fr:=(0,0)) (x:={dead:=false,sealed:=false,pure:=true,taint:=o,sz:=i.size,cells:=c1++D,ty:=X})
   (cs:=(olds++news).toArray++Builtin.zeroCells z.cells (grownCap w (n1+n2) cap0 C - (n1+n2))) (Step.drew S).sim hn rfl rfl rfl ⟨.inl rfl,fun t m hm=>by have:=hX _ hm;simp at this;exact⟨this.1.symm,rfl,.inl this.2⟩⟩
   (by simp[L,h2l,I,Y.length,Ax2]) (by
    simp[Builtin.zeroCells,I,Y.length,hzs]
    rw[<-Ax2,<-Ax2];exact Axs _ (by omega)) T
   ⟨fun _=>by
    have:=ww h1 h2 L (Builtin.zeroCells z.cells (grownCap w (n1+n2) cap0 C - (n1+n2))).toList
    show RepCs (J o) w.drew (c1++D) _ 0
    refine RepCs.keep (J:=J o) (w:=w) (w':=w.drew) (fun _ hj=>hj) (fun _ _=>rfl) (fun j=>?_) this
    rw[<-A3t]
    simp,fun hp=>by simp at hp⟩
  exact⟨J',β',(Step.drew S).trans B1 (fun _ k _ _=>by rw[<-KB];exact Qo _ _ k),B2⟩
 ·intro k;rw[<-KB];exact Qo _ _ k
def UK{J:Bool->Nat->Prop}(D:∀ k,J false k->J true k)(a b:Bool)(k:Nat)(C:J a k):J (a||b) k:=by
 cases a
 ·cases b
  ·exact C
  ·exact D k C
 ·exact C
def oE{J:Bool->Nat->Prop}(C:∀ k,J false k->J true k)(a b:Bool)(k:Nat)(D:J b k):J (a||b) k:=by rw[A3m];exact UK C b a k D
def zZ{d sz:Nat}{x:Blk}{A:Option Addr}(S:SimH J β h w)(hn:Am h (nid d)=none)(hc:x.cells=[])(k:x.mp=false:=by rfl):
  OpDone J β h w [(nid d,some x)] (.own (nid d) 0 0) (.slice A 0 0) w:=by
 refine⟨_,_,Step.newNone S hn hc k,?_⟩
 rw[Rep]
 exact⟨x,A,0,⟨by simp[An,Ah],k⟩,rfl,Axo _,.inl rfl⟩
def z6{g:A6}{k tx:TypeId}{s:AV}{q:Nat×Nat}(h:j1 P g k tx s=some q):q=(k,0):=by
 unfold j1 at h
 split at h
 ·split at h
  ·simp at h;exact h.symm
  ·cases h
 ·obtain⟨x,_,h⟩:=ub h
  obtain⟨y,_,h⟩:=ub h
  obtain⟨_,h⟩:=uc h
  simp at h;exact h.symm
 ·cases h
def Ak1{g:A6}{C tx b off n o m:Nat}{ty:TypeId}{y:Blk}(D:Gd g b=some y)(G:TyOk y.ty ty o m):TyOk (j1 P g C tx (.own b off n)) ty (o+off) m:=by
 intro t k h
 have e:=z6 h
 simp at e;obtain⟨rfl,rfl⟩:=e
 unfold j1 at h
 simp only[D,Azl]at h
 obtain⟨q,hq,h⟩:=ub h
 obtain⟨hc,_⟩:=uc h
 simp only[Axr]at hc
 have c1:=Axy hc.1
 have L:=Axy hc.2.1
 have c3:=Axy hc.2.2
 obtain⟨I,T,_⟩:=G q.1 q.2 hq
 exact⟨by rw[I,c1],by omega,.inl rfl⟩
def sV {d:Nat} {t tx ty:TypeId} {s x:AV} {vs vx:Value} {k:AV->D7->O R} (S:SimH J β h w) (hl:Looks g h) (hh:UD P g d t tx s x k=some r) (hs:Rep J β h w s vs) (hx:Rep J β h w x vx) :
  ∃ val ups,k val ups=some r/\(UpsFree d h ups->∃ u w',(Builtin.append_ #[t,tx] ty #[vs,vx]).run P w=.ok u w'/\OpDone J β h w ups val u w'):=by
 unfold UD at hh
 split at hh
 ·rename_i el hu
  obtain⟨ht,h0⟩:=uc hh
  obtain⟨sz,hsz,h1⟩:=ub h0
  obtain⟨by_,hby,h2⟩:=ub h1
  obtain⟨zz,hz,h3⟩:=ub h2
  obtain⟨old,D,h4⟩:=ub h3
  obtain⟨new,us,h5,Y,I,hur⟩:=JX (P:=P) S hl h4 hx
  obtain⟨hq,h6⟩:=uc h5
  simp at hq
  obtain⟨q1,q2⟩:=hq
  obtain⟨i,z,hi,hiz,rfl,hp,e1,e2⟩:=Qp hz
  have C:i.size=sz:=by simp[Bk,hi]at hsz;exact hsz
  have hb':i.bytes=by_:=by simp[wT,hi]at hby;exact hby
  have G:=RepCs.one hur I.symm
  have hur':RepCs (J (old.2.2.1||new.2.2)) w new.1 (fun j=>us[j]?) 0:=RepCs.keep (J:=J new.2.2) (w:=w) (oE S.jft _ _) (fun _ _=>rfl) (fun _=>rfl) hur
  refine⟨_,_,h6,fun hn=>?_⟩
  replace hn:=hn.nid (by simp[H9,A4])
  have hX:∀ q,j1 P g el tx s=some q->q=(el,0):=fun q=>z6
  have empty:∀(A:Option Addr),vs=.slice A 0 0->old.1=[]->old.2.1=0->old.2.2.2=[] ->
    ∃ u w',(Builtin.append_ #[t,tx] ty #[vs,vx]).run P w=.ok u w'/\OpDone J β h w (old.2.2.2++[(nid d,some {dead:=false,sealed:=false,pure:=true,taint:=old.2.2.1||new.2.2,sz,cells:=old.1++new.1,ty:=j1 P g el tx s})]) (.own (nid d) 0 (old.2.1+new.2.1)) u w':=by
   intro A hA o1 o2 o3
   subst hA
   rw[o1,o2,o3]
   rcases Ayf new.2.1 with h0|h0
   ·have hus:us=[]:=by have:=Y.length;rw[h0]at this;simpa using this
    subst hus
    have L:=Y.src ht G
    rw[h0]at L
    refine⟨_,_,run_append_nothing (P:=P) w t tx ty el i hu hi A 0 0 (Axo _) vx (by rw[C];exact L),?_⟩
    rw[h0]
    have hnc:new.1=[]:=by simpa using I
    exact zZ (sz:=sz) S hn (by simp[hnc])
   ·obtain⟨u,w',g1,g2,_⟩:=oD (ty:=ty) (c1:=[]) (olds:=[]) (n1:=0) (cap0:=0) (A:=A) S hn hu hi hiz C (by rw[e1,C]) (fun w' _=>by
      cases A with
      |none=>exact run_firstCells_none (P:=P) w' sz 0 0 0
      | some a=>exact run_firstCells_some (P:=P) w' sz 0 a 0 0 [] (by simp) (fun j v hv=>by simp at hv)) (by simp) Y ht G (by simp[RepCs]) rfl hur' I (by omega) (by rw[o2] at q1;omega) (by rw[o2,<-hb'] at q2;exact q2) hX
    exact⟨u,w',g1,g2⟩
  unfold Af5 at D
  split at D
  ·simp at D;subst D
   rw[Rep]at hs
   exact empty none hs rfl rfl rfl
  ·rename_i c n sz' org
   obtain⟨hz0,h7⟩:=uc D
   simp at hz0 h7;subst hz0;subst h7
   rw[Rep,RepC]at hs
   obtain⟨_,A,cap,hv,_,hcap,_⟩:=hs
   have:=hcap rfl;subst this
   exact empty A hv rfl rfl rfl
  ·rename_i b off n
   obtain⟨y,hy,h7⟩:=ub D
   obtain⟨hc,h8⟩:=uc h7
   simp at hc h8
   obtain⟨c1,c2,c3⟩:=hc
   subst h8;subst c3
   obtain⟨hb,hd⟩:=Dr hl hy
   simp only at *
   rw[Rep]at hs
   obtain⟨y',A,cap,⟨hy1,hmp⟩,rfl,hcap,hr⟩:=hs
   rw[hb]at hy1;simp at hy1;subst hy1
   have kill:=Step.kill (y:={y with dead:=true,pure:=true,cells:=[]}) S hb rfl
   have hkn:Am (Fp h b {y with dead:=true,pure:=true,cells:=[]}) (nid d)=none:=by
    rw[Ah,if_neg (fun e=>by rw[<-e,hn]at hb;cases hb)];exact hn
   have T:An [(b,none)] h=Fp h b {y with dead:=true,pure:=true,cells:=[]}:=by simp[An,hb]
   by_cases hc0:cap=0
   ·have hn0:n=0:=by omega
    subst hc0;subst hn0
    have S':=kill.sim
    rcases Ayf new.2.1 with h0|h0
    ·have hus:us=[]:=by have:=Y.length;rw[h0]at this;simpa using this
     subst hus
     have L:=Y.src ht G
     rw[h0]at L
     refine⟨_,_,run_append_nothing (P:=P) w t tx ty el i hu hi A 0 0 (Axo _) vx (by rw[C];exact L),?_⟩
     rw[h0]
     have hnc:new.1=[]:=by simpa using I
     refine OpDone.after (ups:=[(b,none)]) (by rw[T];exact kill) ?_ (fun _=>Axo _)
     rw[T]
     exact zZ (sz:=y.sz) S' hkn (by simp[hnc])
    ·obtain⟨u,w',g1,g2,g3⟩:=oD (ty:=ty) (c1:=[]) (olds:=[]) (n1:=0) (cap0:=0) (A:=A) S' hkn hu hi hiz C (by rw[e1,C]) (fun w' _=>by
       cases A with
       |none=>exact run_firstCells_none (P:=P) w' y.sz 0 0 0
       | some a=>exact run_firstCells_some (P:=P) w' y.sz 0 a 0 0 [] (by simp) (fun j v hv=>by simp at hv)) (by simp) Y ht G (by simp[RepCs]) rfl hur' I (by omega) (by omega) (by rw[<-hb'] at q2;exact q2) hX
     refine⟨u,w',g1,OpDone.after (ups:=[(b,none)]) (by rw[T];exact kill) ?_ g3⟩
     rw[T];simpa[Rv]using g2
   ·rcases hr with hr | ⟨kk,o,rfl,hr⟩
    ·exact absurd hr hc0
    ·rcases hr with hr|⟨r1,r2,r3⟩
     ·simp[hd]at hr
     ·rcases S.blk b y hb hd hmp with⟨hn',_⟩|⟨k',o',cs,ty',fr,hβ',g1,g2,g3,g4,g5,g6⟩
      ·rw[r1]at hn';simp at hn'
      ·rw[r1]at hβ';simp at hβ';obtain⟨rfl,rfl⟩:=hβ'
       have hbs:=D3 g1
       have hpure:=((g4.1 c1).drop off).take (n*y.sz)
       have hpl:((y.cells.drop off).take (n*y.sz)).length=n*y.sz:=by simp;omega
       by_cases hroom:n+new.2.1<=cap
       ·
        have hle:(n+new.2.1)*y.sz<=cap*y.sz:=Axs _ hroom
        rw[Ax2]at hle
        have run:=run_append_room_src (P:=P) w t tx ty el i hu hi kk (o+off) n cap vx new.2.1 us (by rw[C];exact Y.src ht G) hroom (fun j hj=>by
          rw[C,Nf g1];have:=Y.length;simp;omega) (fun j hj=>by
          rw[C];simp only[World.frozen?,g1]
          have h9:=Y.length
          have:=g2.1.at (o+off+n*y.sz+j) (by omega)
          cases fr;simp at this ⊢;omega)
        rw[C]at run
        obtain⟨cs',O,hO⟩:=OnlyBlk.setCells (k:=kk) us (o+off+n*y.sz) w cs g1
        have h9:=Y.length
        have B:=Step.move (y:={y with dead:=true,pure:=true,cells:=[]}) (o':=o+off) (x':={dead:=false,sealed:=false,pure:=true,taint:=y.taint||new.2.2,sz:=y.sz,cells:=(y.cells.drop off).take (n*y.sz)++new.1,ty:=j1 P g el tx (.own b off n)}) S hb hd c2 r1 hn rfl O rfl rfl
         (by rw[Ax1,hpl,I];omega) ⟨fun _=>by
          show RepCs (J (y.taint||new.2.2)) w ((y.cells.drop off).take (n*y.sz)++new.1) _ 0
          rw[By]
          intro j q hj
          rw[Ay3,hpl]at hj
          simp only[Ax0]
          by_cases hjn:j<n*y.sz
          ·rw[if_pos hjn]at hj
           obtain⟨v,hv,hvr⟩:=hpure.at hj
           refine⟨v,?_,RepC.keep (J:=J y.taint) (w:=w) (UK S.jft _ _) (fun _ _=>rfl) hvr⟩
           rw[hO,if_neg (by omega),Ay8];exact hv
          ·rw[if_neg hjn]at hj
           obtain⟨v,hv,hvr⟩:=hur'.at hj
           refine⟨v,?_,hvr⟩
           have:j - n*y.sz<us.length:=(Axw.1 hv).1
           rw[hO,if_pos (by omega),<-hv];congr 1;omega,fun hp=>by simp at hp⟩ hmp (hty:=Ak1 (P:=P) (tx:=tx) (n:=n) hy g2.2)
        refine⟨_,_,run,J,(fun b=>if b=nid d then some (kk,o+off)else β b),?_,?_⟩
        ·rw[Ci,T];exact B
        ·rw[Ci,T,Rep]
         refine⟨_,_,cap,⟨by simp[Rv,An,Ah];rfl,rfl⟩,rfl,hroom,.inr ⟨kk,o+off,rfl,.inr ⟨by simp,?_,?_⟩⟩⟩
         ·rw[D3 O.new,O.sz];simp;omega
         ·simp only[Ax1,hpl,I,h9,Ax0];rw[Ax2];exact Axo _
       ·
        obtain⟨olds,l1,l2,l3⟩:=hpure.list
        obtain⟨u,w',g1',g2',g3'⟩:=oD (ty:=ty) (c1:=(y.cells.drop off).take (n*y.sz)) (olds:=olds) (n1:=n) (cap0:=cap) (A:=some ⟨kk,o+off,none⟩) kill.sim hkn hu hi hiz C (by rw[e1,C]) (fun w' he =>
          run_firstCells_some (P:=P) w' y.sz n _ n cap olds (by rw[l1,hpl]) (fun j v hv=>by
           rw[he,Addr.add_mid,Nf g1,Ay8];exact l2 j v hv)) (by rw[l1,hpl]) Y ht G
          (RepCs.keep (J:=J y.taint) (w:=w) (UK S.jft _ _) (fun _ _=>rfl) (fun _=>rfl) l3) l1.symm hur' I (by omega) (by omega) (by rw[<-hb']at q2;exact q2) hX
        refine⟨u,w',g1',OpDone.after (ups:=[(b,none)]) (by rw[T];exact kill) ?_ g3'⟩
        rw[T];exact g2'
  ·simp at D
 ·simp at hh
end
end Gx
namespace Gx
open Go
section
variable{R:Type}{r:R}{P:Program}{J J':Bool->Nat->Prop}{β:Ch}{h:Ay}{w w':World}{g:A6}
def Step.retaint(S:SimH J β h w){d:Nat}{x:Blk}(hx:Am h d=some x)(hd:x.dead=false)(hs:x.sealed=false)(hp:x.pure=true)(hxm:x.mp=false)(o:Bool):
  Step J β h w J β (Fp h d {x with taint:=x.taint||o}) w:=by
 have E:Ext J β h w J β (Fp h d {x with taint:=x.taint||o}) w:=by
  refine⟨fun _ _ hj=>hj,fun o k hj=>rfl,fun b z C=>?_,fun b k o hβ=>Axo _⟩
  by_cases e:b=d
  ·subst e;rw[hx]at C;simp at C;subst C
   exact⟨{x with taint:=x.taint||o},⟨by rw[Ah,if_pos rfl],rfl⟩,.inr ⟨hd,rfl,rfl,fun _=>rfl⟩⟩
  ·refine⟨z,⟨by rw[Ah,if_neg e];exact C,rfl⟩,?_⟩
   cases hd:z.dead
   ·exact .inr ⟨rfl,rfl,rfl,fun _=>rfl⟩
   ·exact .inl rfl
 refine⟨E,⟨S.jlt,S.jft,S.gl.ext E,fun b z C D hm=>?_,fun b z C D hm=>by
   rw[Ah]at C
   by_cases e:b=d
   ·rw[if_pos e]at C;simp at C;subst C;simp[hxm]at hm
   ·rw[if_neg e]at C
    exact(S.mblk b z C D hm).keep rfl (fun k o hβ=>rfl) (fun _ _ _ _ hj=>hj),?_⟩,rfl,rfl,rfl,Axo _,fun k hk _=>rfl,?_,fun _ _ hj=>.inl hj⟩
 ·rw[Ah]at C
  by_cases e:b=d
  ·rw[if_pos e]at C;simp at C;subst C;subst e
   rcases S.blk b x hx hd hxm with G|⟨k,o',I,L,T,G,h2,h3,h4,h5,h6,h7⟩
   ·exact .inl G
   ·refine .inr ⟨k,o',I,L,T,G,h2,h3,h4,CellsRep.ext E ⟨fun _=>?_,fun hh=>?_⟩,fun _=>h6 hs,fun hh=>by simp[hs]at hh⟩
    ·exact RepCs.keep (J:=J x.taint) (w:=w) (UK S.jft _ _) (fun _ _=>rfl) (fun _=>rfl) (h5.1 hp)
    ·simp[hp]at hh
  ·rw[if_neg e]at C
   rcases S.blk b z C D hm with G|⟨k,o,I,L,T,G,h2,h3,h4,h5,h6,h7⟩
   ·exact .inl G
   ·exact .inr ⟨k,o,I,L,T,G,h2,h3,h4,h5.ext E,h6,h7⟩
 ·intro b b' z z' k oo oo' C hb' hd1 hd2 Y hβ hβ'
  have get:∀{c y},Am (Fp h d {x with taint:=x.taint||o}) c=some y->y.dead=false->∃ y',Am h c=some y'/\y'.dead=false/\(y.sealed=false->y'.sealed=false):=by
   intro c y hc hyd
   rw[Ah]at hc
   by_cases e:c=d
   ·subst e;exact⟨x,hx,hd,fun _=>hs⟩
   ·rw[if_neg e]at hc;exact⟨y,hc,hyd,id⟩
  obtain⟨y1,g1,g2,g3⟩:=get C hd1
  obtain⟨y2,g4,g5,g6⟩:=get hb' hd2
  exact S.sep b b' y1 y2 k oo oo' g1 g4 g2 g5 (g3 Y) hβ hβ'
 ·rintro k ⟨b,z,o,C,D,Y,hβ⟩ hk
  rw[Ah]at C
  by_cases e:b=d
  ·subst e;exact⟨b,x,o,hx,hd,hs,hβ⟩
  ·rw[if_neg e]at C
   exact⟨b,z,o,C,D,Y,hβ⟩
def oF(c:LA)(off:Nat):Dd c off []=c:=by simp[Dd]
def j9{kd:IntKind}:∀(n:Nat)(c:LA)(k:LA->O R),YO kd n c k=some r->∃ vs,k vs=some r/\vs.length=n/\∀(j:Nat)(v:AV),vs[j]?=some v->(∃ i,v=.int kd i)/\c[j]?=some v
|0,_,k,h=>⟨[],h,rfl,by simp⟩
| n+1,c,k,h=>by
  rw[YO]at h
  obtain⟨x,I,h⟩:=ub h
  obtain⟨i,hi,h⟩:=ub h
  obtain⟨vs,L,T,Y⟩:=j9 n _ _ h
  refine⟨_,L,by simp[T],fun j v C=>?_⟩
  cases j with
  | zero =>
   simp at C;subst C
   refine⟨⟨_,rfl⟩,?_⟩
   rw[<-Ayp,I]
   unfold WS at hi
   split at hi
   ·obtain⟨D,hn⟩:=uc hi
    simp[Kc]at D hn;subst D;subst hn;rfl
   ·cases hi
  |succ j =>
   simp at C
   obtain⟨h4,G⟩:=Y j v C
   refine⟨h4,?_⟩
   rw[Ayw]at G
   rw[<-G,A0y]
def wz {t tx ty el sz b off n:TypeId} {y:Blk} {q:LA×Nat×Bool} {us:List Value} {vs vx:Value} {k:AV->D7->O R} (S:SimH J β h w) (hu:P.underlying t=some (.slice el)) (hsz:Bk P el=some sz) (hb:Am h b=some y) (hd:y.dead=false)
  (hh:gH P el sz b off n y q k=some r) (hs:Rep J β h w (.own b off n) vs) (Y:Yield P w sz vx q.2.1 us) (hul:q.1.length=us.length) (hur:RepCs (J q.2.2) w q.1 (fun j=>us[j]?) 0) :
  ∃ val ups,k val ups=some r/\∃ u w',(Builtin.copy_ #[t,tx] ty #[vs,vx]).run P w=.ok u w'/\OpDone J β h w ups val u w':=by
 unfold gH at hh
 split at hh
 ·rename_i kd hk
  obtain⟨hc,h1⟩:=uc hh
  simp at hc
  obtain⟨c0,c1,c2,c3,c4,c5,c6⟩:=hc
  subst c0
  obtain⟨ws,h2,hw,hws⟩:=j9 _ _ _ h1
  have hone:=RepCs.one hur hul.symm
  refine⟨_,_,h2,?_⟩
  rw[Rep]at hs
  obtain⟨y',A,cap,⟨D,hmp⟩,rfl,hcap,hr⟩:=hs
  rw[hb]at D;simp at D;subst D
  have hm:Nat.min q.2.1 n=n:=Nat.min_eq_right c5
  have C:=Y.cells w n (fun _=>rfl) c5
  have hlen:=Y.len w
  rcases hr with hr|⟨kk,o,rfl,hr⟩
  ·omega
  ·rcases hr with hr|⟨r1,r2,r3⟩
   ·simp[hd]at hr
   ·rcases S.blk b y hb hd hmp with⟨hn',_⟩|⟨k',o',cs,ty',fr,G,g1,g2,g3,g4,g5,g6⟩
    ·rw[r1]at hn';simp at hn'
    ·rw[r1]at G;simp at G;obtain⟨rfl,rfl⟩:=G
     have hul':=Y.length
     have htl:(us.take (n*1)).length=n:=by rw[Ax6];omega
     obtain⟨cs',O,hO⟩:=OnlyBlk.setCells (k:=kk) (us.take (n*1)) (o+off) w cs g1
     have I:=run_storeCells_cells (P:=P) kk (o+off) (us.take (n*1)) 0 w (fun j T=>by
       rw[Ayq,Nf g1];simp;omega)
      (fun j T=>by
       rw[Ayq];simp only[World.frozen?,g1]
       have:=g2.1.at (o+off+j) (by omega)
       cases fr;simp at this ⊢;omega) (fun u hu=>hone u (A1g hu))
     simp only[Ayq]at I
     have B:=Step.set (x':={ y with cells:=Dd y.cells off ws }) S hb hd c3 r1 O hd c3 rfl (L6 (by omega)) ⟨fun hp=>by simp[c4] at hp,fun _=>by
      intro j x T
      rw[Uc (by omega),hw]at T
      split at T
      ·obtain⟨⟨i,rfl⟩,h5⟩:=hws _ _ T
       obtain⟨u,L,hr⟩:=hur.at h5
       refine⟨u,?_,?_,?_⟩
       ·show cs'[o+j]?=some u
        rw[hO,if_pos (by omega),Azn,if_pos (by omega),<-L];congr 1;omega
       ·rw[RepC]at hr;rw[Rep];exact hr
       ·rw[RepC]at hr;rw[hr];rfl
      ·obtain⟨u,L,hr⟩:=g4.2 c4 j x T
       refine⟨u,?_,hr⟩
       show cs'[o+j]?=some u
       rw[hO,if_neg (by omega)];exact L⟩ hmp
     refine⟨.int .i64 (n:Nat),_,?_,J,β,B,by rw[Rep]⟩
     simp only[Ax4]at I
     simp[Builtin.copy_,run_underlying hu,hlen,Ck hsz,hm,C,goInt,I]
 ·cases hh
def z7 {t tx ty:TypeId} {s x:AV} {vs vx:Value} {k:AV->D7->O R} (S:SimH J β h w) (hl:Looks g h) (hh:uK P g t s x k=some r) (hs:Rep J β h w s vs) (hx:Rep J β h w x vx) :
  ∃ val ups,k val ups=some r/\∃ u w',(Builtin.copy_ #[t,tx] ty #[vs,vx]).run P w=.ok u w'/\OpDone J β h w ups val u w':=by
 unfold uK at hh
 split at hh
 ·rename_i el b off n L
  obtain⟨sz,G,h1⟩:=ub hh
  obtain⟨y,hy,h2⟩:=ub h1
  obtain⟨new,us,h3,Y,hul,I⟩:=JX (P:=P) S hl h2 hx
  obtain⟨hb,hd⟩:=Dr hl hy
  cases hcc:(y.pure&&(!y.sealed&&beq sz y.sz))with
  |false=>rw[hcc]at h3;exact wz S L G hb hd h3 hs Y hul I
  |true =>
  rw[hcc]at h3
  have h4:=h3
  simp only[cond_true]at h4
  have hc:=hcc
  simp at hc
  obtain⟨c1,c2,c3⟩:=hc
  subst c3
  have hone:=RepCs.one I hul.symm
  refine⟨_,_,h4,?_⟩
  rw[Rep]at hs
  obtain⟨y',A,cap,⟨hy1,hmp⟩,rfl,hcap,hr⟩:=hs
  rw[hb]at hy1;simp at hy1;subst hy1
  have hm:Nat.min new.2.1 n<=new.2.1:=Nat.min_le_left _ _
  have C:=Y.cells w (Nat.min new.2.1 n) (fun _=>rfl) hm
  have D:=Y.len w
  by_cases hn0:Nat.min new.2.1 n*y.sz=0
  ·
   refine⟨.int .i64 (Nat.min new.2.1 n:Nat),w,?_,J,β,?_,by rw[Rep]⟩
   ·have e:us.take (Nat.min new.2.1 n*y.sz)=[]:=by rw[hn0];rfl
    rw[e]at C
    cases A with
    |none=>simp[Builtin.copy_,run_underlying L,D,Ck G,C,goInt]
    |some a=>simp[Builtin.copy_,run_underlying L,D,Ck G,C,goInt,storeCells]
   ·have e:(new.1.take (min new.2.1 n*y.sz))=[]:=by
     have:min new.2.1 n*y.sz=0:=hn0
     rw[this];rfl
    have T:=Step.retaint S hb hd c2 c1 hmp new.2.2
    simp only[An]
    rw[e,oF]
    exact T
  ·rcases hr with hr|⟨kk,o,rfl,hr⟩
   ·have:n=0:=by omega
    subst this;simp at hn0
   ·rcases hr with hr|⟨r1,r2,r3⟩
    ·simp[hd]at hr
    ·rcases S.blk b y hb hd hmp with⟨hn',_⟩|⟨k',o',cs,ty',fr,hβ',g1,g2,g3,g4,g5,g6⟩
     ·rw[r1]at hn';simp at hn'
     ·rw[r1]at hβ';simp at hβ';obtain⟨rfl,rfl⟩:=hβ'
      have hle1:Nat.min new.2.1 n*y.sz<=new.2.1*y.sz:=Axs _ hm
      have hle2:Nat.min new.2.1 n*y.sz<=n*y.sz:=Axs _ (Nat.min_le_right _ _)
      have hul':=Y.length
      have htl:(us.take (Nat.min new.2.1 n*y.sz)).length=Nat.min new.2.1 n*y.sz:=by rw[Ax6];omega
      have htl':(new.1.take (Nat.min new.2.1 n*y.sz)).length=Nat.min new.2.1 n*y.sz:=by rw[Ax6];omega
      obtain⟨cs',O,hO⟩:=OnlyBlk.setCells (k:=kk) (us.take (Nat.min new.2.1 n*y.sz)) (o+off) w cs g1
      have hst:=run_storeCells_cells (P:=P) kk (o+off) (us.take (Nat.min new.2.1 n*y.sz)) 0 w (fun j hj=>by
        rw[Ayq,Nf g1];simp;omega)
       (fun j hj=>by
        rw[Ayq];simp only[World.frozen?,g1]
        have:=g2.1.at (o+off+j) (by omega)
        cases fr;simp at this ⊢;omega) (fun u L=>hone u (A1g L))
      simp only[Ayq]at hst
      have B:=Step.set (x':={ y with cells:=Dd y.cells off (new.1.take (Nat.min new.2.1 n*y.sz)),taint:=y.taint||new.2.2 }) S hb hd c2 r1 O hd c2 rfl (L6 (by omega)) ⟨fun _=>by
       show RepCs (J (y.taint||new.2.2)) w (Dd y.cells off (new.1.take (Nat.min new.2.1 n*y.sz))) _ 0
       rw[By]
       intro j q hj
       rw[Uc (by omega),htl']at hj
       simp only[Ax0]
       split at hj
       ·obtain⟨u,hu',hr⟩:=(I.take _).at hj
        refine⟨u,?_,RepC.keep (J:=J new.2.2) (w:=w) (oE S.jft _ _) (fun _ _=>rfl) hr⟩
        rw[hO,if_pos (by omega),Azn,if_pos (by omega),<-hu'];congr 1;omega
       ·obtain⟨u,hu',hr⟩:=(g4.1 c1).at hj
        refine⟨u,?_,RepC.keep (J:=J y.taint) (w:=w) (UK S.jft _ _) (fun _ _=>rfl) hr⟩
        rw[hO,if_neg (by omega)];exact hu',fun hp=>by simp[c1] at hp⟩ hmp
      refine⟨.int .i64 (Nat.min new.2.1 n:Nat),_,?_,J,β,B,by rw[Rep]⟩
      simp[Builtin.copy_,run_underlying L,D,Ck G,C,goInt,hst]
 ·rename_i el L
  obtain⟨sz,G,h1⟩:=ub hh
  obtain⟨new,us,h2,Y,hul,I⟩:=JX (P:=P) S hl h1 hx
  rw[Rep]at hs;subst hs
  have D:=Y.len w
  have C:=Y.cells w 0 (fun _=>rfl) (A07 _)
  simp at C
  refine⟨_,_,h2,.int .i64 0,w,?_,J,β,Step.refl S,by rw[Rep]⟩
  have hm:∀ m:Nat,Nat.min m 0=0:=fun m=>Nat.min_eq_right (A07 _)
  simp[Builtin.copy_,run_underlying L,D,Ck G,hm,C,goInt]
 ·simp at hh
def xA {t ty:TypeId} {s:AV} {vs:Value} {k:AV->D7->O R} (S:SimH J β h w) (hl:Looks g h) (hh:gJ P g t s k=some r) (hs:Rep J β h w s vs) :
  ∃ val ups,k val ups=some r/\∃ u w',(Builtin.clear_ #[t] ty #[vs]).run P w=.ok u w'/\OpDone J β h w ups val u w':=by
 unfold gJ at hh
 split at hh
 ·rename_i el b off n hu
  obtain⟨sz,hsz,h1⟩:=ub hh
  obtain⟨z,hz,h2⟩:=ub h1
  obtain⟨y,hy,h3⟩:=ub h2
  obtain⟨hc,h4⟩:=uc h3
  simp at hc
  obtain⟨c1,c2,c3⟩:=hc
  subst c3
  obtain⟨hb,hd⟩:=Dr hl hy
  obtain⟨i,v,hi,hv,rfl,hp,e1,e2⟩:=Qp hz
  have hs':i.size=y.sz:=by simp[Bk,hi]at hsz;exact hsz
  have hzv:∀ w,(zeroValue el).run P w=.ok v w:=fun w=>by simp[zeroValue,typeInfo,hi,hv]
  have C:=Ge n (Li v.cells.toList)
  rw[e2,hs']at C
  have hzc:Builtin.zeroCells v.cells n=madeCells v.cells (n*v.cells.size):=rfl
  have hul:(Builtin.zeroCells v.cells n).toList.length=n*y.sz:=by rw[hzc,A03,size_madeCells,e1,hs']
  have hur:RepCs (J y.taint) w (Fa n (Li v.cells.toList)) (fun j=>(Builtin.zeroCells v.cells n).toList[j]?) 0:=by
   have:=KA (J:=J y.taint) (w:=w) hp n (n*v.cells.size) (Axo _)
   rw[<-hzc]at this
   simpa using this
  have hone:=RepCs.one hur (by rw[hul,C])
  refine⟨_,_,h4,?_⟩
  rw[Rep]at hs
  obtain⟨y',A,cap,⟨G,I⟩,rfl,hcap,hr⟩:=hs
  rw[hb]at G;simp at G;subst G
  by_cases D:n*y.sz=0
  ·have e0:(Builtin.zeroCells v.cells n).toList=[]:=A2d (by rw[hul,D])
   refine⟨.tuple #[],w,?_,J,β,?_,by rw[Rep];exact⟨[],rfl,by rw[Reps]⟩⟩
   ·cases n with
    |zero=>cases A<;>simp[Builtin.clear_,run_underlying hu]
    |succ n =>
     cases A with
     |none=>simp[Builtin.clear_,run_underlying hu]
     |some a=>simp[Builtin.clear_,run_underlying hu,hzv,e0,storeCells]
   ·have e:Fa n (Li v.cells.toList)=[]:=A2d (by rw[C,D])
    have T:=Step.retaint S hb hd c2 c1 I false
    simp only[An]
    rw[e,oF]
    simpa using T
  ·rcases hr with hr|⟨kk,o,rfl,hr⟩
   ·have:n=0:=by omega
    subst this;simp at D
   ·rcases hr with hr|⟨r1,r2,r3⟩
    ·simp[hd]at hr
    ·rcases S.blk b y hb hd I with⟨hn',_⟩|⟨k',o',cs,ty',fr,L,g1,g2,g3,g4,g5,g6⟩
     ·rw[r1]at hn';simp at hn'
     ·rw[r1]at L;simp at L;obtain⟨rfl,rfl⟩:=L
      obtain⟨cs',O,hO⟩:=OnlyBlk.setCells (k:=kk) (Builtin.zeroCells v.cells n).toList (o+off) w cs g1
      have hst:=run_storeCells_cells (P:=P) kk (o+off) (Builtin.zeroCells v.cells n).toList 0 w (fun j hj=>by
        rw[Ayq,Nf g1];simp;omega)
       (fun j hj=>by
        rw[Ayq];simp only[World.frozen?,g1]
        have:=g2.1.at (o+off+j) (by omega)
        cases fr;simp at this ⊢;omega) (fun u hu=>hone u hu)
      simp only[Ayq]at hst
      have B:=Step.set (x':={ y with cells:=Dd y.cells off (Fa n (Li v.cells.toList)) }) S hb hd c2 r1 O hd c2 rfl (L6 (by omega)) ⟨fun _=>by
       show RepCs (J y.taint) w (Dd y.cells off (Fa n (Li v.cells.toList))) _ 0
       rw[By]
       intro j q hj
       rw[Uc (by omega),C]at hj
       simp only[Ax0]
       split at hj
       ·obtain⟨u,Y,hr⟩:=hur.at hj
        refine⟨u,?_,hr⟩
        rw[hO,if_pos (by omega),<-Y];congr 1;omega
       ·obtain⟨u,Y,hr⟩:=(g4.1 c1).at hj
        refine⟨u,?_,hr⟩
        rw[hO,if_neg (by omega)];exact Y,fun hp=>by simp[c1] at hp⟩ I
      refine⟨.tuple #[],_,?_,J,β,B,by rw[Rep];exact⟨[],rfl,by rw[Reps]⟩⟩
      cases n with
      |zero=>simp at D
      |succ n=>simp[Builtin.clear_,run_underlying hu,hzv,hst]
 ·simp at hh
def WZ:∀{c:LA}{s:Lu}{us:List Value}{J:Nat->Prop},bO c=some s->RepCs J w c (fun j=>us[j]?) 0->c.length=us.length ->
  ∃ ns:List Int,us=ns.map (Value.int .u8)/\s=ns.map (fun n=>UInt8.ofNat n.toNat)
|[],s,us,J,G,hc,L=>by
  simp[bO]at G;subst G
  have:us=[]:=by cases us<;>simp_all
  exact⟨[],by simp[this],rfl⟩
| x::r,s,us,J,G,hc,L=>by
  rw[bO]at G
  obtain⟨b,k,h1⟩:=ub G
  obtain⟨l,T,h2⟩:=ub h1
  simp at h2;subst h2
  cases us with
  |nil=>simp at L
  | cons u us =>
   rw[RepCs]at hc
   obtain⟨⟨u',I,hr⟩,C⟩:=hc
   simp at I;subst I
   unfold Ako at k
   split at k
   ·rename_i n
    simp at k;subst k
    rw[RepC]at hr;subst hr
    have D:RepCs J w r (fun j=>us[j]?) 0:=by
     rw[By]at C ⊢
     intro j y hj
     obtain⟨v,hv,Y⟩:=C j y hj
     refine⟨v,?_,Y⟩
     rw[show 0+1+j=j+1 by omega]at hv
     simpa using hv
    obtain⟨ns,h3,h4⟩:=WZ T D (by simpa using L)
    exact⟨n::ns,by simp[h3],by simp[h4]⟩
   ·simp at k
def Ak2:∀(ns:List Int)(s:Lu),(ns.foldl (fun r n=>r.push (UInt8.ofNat n.toNat)) (⟨⟨s⟩⟩:ByteArray))=⟨⟨s++ns.map fun n=>UInt8.ofNat n.toNat⟩⟩
|[],s=>by simp
| n::r,s=>by
  rw[A1r]
  have:(⟨⟨s⟩⟩:ByteArray).push (UInt8.ofNat n.toNat)=⟨⟨s++[UInt8.ofNat n.toNat]⟩⟩:=by
   simp[ByteArray.push]
  rw[this,Ak2 r];simp
def z8 {d:Nat} {src dst:TypeId} {x:AV} {vx:Value} {k:AV->D7->O R} (S:SimH J β h w) (hl:Looks g h) (hh:uL P g d src dst x k=some r) (C:Rep J β h w x vx) :
  ∃ val ups,k val ups=some r/\(UpsFree d h ups->∃ u w',(convert src dst vx).run P w=.ok u w'/\OpDone J β h w ups val u w'):=by
 unfold uL at hh
 split at hh
 ·rename_i kd L
  split at hh
  ·rename_i kd' n
   rw[Rep]at C;subst C
   obtain⟨hsome,h1⟩:=uc hh
   obtain⟨s,hs⟩:=A3e.1 hsome
   refine⟨_,_,h1,fun _=>⟨.int kd (kd.wrap n),w,?_,J,β,Step.refl S,by rw[Rep]⟩⟩
   cases s<;>simp[convert,run_underlying hs,run_underlying L,Conv.intToInt]
  ·simp at hh
 ·rename_i L
  split at hh
  ·rename_i hs
   split at hh
   ·rename_i s
    rw[Rep]at C;subst C
    refine⟨_,_,hh,fun _=>⟨.string ⟨⟨s⟩⟩,w,?_,J,β,Step.refl S,by rw[Rep]⟩⟩
    simp[convert,run_underlying hs,run_underlying L]
   ·simp at hh
  ·rename_i I hs
   split at hh
   ·rename_i he
    split at hh
    ·simp at hh
    ·rename_i hns
     obtain⟨q,hq,h1⟩:=ub hh
     obtain⟨s,hs',h2⟩:=ub h1
     obtain⟨us,Y,hul,hur⟩:=j8 (P:=P) S hl hq C
     obtain⟨ns,e1,e2⟩:=WZ hs' hur hul
     refine⟨_,_,h2,fun _=>⟨.string ⟨⟨s⟩⟩,w,?_,J,β,Step.refl S,by rw[Rep]⟩⟩
     have hv:∃ A n cap,vx=.slice A n cap:=by
      unfold uH at hq
      split at hq
      ·rw[Rep]at C;exact⟨_,_,_,C⟩
      ·rw[Rep,RepC]at C;obtain⟨_,A,cap,rfl,_⟩:=C;exact⟨_,_,_,rfl⟩
      ·rw[Rep]at C;obtain⟨_,A,cap,_,rfl,_⟩:=C;exact⟨_,_,_,rfl⟩
      ·exact absurd rfl (hns _)
      ·simp at hq
     obtain⟨A,n,cap,rfl⟩:=hv
     have hn:q.2.1=n:=by have:=Y.len w;simpa[Builtin.lenOf]using this.symm
     have hc:=Y.cells w n (fun _=>rfl) (by omega)
     have hyl:=Y.length
     rw[hn]at hyl
     rw[show us.take (n*1)=us by rw[<-hyl,Ayk]]at hc
     have hconv:(convert src dst (.slice A n cap)).run P w=(Conv.bytesToString (.slice A n cap)).run P w:=by
      cases A<;>simp[convert,run_underlying hs,run_underlying L,run_underlying he]
     rw[hconv]
     cases A with
     |none =>
      rw[run_firstCells_none]at hc
      injection hc with hc1 _
      have hus:us=[]:=by simpa using hc1.symm
      rw[hus]at e1
      have hns':ns=[]:=by simpa using e1.symm
      rw[hns']at e2
      simp at e2;subst e2
      simp[Conv.bytesToString];rfl
     |some a =>
      simp only[Builtin.firstCells,Ax4]at hc
      rw[e1]at hc
      rw[run_bytesToString w a n cap ns hc,e2]
      have:=Ak2 ns []
      simp at this
      rw[<-this];rfl
   ·simp at hh
  ·simp at hh
 ·rename_i I L
  split at hh
  ·rename_i e' b off n hs he
   obtain⟨D,h1⟩:=uc hh
   simp only[Axr]at D
   obtain⟨D,hn1⟩:=D
   have hn1:1<=n:=by simpa using hn1
   have D:=Axy D
   subst D
   have hee:e'=I:=by rw[hs]at L;simpa using L
   subst hee
   obtain⟨x,G,h2⟩:=ub h1
   obtain⟨hsl,h3⟩:=Ac2 h2
   obtain⟨G,hd⟩:=Dr hl G
   refine⟨_,_,h3,fun _=>?_⟩
   have hx':=C
   rw[Rep]at C
   obtain⟨x0,A,cap,⟨hx0,hmp⟩,rfl,hle,hr⟩:=C
   rw[G]at hx0;simp at hx0;subst hx0
   rcases hr with hr|⟨k1,o1,rfl,hr⟩
   ·omega
   ·rcases hr with hr|⟨hβ,_,_⟩
    ·simp[hd]at hr
    ·rcases S.blk b x G hd hmp with⟨h4,_⟩|⟨k2,o2,cs,ty,fr,h4,h5,h6,h7,h8,h9,h10⟩
     ·rw[hβ]at h4;simp at h4
     ·rw[hβ]at h4;simp at h4;obtain⟨rfl,rfl⟩:=h4
      have hsh:w.shape? k1=some (ty,cs.size):=by simp[World.shape?,h5]
      have hnew:∃ fr',(w.freeze ⟨k1,cs.size,none⟩ 1).heap[k1]?=some (.cells cs ty fr')/\FrOk cs.size fr':=by
       obtain⟨lo,hi⟩:=fr
       refine⟨if lo==hi then(cs.size,cs.size+1)else(min lo cs.size,max hi (cs.size+1)),?_,?_⟩
       ·simp[World.freeze,Azg,h5]
       ·by_cases e:lo=hi
        ·simp[e,FrOk]
        ·have h11:cs.size<=lo:=by rcases h6 with h6|h6;exact absurd h6 e;exact h6
         simp[e,FrOk];omega
      obtain⟨fr',hf1,hf2⟩:=hnew
      have A:=Step.mark S G hd hsl hβ h5 hf1 hf2 (fun j T=>by
       simp only[World.freeze]
       rw[if_neg (by decide)]
       show(w.heap.modify k1 _)[j]?=_
       rw[Azg,if_neg (fun e=>T e.symm)]) (by simp[World.freeze]) rfl rfl rfl hmp
      refine⟨_,w.freeze ⟨k1,cs.size,none⟩ 1,?_,J,β,A,Rep.ext A.ext hx'⟩
      simp[convert,run_underlying hs,run_underlying he,markStringish,hsh]
  ·rename_i s hs he
   rw[Rep]at C;subst C
   refine⟨_,_,hh,fun hn=>⟨_,_,run_bytes_of_string (P:=P) w src dst I ⟨⟨s⟩⟩ hs L he,?_⟩⟩
   replace hn:=hn.nid (by simp[Rv,A4])
   have hsz:(⟨⟨s⟩⟩:ByteArray).size=s.length:=rfl
   have hcap:s.length<=grownCap w s.length 0 I:=by unfold grownCap;simp[Question.cut]
   rw[hsz]
   obtain⟨J',β',B1,B2⟩:=b6 (d:=d) (n:=s.length) (cap:=grownCap w s.length 0 I) (sz:=1) (ty:=I) (fr:=((bytesRow ⟨⟨s⟩⟩ (grownCap w s.length 0 I)).size,(bytesRow ⟨⟨s⟩⟩ (grownCap w s.length 0 I)).size+1))
    (x:={dead:=false,sealed:=false,pure:=true,taint:=false,sz:=1,cells:=s.map fun b=>.int .u8 (b.toNat:Int)})
    (cs:=bytesRow ⟨⟨s⟩⟩ (grownCap w s.length 0 I)) (Step.drew S).sim hn rfl rfl rfl (FrOk.un (.inr (Axo _))) (by simp) (by simp[bytesRow,hsz];omega) hcap
    ⟨fun _=>by
     show RepCs (J false) w.drew (s.map fun b=>.int .u8 (b.toNat:Int)) _ 0
     rw[By]
     intro j q T
     rw[A0n]at T
     cases hb:s[j]? with
     |none=>rw[hb]at T;simp at T
     |some b =>
      rw[hb]at T;simp at T;subst T
      refine⟨.int .u8 (b.toNat:Int),?_,by rw[RepC]⟩
      have hlt:j<s.length:=(Axw.1 hb).1
      simp only[Ax0,bytesRow]
      rw[A0r (by simp;exact hlt)]
      simp[hb],fun hp=>by simp at hp⟩
   exact⟨J',β',(Step.drew S).trans B1 (fun _ k _ _=>by rw[<-KB];exact Qo _ _ k),B2⟩
  ·simp at hh
 ·simp at hh
def oG{t:TypeId}{n:Nat}(h:Bk P t=some n):∃ j,P.info? t=some j/\j.size=n:=by
 unfold Bk at h
 cases hq:P.info? t with
|none=>rw[hq]at h;cases h
|some j=>rw[hq]at h;simp at h;exact⟨j,rfl,h⟩
def xB{d:Nat}{src dst:TypeId}{x:AV}{vx:Value}{k:AV->D7->O R}(S:SimH J β h w)(hl:Looks g h)(hh:gK P g d src dst x k=some r)(I:Rep J β h w x vx):
  ∃ val ups,k val ups=some r/\(UpsFree d h ups->∃ u w',(convert src dst vx).run P w=.ok u w'/\OpDone J β h w ups val u w'):=by
 unfold gK at hh
 split at hh
 ·rename_i hd
  split at hh
  ·rename_i t b off hs
   obtain⟨n,hn,hh⟩:=ub hh
   obtain⟨y,hy,hh⟩:=ub hh
   obtain⟨hc,hh⟩:=uc hh
   simp at hc
   obtain⟨G,C⟩:=Dr hl hy
   have L:=I
   rw[Rep]at I
   obtain⟨x1,k1,o1,⟨T,gm⟩,rfl,D⟩:=I
   rw[G]at T;simp at T;subst T
   rcases D with D|D
   ·rw[D]at C;cases C
   obtain⟨j,hj,Y⟩:=oG hn
   rcases S.blk b y G C gm with⟨e1,e2⟩|⟨k2,o2,cs,ty,fr,e1,e2,e3,e4,e5⟩
   ·rw[D]at e1;cases e1
   ·rw[D]at e1;simp at e1;obtain⟨rfl,rfl⟩:=e1
    refine⟨_,_,hh,fun _=>⟨_,w,Lib.run_to_unsafe w ⟨k1,o1+off,none⟩ hs hd hj (by rw[Y];exact fun e=>by rw[e]at hc;simp at hc) (e:=ty) (cells:=cs.size) (by simp[World.shape?,e2]) (by show o1+off<_;omega),J,β,Step.refl S,L⟩⟩
  ·cases hh
 ·rename_i u hd
  split at hh
  ·rename_i b off hs
   obtain⟨n,hn,hh⟩:=ub hh
   obtain⟨y,hy,hh⟩:=ub hh
   obtain⟨q,hq,hh⟩:=ub hh
   obtain⟨hc,hh⟩:=uc hh
   simp at hc
   obtain⟨G,C⟩:=Dr hl hy
   have L:=I
   rw[Rep]at I
   obtain⟨x1,k1,o1,⟨T,gm⟩,rfl,D⟩:=I
   rw[G]at T;simp at T;subst T
   rcases D with D|D
   ·rw[D]at C;cases C
   obtain⟨j,hj,Y⟩:=oG hn
   rcases S.blk b y G C gm with⟨e1,e2⟩|⟨k2,o2,cs,ty,fr,e1,e2,e3,e4,e5⟩
   ·rw[D]at e1;cases e1
   ·rw[D]at e1;simp at e1;obtain⟨rfl,rfl⟩:=e1
    obtain⟨rfl,rfl,e6⟩:=e3.2 q.1 q.2 hq
    have e6:cs.size=q.2:=by omega
    refine⟨_,_,hh,fun _=>⟨_,w,Lib.run_from_unsafe w ⟨k1,0+off,none⟩ hs hd hj (e:=q.1) (cells:=cs.size) (by simp[World.shape?,e2]) (by show liesAt P P.depth q.1 (cs.size/_) (0+off) u 1=true;rw[e6,Ax0];exact hc.2.2),J,β,Step.refl S,L⟩⟩
  ·cases hh
 ·exact z8 S hl hh I
def Adc{fn : Func}(k : fn.name = "internal/abi.NoEscape"): Extern.find fn = some Extern.AbiNoEscape.same := by
 have l1 : Extern.allGenericRows.lookup "internal/abi.NoEscape" = none := by kernel_rfl
 have l2 : Extern.allTypedRows.lookup "internal/abi.NoEscape" = none := by kernel_rfl
 have l3 : Extern.allRows.lookup "internal/abi.NoEscape" = some Extern.AbiNoEscape.same := by kernel_rfl
 unfold Extern.find
 simp only[k,l1,l2,l3]
 rfl
def oH{fn : Func}(k : fn.name = "internal/abi.NoEscape")(C : fn.origin = ""): Extern.findNext fn = none := by
 have l1 : Extern.allNextRows.lookup "internal/abi.NoEscape" = none := by kernel_rfl
 have l2 : Extern.allNextRows.lookup "" = none := by kernel_rfl
 unfold Extern.findNext
 simp only[k,C,l1,l2]
 rfl
def Ahw{f:Nat}(h:Akw P f=true)(x:Value)(w:World):(callFunc f #[x]).run P w=.ok (.value x) w:=by
 unfold Akw at h
 split at h
 ·rename_i fn C
  simp only[Axr]at h
  obtain⟨D,hn,k⟩:=h
  have hn : fn.name = "internal/abi.NoEscape" := by simpa using hn
  have k : fn.origin = "" := by simpa using k
  rw[run_callFunc_extern C (by rw[hn];decide) D (oH hn k) (Adc hn)]
  rfl
 ·cases h
def Ade{x:AV}{b:UInt8}(h:w_ x=some b):x=.int .u8 (b.toNat:Int):=by
 unfold w_ at h
 split at h
 ·rename_i n
  obtain⟨C,k⟩:=uc h
  simp at k;subst k
  have:=of_decide_eq_true C
  rw[this]
 ·cases h
def QO:∀{c:LA}{s:Lu},QF c=some s->c=s.map fun b=>.int .u8 (b.toNat:Int)
|[],s,h=>by simp[QF]at h;subst h;rfl
|x::r,s,h=>by
  rw[QF]at h
  obtain⟨b,k,h⟩:=ub h
  obtain⟨l,C,h⟩:=ub h
  simp at h;subst h
  rw[Ade k,QO C];rfl
def gS{d:Nat}{ts:Array TypeId}{ty:TypeId}{x:AV}{vx:Value}{k:AV->D7->O R}(S:SimH J β h w)(T:Looks g h)(hh:T7 g x k=some r)(I:Rep J β h w x vx):
  ∃ val ups,k val ups=some r/\(UpsFree d h ups->∃ u w',(Builtin.unsafeSliceData_ ts ty #[vx]).run P w=.ok u w'/\OpDone J β h w ups val u w'):=by
 unfold T7 at hh
 split at hh
 ·rw[Rep]at I;subst I
  exact⟨_,_,hh,fun _=>⟨.pointer none,w,rfl,J,β,Step.refl S,by rw[Rep]⟩⟩
 ·rename_i b off n
  obtain⟨y,Y,hh⟩:=ub hh
  obtain⟨hn,hh⟩:=uc hh
  have hn:0<n:=by simpa using hn
  obtain⟨D,G⟩:=Dr T Y
  rw[Rep]at I
  obtain⟨z,A,cap,⟨L,gm⟩,rfl,h1,C⟩:=I
  rw[D]at L;simp at L;subst L
  rcases C with C|⟨k1,o1,rfl,C⟩
  ·omega
  rcases C with C|⟨C,_⟩
  ·rw[C]at G;cases G
  refine⟨_,_,hh,fun _=>⟨_,w,Lib.run_unsafeSliceData_row w ts ty _ n cap (by omega),J,β,Step.refl S,?_⟩⟩
  rw[Rep]
  exact⟨y,k1,o1,⟨D,gm⟩,rfl,.inr C⟩
 ·cases hh
def gT{d:Nat}{t it ty:TypeId}{x n:AV}{vx vn:Value}{k:AV->D7->O R}(S:SimH J β h w)(hl:Looks g h)(hh:T8 P g t x n k=some r)(hx:Rep J β h w x vx)(hv:Rep J β h w n vn):
  ∃ val ups,k val ups=some r/\(UpsFree d h ups->∃ u w',(Builtin.unsafeString_ #[t,it] ty #[vx,vn]).run P w=.ok u w'/\OpDone J β h w ups val u w'):=by
 unfold T8 at hh
 split at hh
 ·rename_i n
  obtain⟨hn,hh⟩:=uc hh
  have hn:n=0:=by simpa using hn
  subst hn
  simp only[Rep]at hx hv;subst hx hv
  exact⟨_,_,hh,fun _=>⟨_,w,Lib.run_unsafeString_none w t it ty none,J,β,Step.refl S,by rw[Rep];rfl⟩⟩
 ·rename_i b off n
  obtain⟨y,hy,hh⟩:=ub hh
  obtain⟨q,hq,hh⟩:=ub hh
  split at hh
  ·rename_i e he
   obtain⟨hc,hh⟩:=uc hh
   obtain⟨s,hs,hk⟩:=ub hh
   simp only[Axr,A25,decide_eq_true_eq]at hc
   obtain⟨c1,c2,c3,c4,c5,c6,c7,c8⟩:=hc
   have c1:=Axy c1
   have c2:=Axy c2
   have c5:=Axy c5
   obtain⟨D,G⟩:=Dr hl hy
   simp only[Rep]at hx hv;subst hv
   obtain⟨z,k1,o1,⟨g1,gm⟩,rfl,L⟩:=hx
   rw[D]at g1;simp at g1;subst g1
   rcases L with L|L
   ·rw[L]at G;cases G
   rcases S.blk b y D G gm with⟨e1,Y⟩|⟨k2,o2,cs,ty2,fr,e1,Y,e3,e4,e5,e6⟩
   ·rw[L]at e1;cases e1
   rw[L]at e1;simp at e1;obtain⟨rfl,rfl⟩:=e1
   obtain⟨rfl,rfl,_⟩:=e3.2 q.1 q.2 hq
   subst c5
   have hsl:s.length=n.toNat:=by
    have:=congrArg List.length (QO hs)
    simp at this;omega
   have hsn:(n:Int)=(s.length:Int):=by omega
   subst hsn
   refine⟨_,_,hk,fun _=>⟨.string ⟨s.toArray⟩,w.freeze ⟨k1,0,none⟩ s.length,?_,J,β,?_,by rw[Rep]⟩⟩
   ·refine Lib.run_unsafeString_row w t it ty q.1 (by rw[c1];exact he) (by rw[c1];exact c2) k1 cs.size (by simp[World.shape?,Y]) s (by intro e;subst e;simp at c6) (by omega) (by omega) fun j x hj=>?_
    have hjl:j<s.length:=(Axw.1 hj).1
    have T:y.cells[j]?=some (.int .u8 (x.toNat:Int)):=by
     have h2:(y.cells.take (s.length:Int).toNat)[j]?=some (.int .u8 (x.toNat:Int)):=by rw[QO hs];simp[hj]
     rw[Azn]at h2
     split at h2
     ·exact h2
     ·cases h2
    obtain⟨u,I,hu2⟩:=By.1 (e5.1 c3) j _ T
    rw[RepC]at hu2;subst hu2
    have I:cs[j]?=some (.int .u8 (x.toNat:Int)):=by simpa using I
    by_cases ej:j=0
    ·subst ej;simp[World.cell?,Addr.add,Y,I]
    ·simp[World.cell?,Addr.add,Y,ej,I]
   ·have ap:An [(b,none)] h=Fp h b {y with dead:=true,pure:=true,cells:=[]}:=by simp[An,D]
    rw[ap]
    have C:s.length≠0:=by omega
    refine Step.giveUp S D G c4 L gm rfl (fun j hj=>?_) (by simp[World.freeze,C]) (by simp[World.freeze,C]) (by simp[World.freeze,C]) (by simp[World.freeze,C]) ?_
    ·simp only[World.freeze]
     rw[if_neg C]
     show(w.heap.modify k1 _)[j]?=_
     rw[Azg,if_neg (fun e=>hj e.symm)]
    ·obtain⟨lo,hi⟩:=fr
     have hnew:∃ fr',(w.freeze ⟨k1,0,none⟩ s.length).heap[k1]?=some (.cells cs q.1 fr'):=⟨_,by simp[World.freeze,C,Azg,Y];rfl⟩
     obtain⟨fr',hf⟩:=hnew
     rw[D3 Y,D3 hf];exact Axo _
  ·cases hh
 ·cases hh
end
end Gx
namespace Gx
open Go
def GP(CR:AV->Value->Prop)(c:LA)(cs:List Value):Prop:=c.length=cs.length/\∀(j:Nat)(x:AV)(u:Value),c[j]?=some x->cs[j]?=some u->CR x u
def PartsRel(CR:AV->Value->Prop):List (Nat×LA)->List (Nat×Value)->Prop
|[],vs=>vs=[]
|(i,c)::r,vs=>∃ v vs',vs=(i,v)::vs'/\GP CR c v.cells.toList/\PartsRel CR r vs'
def Agb:∀(vs:List Value)(n off:Nat)(cells:Array Value)(j:Nat),
  ((vs.zipIdx n).foldl (fun(cs:Array Value)(p:Value×Nat)=>cs.setIfInBounds (off+p.2) p.1) cells)[j]?=if off+n<=j/\j<off+n+vs.length/\j<cells.size then vs[j - (off+n)]? else cells[j]?
|[],n,off,cells,j=>by simp;omega
| v::r,n,off,cells,j=>by
  rw[List.zipIdx_cons,A1r,Agb r (n+1) off]
  simp only[A3b,Ayb]
  by_cases C:j=off+n
  ·subst C
   rw[if_neg (by omega)]
   by_cases k:off+n<cells.size
   ·rw[if_pos (by omega)];simp[k]
   ·rw[if_neg (by omega)];simp[k]
  ·by_cases k:off+(n+1)<=j/\j<off+(n+1)+r.length/\j<cells.size
   ·rw[if_pos k,if_pos (by omega),show j - (off+n)=(j - (off+(n+1)))+1 by omega];simp
   ·rw[if_neg k,if_neg (by omega),A15 (by omega)]
def b7:∀(vs:List Value)(n off:Nat)(cells:Array Value),((vs.zipIdx n).foldl (fun(cs:Array Value)(p:Value×Nat)=>cs.setIfInBounds (off+p.2) p.1) cells).size=cells.size
|[],_,_,_=>rfl
|v::r,n,off,cells=>by rw[List.zipIdx_cons,A1r,b7 r];simp
def AL{CR:AV->Value->Prop}{place:Nat->Option (Nat×Nat)}:∀{parts:List (Nat×LA)}{vparts:List (Nat×Value)}{c c':LA}{cs:Array Value},PartsRel CR parts vparts->GP CR c cs.toList ->
  Pf place parts c=some c'->∃ k,Instr.fill place cs vparts=some k/\GP CR c' k.toList
|[],vparts,c,c',cs,G,hc,I=>by
  rw[PartsRel]at G;subst G
  simp[Pf]at I;subst I
  exact⟨cs,rfl,hc⟩
| (i,vs)::r,vparts,c,c',cs,G,hc,I=>by
  rw[PartsRel]at G
  obtain⟨v,vs',rfl,hv,hr⟩:=G
  rw[Pf]at I
  obtain⟨p,Y,h1⟩:=ub I
  obtain⟨hb,h2⟩:=uc h1
  simp at hb
  obtain⟨b1,b2⟩:=hb
  have e1:vs.length=v.cells.size:=by have:=hv.1;simpa using this
  have e2:c.length=cs.size:=by have:=hc.1;simpa using this
  have L:p.1+vs.length<=c.length:=by omega
  have key:GP CR (setCells c p.1 vs) (v.cells.zipIdx.foldl (fun(cs:Array Value)(q:Value×Nat)=>cs.setIfInBounds (p.1+q.2) q.1) cs).toList:=by
   have C:v.cells.zipIdx.foldl (fun(cs:Array Value)(q:Value×Nat)=>cs.setIfInBounds (p.1+q.2) q.1) cs=(v.cells.toList.zipIdx 0).foldl (fun(cs:Array Value)(q:Value×Nat)=>cs.setIfInBounds (p.1+q.2) q.1) cs:=by
    rw[<-Array.foldl_toList];simp
   rw[C]
   refine⟨by rw[P8 L,e2];exact(b7 _ 0 _ _).symm,fun j x u T D=>?_⟩
   rw[JY L]at T
   rw[A3t,Agb]at D
   simp only[Ayq,A03]at D
   split at T
   ·rename_i hj
    rw[if_pos (by omega)]at D
    exact hv.2 _ x u T D
   ·rename_i hj
    rw[if_neg (by omega)]at D
    exact hc.2 j x u T (by simpa using D)
  obtain⟨k,g1,g2⟩:=AL hr key h2
  refine⟨k,?_,g2⟩
  rw[Instr.fill,Y]
  have:¬ (v.cells.size≠p.2||p.1+v.cells.size>cs.size)=true:=by simp;omega
  simp only[this]
  exact g1
section
variable{R:Type}{r:R}{P:Program}{J J':Bool->Nat->Prop}{β:Ch}{h:Ay}{w w':World}{g:A6}
def RepParts(J:Bool->Nat->Prop)(β:Ch)(h:Ay)(w:World):List (Nat×AV)->List (Nat×Value)->Prop
|[],vs=>vs=[]
|(i,x)::r,vs=>∃ v vs',vs=(i,v)::vs'/\Rep J β h w x v/\RepParts J β h w r vs'
def RepParts.ext{β':Ch}{h':Ay}(E:Ext J β h w J' β' h' w'):∀{ps:List (Nat×AV)}{vs:List (Nat×Value)},RepParts J β h w ps vs->RepParts J' β' h' w' ps vs
|[],_,hr=>hr
|(i,x)::r,vs,hr=>by
  rw[RepParts]at hr ⊢
  obtain⟨v,k,e,C,D⟩:=hr
  exact⟨v,k,e,Rep.ext E C,RepParts.ext E D⟩
def PartsRel.mono{CR CR':AV->Value->Prop}(C:∀ x u,CR x u->CR' x u):∀{ps:List (Nat×LA)}{vs:List (Nat×Value)},PartsRel CR ps vs->PartsRel CR' ps vs
|[],_,hr=>hr
|(i,c)::r,vs,hr=>by
  rw[PartsRel]at hr ⊢
  obtain⟨v,k,e,D,G⟩:=hr
  exact⟨v,k,e,⟨D.1,fun j x u I L=>C _ _ (D.2 j x u I L)⟩,PartsRel.mono C G⟩
def Vi{J:Nat->Prop}{c:LA}{us:List Value}(hc:RepCs J w c (fun j=>us[j]?) 0)(C:c.length=us.length):GP (RepC J w) c us :=
 ⟨C,fun j x u D G=>by
  obtain⟨I,k,hr⟩:=hc.at D
  rw[G] at k;simp at k;subst k;exact hr⟩
def FJ{J:Nat->Prop}{c:LA}{us:List Value}(hc:GP (RepC J w) c us):RepCs J w c (fun j=>us[j]?) 0:=by
 rw[By]
 intro j x k
 have:j<us.length:=by rw[<-hc.1];exact(Axw.1 k).1
 exact⟨us[j],by simp[this],hc.2 j x _ k (Axn this)⟩
def Xm:∀{ps:List (Nat×AV)}{vs:List (Nat×Value)}{q:List (Nat×LA)}{ups:D7}{org:Bool}{J:Bool->Nat->Prop}{h:Ay},SimH J β h w->LooksS g h->Zz g ps=some (q,ups,org)->RepParts J β h w ps vs ->
  ∃ J',Step J β h w J' β (An ups h) w/\PartsRel (RepC (J' org) w) q vs/\LooksS g (An ups h)/\∀ b,A4 ups b=true->∃ x,g b=some x
|[],vs,q,ups,org,J,h,S,I,hh,C=>by
  simp[Zz]at hh;obtain⟨rfl,rfl,rfl⟩:=hh
  rw[RepParts]at C
  exact⟨J,Step.refl S,by rw[PartsRel];exact C,I,fun b D=>by simp[A4]at D⟩
| (i,x)::r,vs,q,ups,org,J,h,S,I,hh,C=>by
  rw[Zz]at hh
  obtain⟨⟨c1,u1,o1⟩,hp,h1⟩:=ub hh
  obtain⟨⟨q2,u2,o2⟩,hq,h2⟩:=ub h1
  simp at h2
  obtain⟨rfl,rfl,rfl⟩:=h2
  rw[RepParts]at C
  obtain⟨v,L,rfl,T,Y⟩:=C
  obtain⟨J1,A,hA,G,hl1⟩:=NU S I hp T
  obtain⟨J2,B,hB,hl2,hu2⟩:=Xm A.sim hl1 hq (RepParts.ext A.ext Y)
  refine⟨J2,by rw[Ci];exact A.trans B (fun _ _ _ _=>Axo _),?_,by rw[Ci];exact hl2,fun b D=>?_⟩
  ·rw[PartsRel]
   refine⟨v,L,rfl,Vi (RepCs.keep (J:=J1 o1) (w:=w) (fun k hk=>UK B.sim.jft _ _ k (B.ext.jsub _ k hk)) (fun _ _=>rfl) (fun _=>rfl) hA) G,?_⟩
   exact PartsRel.mono (fun x u hx=>RepC.keep (J:=J2 o2) (w:=w) (fun k hk=>oE B.sim.jft _ _ k hk) (fun _ _=>rfl) hx) hB
  ·rw[H9]at D
   cases h3:A4 u1 b with
   |true=>exact sU hp b h3
   |false=>rw[h3]at D;exact hu2 b (by simpa using D)
def Wm{place:Nat->Option (Nat×Nat)}{k:LA->O R}:∀(ps:List (Nat×LA))(c:LA),jZ place ps c k=(Pf place ps c).bind k
|[],c=>rfl
|(i,vs)::r,c=>by
  rw[jZ,Pf,Axp]
  congr 1;funext p
  rw[Wm r]
  cases (beq vs.length p.2&&ble (p.1+p.2) c.length)<;>rfl
def b8{d len:Nat}{t:TypeId}{ps:List (Nat×AV)}{vs:List (Nat×Value)}{k:AV->D7->O R}(S:SimH J β h w)(hl:Looks g h)(hh:Ra P g d t len ps k=some r)(hv:RepParts J β h w ps vs):
  ∃ val ups,k val ups=some r/\(UpsFree d h ups->∃ u w',(Instr.buildSlice t len vs.toArray).run P w=.ok u w'/\OpDone J β h w ups val u w'):=by
 unfold Ra at hh
 split at hh
 ·rename_i el hu
  obtain⟨sz,C,h1⟩:=ub hh
  obtain⟨zz,hz,h2⟩:=ub h1
  obtain⟨⟨q,u1,o1⟩,hq,h3⟩:=ub h2
  obtain⟨hb,h4⟩:=uc h3
  rw[Wm]at h4
  obtain⟨cells,hc,h5⟩:=ub h4
  simp at hb
  obtain⟨i,z,hi,hiz,rfl,hp,e1,e2⟩:=Qp hz
  have D:i.size=sz:=by simp[Bk,hi]at C;exact C
  refine⟨_,_,h5,fun hn=>?_⟩
  replace hn:=hn.nid (by simp[H9,Rv,A4])
  obtain⟨J1,A,hA,_,L⟩:=Xm S hl.s hq hv
  have hz0:=KA (w:=w) (J:=J1 o1) hp len (len*sz) (by rw[e1,D];exact Axo _)
  have hz1:GP (RepC (J1 o1) w) (Fa len (Li z.cells.toList)) (madeCells z.cells (len*sz)).toList:=by
   refine Vi (RepCs.keep (J:=J1 o1) (w:=w) (fun _ hk=>hk) (fun _ _=>rfl) (fun j=>by simp) hz0) ?_
   rw[Ge,e2,D,A03,size_madeCells]
  obtain⟨G,f1,f2⟩:=AL hA hz1 hc
  have T:cells.length=len*sz:=by
   have:∀{ps:List (Nat×LA)}{c c':LA},Pf (fun i=>some (i*sz,sz)) ps c=some c'->c'.length=c.length:=by
    intro ps
    induction ps with
    |nil=>intro c c' Y;simp[Pf]at Y;rw[Y]
    |cons p r ih =>
     intro c c' Y
     obtain⟨i,vs⟩:=p
     rw[Pf]at Y
     obtain⟨p,hpl,g1⟩:=ub Y
     obtain⟨gb,g2⟩:=uc g1
     simp at gb
     rw[ih g2,P8 (by omega)]
   rw[this hc,Ge,e2,D]
  have hcs:G.size=len*sz:=by have:=f2.1;simp at this;omega
  refine⟨.slice (some ⟨w.heap.size,0,none⟩) len len,w.alloc (.cells G el),?_,?_⟩
  ·have I:Instr.fill (fun i=>some (i*sz,sz)) ((Array.range (len*sz)).map (z.cells[·%z.cells.size]!)) vs=some G:=f1
   have hnb:¬ (16777216<len*sz):=by omega
   by_cases h0:len*sz=0
   ·have hme:∀(a:Array Value),(Array.range (len*sz)).map (a[·%a.size]!)=#[]:=fun a=>by rw[h0];simp[Array.range_zero']
    rw[hme]at I
    simp[Instr.buildSlice,run_underlying hu,Ck C,h0,Array.range_zero',I,newRow]
   ·simp[Instr.buildSlice,run_underlying hu,Ck C,hnb,h0,zeroValue,typeInfo,hi,hiz,I,newRow]
  ·refine OpDone.after A (b6 (sz:=sz) (fr:=(0,0)) A.sim (Aga hl L hn) rfl rfl rfl FrTy.un0 T (by omega) (Axo _) ⟨fun _=>?_,fun hp=>by simp at hp⟩) (Qo _ _)
   have:=FJ f2
   exact RepCs.keep (J:=J1 o1) (w:=w) (fun _ hk=>hk) (fun _ _=>rfl) (fun j=>by simp) this
 ·simp at hh
def YR{t:TypeId}{ps:List (Nat×AV)}{k:AV->O R}:w8 P t ps k=(wZ P t ps).bind k:=by
 unfold w8 wZ
 rw[Axp]
 congr 1;funext place
 cases (ps.all fun p=>QE p.2)with
|false=>rfl
| true =>
  simp only[cond_true]
  cases (ps.any fun p=>JP p.2)with
  | true =>
   simp only[cond_true]
   cases (ps.any fun p=>np p.2)with
   |true =>
    simp only[cond_true]
    rw[Axp]
    congr 1;funext z
    rw[Wm]
    cases Pf place (Kd ps) z<;>rfl
   |false =>
    simp only[cond_false]
    rw[Axp]
    congr 1;funext z
    rw[Wm]
    cases Pf place (F5 ps) z<;>rfl
  |false =>
   simp only[cond_false]
   rw[Axp]
   congr 1;funext z
   rw[Wm]
   cases Pf place (F5 ps) z<;>rfl
def Ak3{x:AV}{u:Value}(hr:RepC (fun _=>False) w x u):Rep J β h w x u:=by
 have k:∀ o:Bool,RepC (J o) w x u:=fun o=>RepC.keep (J:=fun _=>False) (w:=w) (fun _ C=>C.elim) (fun _ _=>rfl) hr
 cases x
 case imm c n sz t org=>rw[Rep];exact k org
 case iptr c org=>rw[Rep];exact k org
 case fn f c =>
  cases c with
  |nil=>rw[RepC]at hr;subst hr;rw[Rep];exact⟨[],by simp,by rw[Reps]⟩
  |cons a l=>simp[RepC]at hr
 all_goals first|(rw[RepC]at hr;rw[Rep];exact hr)|simp[RepC]at hr
def gU{d len:Nat}{t:TypeId}{ps:List (Nat×AV)}{vs:List (Nat×Value)}{k:AV->D7->O R}(S:SimH J β h w)(hh:T6 P g d t len ps k=some r)(Y:RepParts J β h w ps vs):
  ∃ val ups,k val ups=some r/\(UpsFree d h ups->∃ u w',(Instr.buildSlice t len vs.toArray).run P w=.ok u w'/\OpDone J β h w ups val u w'):=by
 unfold T6 at hh
 split at hh
 ·rename_i el T
  obtain⟨sz,G,h1⟩:=ub hh
  obtain⟨zz,hz,h2⟩:=ub h1
  obtain⟨hb,h4⟩:=uc h2
  obtain⟨cells,hc,h5⟩:=ub h4
  simp at hb
  obtain⟨rfl,hb,hst⟩:=hb
  obtain⟨i,z,hi,hiz,rfl,hp,e1,e2⟩:=Qp hz
  have hs':i.size=1:=by simp[Bk,hi]at G;exact G
  refine⟨_,_,h5,fun hn=>?_⟩
  replace hn:=hn.nid (by simp[Rv,A4])
  have hz0:=KA (w:=w) (J:=fun _=>False) hp len (len*1) (by rw[e1,hs'];exact Axo _)
  have hz1:GP (fun x u=>Rep J β h w x u/\u.oneCell'=true) (Fa len (Li z.cells.toList)) (madeCells z.cells (len*1)).toList:=by
   have hl:GP (RepC (fun _=>False) w) (Fa len (Li z.cells.toList)) (madeCells z.cells (len*1)).toList:=by
    refine Vi (RepCs.keep (J:=fun _=>False) (w:=w) (fun _ hk=>hk) (fun _ _=>rfl) (fun j=>by simp) hz0) ?_
    rw[Ge,e2,hs',A03,size_madeCells]
   exact⟨hl.1,fun j x u hx T=>⟨Ak3 (hl.2 j x u hx T),bZ (hl.2 j x u hx T)⟩⟩
  have I:∀{ps:List (Nat×AV)}{vs:List (Nat×Value)},L0 g (ps.map (·.2))=true->RepParts J β h w ps vs->PartsRel (fun x u=>Rep J β h w x u/\u.oneCell'=true) (ps.map fun p=>(p.1,[p.2])) vs:=by
   intro ps
   induction ps with
   |nil=>intro vs _ Y;rw[RepParts]at Y;rw[A4r,PartsRel];exact Y
   |cons p r ih =>
    obtain⟨i,x⟩:=p
    intro vs hs Y
    rw[RepParts]at Y
    obtain⟨v,vs',rfl,h1,h2⟩:=Y
    simp[L0]at hs
    rw[Ayc,PartsRel]
    refine⟨v,vs',rfl,?_,ih (by simpa using hs.2) h2⟩
    have ho:=Kf hs.1 h1
    have L:v.cells=#[v]:=by cases v<;>simp_all[Value.cells,Value.oneCell']
    rw[L]
    refine⟨rfl,fun j y u hy T=>?_⟩
    cases j with
    |zero=>simp at hy T;subst hy T;exact⟨h1,ho⟩
    |succ j=>simp at hy
  obtain⟨C,f1,f2⟩:=AL (I hst Y) hz1 hc
  have hlen:cells.length=len*1:=by
   have:∀{ps:List (Nat×LA)}{c c':LA},Pf (fun i=>some (i*1,1)) ps c=some c'->c'.length=c.length:=by
    intro ps
    induction ps with
    |nil=>intro c c' hf;simp[Pf]at hf;rw[hf]
    |cons p r ih =>
     intro c c' hf
     obtain⟨i,vs⟩:=p
     rw[Pf]at hf
     obtain⟨p,hpl,g1⟩:=ub hf
     obtain⟨gb,g2⟩:=uc g1
     simp at gb
     rw[ih g2,P8 (by omega)]
   rw[this hc,Ge,e2,hs']
  have hcs:C.size=len*1:=by have:=f2.1;simp at this;omega
  refine⟨.slice (some ⟨w.heap.size,0,none⟩) len len,w.alloc (.cells C el),?_,?_⟩
  ·have D:Instr.fill (fun i=>some (i*1,1)) ((Array.range (len*1)).map (z.cells[·%z.cells.size]!)) vs=some C:=f1
   have hnb:¬ (16777216<len*1):=by omega
   by_cases h0:len*1=0
   ·have hme:∀(a:Array Value),(Array.range (len*1)).map (a[·%a.size]!)=#[]:=fun a=>by rw[h0];simp[Array.range_zero']
    rw[hme]at D
    simp only[Ax4]at h0
    simp[Instr.buildSlice,run_underlying T,Ck G,h0,Array.range_zero',newRow]
    simp at D
    simp[D]
   ·simp only[Ax4]at D h0 hnb
    simp[Instr.buildSlice,run_underlying T,Ck G,hnb,h0,zeroValue,typeInfo,hi,hiz,D,newRow]
  ·refine b6 (sz:=1) (fr:=(0,0)) S hn rfl rfl rfl FrTy.un0 hlen (by omega) (Axo _) ⟨fun hp=>by simp at hp,fun _ j y hj=>?_⟩
   have hlt:j<C.size:=by have:=(Axw.1 hj).1;simp at this;omega
   have:=f2.2 j y C[j] hj (by simp[hlt])
   exact⟨C[j],by simp[hlt],this.1,this.2⟩
 ·simp at hh
def Vj{d:Nat}:∀{l:List (Nat×Nat)}{j:Nat}{c:LA}{cs:List Value}{β:Ch}{h:Ay},SimH J β h w->1<=j->j+l.length<=16->(∀ i,j<=i->i<16->A4 (Gq d l j c).2 (nid d+i)=true->Am h (nid d+i)=none)->Reps J β h w c cs ->
  ∃ β',Step J β h w J β' (An (Gq d l j c).2 h) w/\Reps J β' (An (Gq d l j c).2 h) w (Gq d l j c).1 cs
|[],j,c,cs,β,h,S,_,_,_,hr=>⟨β,Step.refl S,hr⟩
| (o,sz)::l,j,c,cs,β,h,S,hj,hl,G,hr=>by
  rw[Gq]at G ⊢
  split
  ·rename_i I
   simp only[I]at G
   simp at hl
   have h1:Am h (nid d+j)=none:=G j (Axo _) (by omega) (by simp[A4])
   have A:=Step.newNone S (d:=nid d+j) (x:=Gm sz) h1 rfl
   have k:=Reps.ext A.ext hr
   rw[Cb]at k
   have T:Reps J (fun b=>if b=nid d+j then none else β b) (Fp h (nid d+j) (Gm sz)) w (c.set o (.own (nid d+j) 0 0)) cs:=by
    rw[Cb]
    refine⟨by rw[k.1];simp,fun i y u L hu=>?_⟩
    by_cases hi:i=o
    ·subst hi
     have Y:i<c.length:=(Axw.1 I).1
     rw[Ayo Y]at L;simp at L;subst L
     have h3:=k.2 i _ u I hu
     rw[Rep]at h3;subst h3
     rw[Rep]
     exact⟨Gm sz,none,0,⟨by simp[Ah],rfl⟩,rfl,Axo _,.inl rfl⟩
    ·rw[Ayg (by omega)]at L
     exact k.2 i y u L hu
   obtain⟨β',B,hB⟩:=Vj (d:=d) (l:=l) (j:=j+1) A.sim (by omega) (by omega) (fun i hi C D=>by
    have:=G i (by omega) C (by
     rw[A4]
     have:beq (nid d+j) (nid d+i)=false:=PL (by omega)
     rw[this];exact D)
    rw[Ah,if_neg (by omega)];exact this) T
   exact⟨β',by simp only[An];exact A.trans B (fun _ _ _ _=>Axo _),by simp only[An];exact hB⟩
  ·rename_i I
   have e:Gq d ((o,sz)::l) j c=Gq d l (j+1) c:=by
    rw[Gq]
    split
    ·rename_i h2;exact absurd h2 (I ·)
    ·rfl
   simp at hl
   split at G
   ·rename_i h2;exact absurd h2 (I ·)
   ·exact Vj S (by omega) (by omega) (fun i hi C D=>G i (by omega) C D) hr
def Adf{t:TypeId}{co:Bool}{d:Nat}{v:AV}{vc:Value}{k:AV->D7->O R}(S:SimH J β h w)(hh:Ahq P t co d v k=some r)(C:Rep J β h w v vc):
  ∃ val ups,k val ups=some r/\(UpsFree d h ups->OpDone J β h w ups val vc w):=by
 unfold Ahq at hh
 split at hh
 ·rename_i c
  obtain⟨G,I⟩:=uc hh
  refine⟨_,_,I,fun L=>?_⟩
  rw[Rep]at C
  obtain⟨cs,rfl,hr⟩:=C
  obtain⟨β',A,hA⟩:=Vj (d:=d) (l:=Rw P t) (j:=1) S (Axo _) (by simp at G;omega) (fun i hi T D=>L _ D (by unfold GM;simp;omega)) hr
  exact⟨J,β',A,by rw[Rep];exact⟨cs,rfl,hA⟩⟩
 ·exact⟨_,_,hh,fun _=>⟨J,β,Step.refl S,C⟩⟩
def j_{x:AV}{v:Value}(k:Rep J β h w x v)(L:JP x=false)(D:QE x=true):GP (Rep J β h w) (cellsOf x) v.cells.toList:=by
 have one:v.cells=#[v]->cellsOf x=[x]->GP (Rep J β h w) (cellsOf x) v.cells.toList:=fun T C=>by
  rw[T,C]
  refine⟨rfl,fun j y u G I=>?_⟩
  cases j with
  |zero=>simp at G I;subst G I;exact k
  |succ j=>simp at G
 cases x
 case pagg=>simp[JP]at L
 case agg c =>
  rw[Rep]at k
  obtain⟨cs,rfl,C⟩:=k
  rw[Cb]at C
  exact⟨C.1.symm,C.2⟩
 case tup c=>simp[QE]at D
 case undef=>simp[QE]at D
 case omap=>simp[QE]at D
 case own=>rw[Rep]at k;obtain⟨_,A,cap,_,rfl,_⟩:=k;exact one rfl rfl
 case optr=>rw[Rep]at k;obtain⟨_,kk,o,_,rfl,_⟩:=k;exact one rfl rfl
 case fn=>rw[Rep]at k;obtain⟨cs,rfl,_⟩:=k;exact one rfl rfl
 case imm=>rw[Rep,RepC]at k;obtain⟨_,A,cap,rfl,_⟩:=k;exact one rfl rfl
 case iptr=>rw[Rep,RepC]at k;obtain⟨a,rfl,_⟩:=k;exact one rfl rfl
 all_goals (rw[Rep]at k;subst k;exact one rfl rfl)
def uV{x:AV}{v:Value}(G:∀ k,J false k->J true k)(D:Rep J β h w x v)(hr:YN x=false){o:Bool}(I:wY x=true->o=true):RepC (J o) w x v:=by
 cases x<;>simp[YN]at hr
 case imm c n sz t org =>
  rw[Rep]at D
  refine RepC.keep (J:=J org) (w:=w) (fun k C=>?_) (fun _ _=>rfl) D
  cases org
  ·cases o
   ·exact C
   ·exact G k C
  ·rw[I rfl];exact C
 case iptr c org =>
  rw[Rep]at D
  refine RepC.keep (J:=J org) (w:=w) (fun k C=>?_) (fun _ _=>rfl) D
  cases org
  ·cases o
   ·exact C
   ·exact G k C
  ·rw[I rfl];exact C
 all_goals (rw[Rep]at D;rw[RepC];exact D)
def xC{x:AV}{v:Value}(L:∀ k,J false k->J true k)(G:Rep J β h w x v)(hr:np x=false){o:Bool}(T:j0 x=true->o=true):GP (RepC (J o) w) (cellsOf x) v.cells.toList:=by
 have one:YN x=false->cellsOf x=[x]->j0 x=wY x->GP (RepC (J o) w) (cellsOf x) v.cells.toList:=fun h0 C Y=>by
  have hc:=uV (o:=o) L G h0 (by rw[<-Y];exact T)
  have h1:v.cells=#[v]:=by have:=bZ hc;cases v<;>simp_all[Value.cells,Value.oneCell']
  rw[h1,C]
  refine⟨rfl,fun j y u D I=>?_⟩
  cases j with
  |zero=>simp at D I;subst D I;exact hc
  |succ j=>simp at D
 cases x
 case pagg c org =>
  rw[Rep]at G
  obtain⟨cs,rfl,h1,C⟩:=G
  refine Vi (RepCs.keep (J:=J org) (w:=w) (fun k hk=>?_) (fun _ _=>rfl) (fun j=>by simp[Value.cells]) C) (by simp[Value.cells,cellsOf,h1])
  cases org
  ·cases o
   ·exact hk
   ·exact L k hk
  ·rw[T rfl];exact hk
 case agg c =>
  rw[Rep]at G
  obtain⟨cs,rfl,C⟩:=G
  rw[Cb]at C
  refine⟨C.1.symm,fun j y u D I=>?_⟩
  simp only[np,A26]at hr
  have hm:y∈c:=A32 D
  have hry:YN y=false:=by simpa using hr y hm
  refine uV L (C.2 j y u D I) hry (fun Y=>T ?_)
  rw[j0,List.any_eq_true];exact⟨y,hm,Y⟩
 all_goals first|exact one hr rfl rfl|simp[np,YN]at hr
def Ahx{o:Bool}{x:AV}{v:Value}(hr:RepC (J o) w x v):Rep J β h w (zQ o x) v:=by
 cases x
 case imm=>rw[zQ,Rep];rw[RepC]at hr ⊢;exact hr
 case iptr=>rw[zQ,Rep];rw[RepC]at hr ⊢;exact hr
 case fn f c =>
  cases c with
  |nil=>rw[RepC]at hr;subst hr;show Rep J β h w (.fn f []) _;rw[Rep];exact⟨[],by simp,by rw[Reps]⟩
  |cons a b=>simp[RepC]at hr
 all_goals first|(rw[RepC]at hr;unfold zQ;rw[Rep];exact hr)|(simp[RepC]at hr)
def Adg{x:AV}{v:Value}(D:Rep J β h w x v)(T:QE x=true):GP (Rep J β h w) (nq x) v.cells.toList:=by
 cases G:JP x with
|false =>
  have:=j_ D G T
  cases x<;>first|exact this|simp[JP]at G
| true =>
  cases x<;>simp[JP]at G
  rename_i c o
  rw[Rep]at D
  obtain⟨cs,rfl,Y,h2⟩:=D
  refine⟨by simp[nq,Value.cells,Y],fun j y u C L=>?_⟩
  simp only[nq,A0n]at C
  cases I:c[j]? with
  |none=>rw[I]at C;simp at C
  |some x0 =>
   rw[I]at C;simp at C;subst C
   obtain⟨u',k,hr⟩:=h2.at I
   simp[Value.cells]at L
   rw[L]at k;simp at k;subst k
   exact Ahx hr
def QP{CR:AV->Value->Prop}:∀{ps:List (Nat×AV)}{vs:List (Nat×Value)},RepParts J β h w ps vs->(∀ p∈ps,∀ v,Rep J β h w p.2 v->GP CR (nq p.2) v.cells.toList)->PartsRel CR (Kd ps) vs
|[],vs,hr,_=>by rw[RepParts]at hr;rw[Kd,PartsRel];exact hr
|(i,x)::r,vs,hr,C=>by
  rw[RepParts]at hr
  obtain⟨v,k,rfl,D,G⟩:=hr
  rw[Kd,PartsRel]
  exact⟨v,k,rfl,C (i,x) (by simp) v D,QP G (fun p I=>C p (by simp[I]))⟩
def FK{CR:AV->Value->Prop}:∀{ps:List (Nat×AV)}{vs:List (Nat×Value)},RepParts J β h w ps vs->(∀ p∈ps,∀ v,Rep J β h w p.2 v->GP CR (cellsOf p.2) v.cells.toList)->PartsRel CR (F5 ps) vs
|[],vs,hr,_=>by rw[RepParts]at hr;rw[F5,PartsRel];exact hr
|(i,x)::r,vs,hr,C=>by
  rw[RepParts]at hr
  obtain⟨v,k,rfl,D,G⟩:=hr
  rw[F5,PartsRel]
  exact⟨v,k,rfl,C (i,x) (by simp) v D,FK G (fun p I=>C p (by simp[I]))⟩
def b9{t:TypeId}{place:Nat->Option (Nat×Nat)}{i:TypeInfo}{z:Value}{vs:List (Nat×Value)}{cs:Array Value}(k:QD P t=some place)(hi:P.info? t=some i)(G:i.zero=some z)
  (I:Instr.fill place z.cells vs=some cs):P.built t vs=some cs:=by
 unfold QD at k
 unfold Program.built
 split at k
 ·rename_i n e D
  cases C:P.info? e with
  |none=>simp[C]at k
  |some ie=>simp[C]at k;subst k;simp only[hi,D,G,C];exact I
 ·rename_i fs D
  cases C:fs.toList.mapM fun f=>(P.info? f.type).map fun i=>(f.offset,i.size)with
  |none=>rw[C]at k;simp at k
  |some pl =>
   rw[C]at k;simp at k;subst k
   simp only[hi,D,G,C]
   simpa using I
 ·simp at k
def sW{t:TypeId}{ps:List (Nat×AV)}{vs:List (Nat×Value)}{k:AV->D7->O R}(S:SimH J β h w)(hl:Looks g h)(hh:UB P g t ps k=some r)(hv:RepParts J β h w ps vs):
  ∃ val ups u,k val ups=some r/\(Instr.build t vs.toArray).run P w=.ok u w/\OpDone J β h w ups val u w:=by
 unfold UB at hh
 obtain⟨place,C,h1⟩:=ub hh
 obtain⟨zz,hz,h2⟩:=ub h1
 obtain⟨⟨q,u1,o1⟩,hq,L⟩:=ub h2
 rw[Wm]at L
 obtain⟨cells,hc,h4⟩:=ub L
 obtain⟨i,z,hi,D,rfl,hp,e1,e2⟩:=Qp hz
 obtain⟨J1,A,hA,_,T⟩:=Xm S hl.s hq hv
 have G:GP (RepC (J1 o1) w) (Li z.cells.toList) z.cells.toList:=by
  refine⟨Wl _,fun j x u hx hu=>?_⟩
  obtain⟨y,I,g2⟩:=J_ (w:=w) (J:=J1 o1) hp j u hu
  rw[hx]at I;simp at I;subst I;exact g2
 obtain⟨cs,f1,Y⟩:=AL hA G hc
 refine⟨_,_,.agg cs,h4,run_build w t vs.toArray cs (b9 C hi D (by simpa using f1)),J1,β,A,?_⟩
 rw[Rep]
 exact⟨cs.toList,rfl,Y.1.symm,FJ Y⟩
def xD{t:TypeId}{ps:List (Nat×AV)}{vs:List (Nat×Value)}{v:AV}(S:SimH J β h w)(hh:wZ P t ps=some v)(hv:RepParts J β h w ps vs):
  ∃ u,(Instr.build t vs.toArray).run P w=.ok u w/\Rep J β h w v u:=by
 unfold wZ at hh
 obtain⟨place,Y,h1⟩:=ub hh
 obtain⟨hok,h2⟩:=uc h1
 cases hpg:ps.any (fun p=>JP p.2)with
| true =>
  rw[hpg]at h2
  cases hnr:ps.any (fun p=>np p.2)with
  | true =>
   rw[hnr]at h2
   obtain⟨zz,C,G⟩:=ub h2
   unfold uI at C
   obtain⟨i,hi,C⟩:=ub C
   cases D:i.zero with
   |none=>rw[D]at C;simp at C
   | some z =>
    rw[D]at C;simp at C;subst C
    cases I:Pf place (Kd ps) (Li z.cells.toList)with
    |none=>rw[I]at G;simp at G
    | some c =>
     rw[I]at G;simp at G;subst G
     have k:PartsRel (Rep J β h w) (Kd ps) vs:=QP hv (fun p hm u hu=>Adg hu (A04.1 hok p hm))
     have L:GP (Rep J β h w) (Li z.cells.toList) z.cells.toList:=by
      have:=UH (J:=J) (β:=β) (h:=h) (w:=w) z.cells.toList
      rw[Cb]at this
      exact⟨this.1.symm,this.2⟩
     obtain⟨cs,f1,T⟩:=AL k L I
     refine⟨.agg cs,run_build w t vs.toArray cs (b9 Y hi D (by simpa using f1)),?_⟩
     rw[Rep]
     exact⟨cs.toList,rfl,Cb.2 ⟨T.1.symm,T.2⟩⟩
  |false =>
  rw[hnr]at h2
  have h3:=h2
  obtain⟨zz,C,G⟩:=ub h3
  obtain⟨i,z,hi,D,rfl,hp,e1,e2⟩:=Qp C
  cases I:Pf place (F5 ps) (Li z.cells.toList)with
  |none=>rw[I]at G;simp at G
  | some c =>
   rw[I]at G;simp at G;subst G
   have k:PartsRel (RepC (J (ps.any fun p=>j0 p.2)) w) (F5 ps) vs:=FK hv (fun p hm u hu=>xC S.jft hu (by
     have:=A26.1 hnr p hm;simpa using this) (fun ho=>by rw[List.any_eq_true];exact⟨p,hm,ho⟩))
   have L:GP (RepC (J (ps.any fun p=>j0 p.2)) w) (Li z.cells.toList) z.cells.toList:=by
    refine⟨Wl _,fun j x u hx hu=>?_⟩
    obtain⟨y,g1,g2⟩:=J_ (w:=w) (J:=J (ps.any fun p=>j0 p.2)) hp j u hu
    rw[hx]at g1;simp at g1;subst g1;exact g2
   obtain⟨cs,f1,T⟩:=AL k L I
   refine⟨.agg cs,run_build w t vs.toArray cs (b9 Y hi D (by simpa using f1)),?_⟩
   rw[Rep]
   exact⟨cs.toList,rfl,T.1.symm,FJ T⟩
| false =>
  rw[hpg]at h2
  obtain⟨zz,C,G⟩:=ub h2
  unfold uI at C
  obtain⟨i,hi,C⟩:=ub C
  cases D:i.zero with
  |none=>rw[D]at C;simp at C
  | some z =>
   rw[D]at C;simp at C;subst C
   cases I:Pf place (F5 ps) (Li z.cells.toList)with
   |none=>rw[I]at G;simp at G
   | some c =>
    rw[I]at G;simp at G;subst G
    have k:PartsRel (Rep J β h w) (F5 ps) vs:=FK hv (fun p hm u hu=>j_ hu (by
      have:=A26.1 hpg p hm;simpa using this) (A04.1 hok p hm))
    have L:GP (Rep J β h w) (Li z.cells.toList) z.cells.toList:=by
     have:=UH (J:=J) (β:=β) (h:=h) (w:=w) z.cells.toList
     rw[Cb]at this
     exact⟨this.1.symm,this.2⟩
    obtain⟨cs,f1,T⟩:=AL k L I
    refine⟨.agg cs,run_build w t vs.toArray cs (b9 Y hi D (by simpa using f1)),?_⟩
    rw[Rep]
    exact⟨cs.toList,rfl,Cb.2 ⟨T.1.symm,T.2⟩⟩
end
end Gx
