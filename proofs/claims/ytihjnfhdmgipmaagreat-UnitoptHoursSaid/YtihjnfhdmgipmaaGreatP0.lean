/- A part of the proof; each theorem says what it holds. -/
import GoSem.Step
import Derived.KernelRfl
import Derived.WalkKit
import Derived.Deep.MidRow
import Derived.Deep.AppendSrc
import Derived.Laws.IdiomStrings
import Derived.Deep.Upon
import Derived.Lib.Builder
import Derived.Laws.BytesString
import Derived.Lib.UnsafeStr
import Derived.Laws.Externs
import Derived.Laws.Tables
import Derived.Laws.StructEq
import Derived.ChangeKeysEq
import Derived.MapKept
set_option linter.unusedVariables false
set_option linter.defProp false
set_option linter.unusedSimpArgs false
open Nat (ble beq)
open List (take drop replicate)
open Go.IntKind (wrap)
namespace Gx
abbrev Lu:=List UInt8
def Ahi:=@List.take_of_length_le
def Ahj:=@Option.bind_assoc
def Ahk:=@List.getElem?_eq_getElem
def Ahl:=@Nat.le_refl
def Ahm:=@Int.toNat_natCast
def Ahn:=@Nat.mul_comm
def Aho:=@Bool.and_eq_true
def Ahp:=@Nat.mul_le_mul_right
def Ahq:=@Nat.mul_assoc
def Ahr:=@List.getD_eq_getElem?_getD
def Ahs:=@Nat.mul_add
def Aht:=@Nat.eq_of_beq_eq_true
def Ahu:=@List.getElem_mem
def Ahv:=@Nat.add_mul
def Ahw:=@Nat.pow_succ
def Ahx:=@List.getElem?_eq_some_iff
def Ahy:=@List.length_append
def Ahz:=@List.mem_append
def Ah0:=@Nat.zero_add
def Ah1:=@Nat.mul_one
def Ah2:=@List.take_succ_eq_append_getElem
def Ah3:=@List.length_take
def Ah4:=@List.mem_cons
def Ah5:=@Int.natAbs_natCast
def Ah6:=@Nat.lt_of_lt_of_le
def Ah7:=@Nat.mul_le_mul_left
def Ah8:=@List.length_cons
def Ah9:=@List.map_cons
def Aia:=@Nat.min_eq_left
def Aib:=@Nat.eq_zero_or_pos
def Aic:=@List.take_length
def Aid:=@List.drop_zero
def Aie:=@List.flatMap_cons
def Aif:=@List.getElem_append_left
def Aig:=@Nat.mod_eq_of_lt
def Aih:=@Nat.pow_le_pow_right
def Aii:=@Int.sign_eq_neg_one_of_neg
def Aij:=@List.head?_eq_getElem?
def Aik:=@Nat.lt_of_le_of_lt
def Ail:=@List.cons_append
def Aim:=@List.drop_eq_nil_of_le
def Ain:=@List.getElem?_drop
def Aio:=@List.mem_map
def Aip:=@List.drop_eq_getElem_cons
def Aiq:=@Nat.add_zero
def Air:=@List.getElem?_eq_none
def Ais:=@Nat.pow_add
def Ait:=@Nat.mul_lt_mul''
def Aiu:=@List.drop_succ_cons
def Aiv:=@List.getElem?_append
def Aiw:=@Nat.div_eq_of_lt
def Aix:=@Nat.div_add_mod
def Aiy:=@List.append_nil
def Aiz:=@List.nodup_cons
def Ai0:=@List.getElem_of_mem
def Ai1:=@Nat.add_assoc
def Ai2:=@List.pairwise_iff_getElem
def Ai3:=@Option.bind_some
def Ai4:=@Int.sign_eq_one_of_pos
def Ai5:=@Nat.pow_pos
def Ai6:=@Array.getElem?_modify
def Ai7:=@Nat.gcd_comm
def Ai8:=@Rat.intCast_sub
def Ai9:=@Array.ext'
def Aja:=@Array.getElem?_eq_some_iff
def Ajb:=@Nat.dvd_mul_left_of_dvd
def Ajc:=@Array.getElem?_eq_none
def Ajd:=@List.getElem?_take
def Aje:=@Nat.le_trans
def Ajf:=@Nat.mod_lt
def Ajg:=@Nat.div_le_self
def Ajh:=@Nat.mul_le_mul
def Aji:=@List.all_cons
def Ajj:=@List.getElem_take
def Ajk:=@List.map_append
def Ajl:=@Nat.mul_left_comm
def Ajm:=@Option.some.injEq
def Ajn:=@Bool.not_false
def Ajo:=@List.length_nil
def Ajp:=@List.mem_filter
def Ajq:=@List.take_left'
def Ajr:=@Bool.false_eq_true
def Ajs:=@Nat.gcd_zero_right
def Ajt:=@List.mem_cons_of_mem
def Aju:=@Nat.le_of_not_lt
def Ajv:=@Array.getD_eq_getD_getElem?
def Ajw:=@Int.natAbs_mul
def Ajx:=@List.length_map
def Ajy:=@List.nil_append
def Ajz:=@List.getElem_append_right
def Aj0:=@Nat.lt_of_mul_lt_mul_left
def Aj1:=@List.take_append_drop
def Aj2:=@Int.natCast_zero
def Aj3:=@List.getElem_map
def Aj4:=@Nat.ble_eq
def Aj5:=@Nat.gcd_dvd_left
def Aj6:=@List.forall_mem_cons
def Aj7:=@List.mem_iff_getElem
def Aj8:=@List.take_zero
def Aj9:=@Nat.add_mul_div_left
def Aka:=@Nat.mul_lt_mul_right
def Akb:=@Rat.le_refl
def Akc:=@List.append_assoc
def Akd:=@List.getElem?_map
def Ake:=@Bool.or_true
def Akf:=@Rat.intCast_le_intCast
def Akg:=@Bool.and_true
def Akh:=@List.filter_cons
def Aki:=@Array.getElem?_append_left
def Akj:=@List.mem_take_iff_getElem
def Akk:=@Bool.eq_iff_iff
def Akl:=@Nat.le_max_left
def Akm:=@Bool.true_or
def Akn:=@List.map_map
def Ako:=@Nat.add_comm
def Akp:=@Nat.div_lt_of_lt_mul
def Akq:=@Bool.not_true
def Akr:=@Int.mul_ediv_cancel_left
def Aks:=@Nat.gcd_pos_of_pos_right
def Akt:=@Array.length_toList
def Aku:=@List.all_eq_true
def Akv:=@List.getLast_eq_getElem
def Akw:=@Nat.le_max_right
def Akx:=@Rat.mul_le_mul_of_nonneg_right
def Aky:=@Rat.intCast_lt_intCast
def Akz:=@Rat.intCast_add
def Ak0:=@Nat.le_div_iff_mul_le
def Ak1:=@Int.lt_trichotomy
def Ak2:=@Nat.gcd_dvd_right
def Ak3:=@List.getElem?_append_right
def Ak4:=@List.mem_of_mem_take
def Ak5:=@List.pairwise_append
def Ak6:=@Nat.lt_of_mul_lt_mul_right
def Ak7:=@Rat.div_def
def Ak8:=@List.all_nil
def Ak9:=@List.getElem_set
def Ala:=@List.getElem?_append_left
def Alb:=@List.map_congr_left
def Alc:=@List.take_succ_cons
def Ald:=@Bool.false_or
def Ale:=@List.getElem?_take_of_lt
def Alf:=@List.foldl_cons
def Alg:=@Nat.mul_add_div
def Alh:=@Rat.le_antisymm
def Ali:=@Rat.num_eq_zero
def Alj:=@BitVec.toNat_ofNat
def Alk:=@List.mem_singleton
def All:=@List.pairwise_cons
def Alm:=@Nat.mul_right_comm
def Aln:=@Rat.mul_inv_cancel
def Alo:=@Rat.sub_eq_add_neg
def Alp:=@Nat.add_sub_cancel_left
def Alq:=@Nat.le_mul_of_pos_right
def Alr:=@Nat.zero_le
def Als:=@Bool.and_false
def Alt:=@List.getElem_cons_succ
def Alu:=@List.getElem_cons_zero
def Alv:=@Nat.div_div_eq_div_mul
def Alw:=@Nat.pow_zero
def Alx:=@Rat.sub_self
def Aly:=@Array.getElem?_setIfInBounds_ne
def Alz:=@List.set_append_right
def Al0:=@Nat.div_lt_iff_lt_mul
def Al1:=@Nat.le_of_ble_eq_true
def Al2:=@Nat.dvd_add_left
def Al3:=@Nat.lt_of_not_le
def Al4:=@Option.bind_none
def Al5:=@Rat.mkRat_eq_div
def Al6:=@Bool.true_and
def Al7:=@List.eq_nil_of_length_eq_zero
def Al8:=@Array.getElem?_setIfInBounds
def Al9:=@Nat.mul_add_mod
def Ama:=@Nat.mul_ne_zero
def Amb:=@Rat.intCast_mul
def Amc:=@Rat.natCast_pos
def Amd:=@List.filter_eq_self
def Ame:=@List.flatMap_append
def Amf:=@List.replicate_succ
def Amg:=@Rat.mkRat_add_mkRat
def Amh:=@Nat.lt_or_ge
def Ami:=@Nat.zero_mul
def Amj:=@Rat.le_of_lt
def Amk:=@Bool.false_and
def Aml:=@Int.fdiv_eq_ediv_of_nonneg
def Amm:=@Int.mul_nonneg
def Amn:=@Int.tmod_eq_emod_of_nonneg
def Amo:=@Int.tmod_lt_of_pos
def Amp:=@Rat.not_le
def Amq:=@Rat.not_lt
def Amr:=@Int.sign_eq_zero_iff_zero
def Ams:=@Nat.add_mul_mod_self_left
def Amt:=@Bool.not_eq_true'
def Amu:=@List.any_eq_false
def Amv:=@Nat.dvd_mul_right
def Amw:=@Nat.gcd_rec
def Amx:=@Nat.mul_pos
def Amy:=@Nat.one_mul
def Amz:=@Array.size_setIfInBounds
def Am0:=@Option.isSome_iff_exists
def Am1:=@List.drop_append
def Am2:=@List.length_drop
def Am3:=@List.length_eq_zero_iff
def Am4:=@List.not_mem_nil
def Am5:=@Nat.mul_div_cancel_left
def Am6:=@Bool.or_comm
def Am7:=@Int.le_of_lt
def Am8:=@Nat.beq_eq
def Am9:=@Nat.le_of_lt
def Ana:=@Rat.add_zero
def Anb:=@Option.some.inj
def Anc:=@Array.getElem?_toList
def Ane:=@List.getElem_set_self
def Anf:=@List.length_filter_le
def Ang:=@List.length_mergeSort
def Anh:=@List.set_getElem_self
def Ani:=@Rat.le_iff_sub_nonneg
def Anj:=@Int.le_refl
def Ank:=@List.getElem?_zipIdx
def Anl:=@List.mapM_cons
def Anm:=@List.mem_of_getElem?
def Ann:=@List.nodup_nil
def Ano:=@List.take_take
def Anp:=@Rat.num_nonneg
def Anq:=@Int.toNat_of_nonneg
def Anr:=@List.drop_set_of_lt
def Ans:=@List.mem_map_of_mem
def Ant:=@Rat.mkRat_mul_mkRat
def Anu:=@List.drop_nil
def Anv:=@List.map_take
def Anw:=@Prod.mk.injEq
def Anx:=@Rat.den_mkRat
def Anz:=@Rat.mul_assoc
def An0:=@Rat.num_mkRat
def An1:=@Int.lt_tmod_of_pos
def An2:=@List.mem_cons_self
def An3:=@Nat.add_sub_cancel
def An8:=@List.map_nil
def An9:=@List.map_set
def Aoa:=@Nat.sub_self
def Aob:=@Nat.succ_mul
def Aoc:=@Rat.ne_of_gt
def Aod:=@Rat.zero_add
def Aom:=@Int.mul_neg
def Aon:=@Nat.div_one
def Aoo:=@Nat.or_comm
def Aop:=@Nat.pow_mul
end Gx
namespace Gx.Uo
abbrev F1:=Rat->Rat
def Conc(f:F1)(a b:Rat):Prop:=∀ x z s,a<=x->x<=b->a<=z->z<=b->0<=s->s<=1->(1 - s)*f x+s*f z<=f ((1 - s)*x+s*z)
def Lin(f:F1)(a b:Rat):Prop:=∃ m q:Rat,∀ x,a<=x->x<=b->f x=m*x+q
def ml{a b c:Rat}(h:a<=b)(k:0<=c):c*a<=c*b:=Rat.mul_le_mul_of_nonneg_left h k
def mn(a b:Rat):Rat:=if a<=b then a else b
def mx(a b:Rat):Rat:=if a<=b then b else a
abbrev Uw:=List (Int×Rat)
structure Cv(f:F1)(L:Uw):Prop where
 ne:0<L.length
 val:∀ i (h:i<L.length),f L[i].1=L[i].2
 lt:∀ i (h:i+1<L.length),L[i].1<L[i+1].1
 lin:∀ i (h:i+1<L.length),Lin f L[i].1 L[i+1].1
def Cv.piece{f:F1}{L:Uw}(c:Cv f L){x:Rat}(v:(L[0]'c.ne).1<=x):∀ j (k:j<L.length),x<=L[j].1->(∃ i,∃ h:i+1<L.length,L[i].1<=x/\x<=L[i+1].1)\/x=(L[0]'c.ne).1
|0,_,h=>.inr (by grind)
|j+1,k,h=>by
  by_cases A:x<=L[j].1
  ·exact c.piece v j (by omega) A
  ·exact .inl ⟨j,k,by grind,h⟩
def Cv.mono{f:F1}{L:Uw}(c:Cv f L):∀ j i (hi:i<=j) (k:j<L.length),L[i].1<=L[j].1
|0,i,hi,k=>by
  have:i=0:=by omega
  subst this;exact Anj _
|j+1,i,hi,k=>by
  have:=c.lt j k
  by_cases h:i=j+1
  ·subst h;exact Anj _
  ·have:=c.mono j i (by omega) (by omega);omega
def Lin.sub{f:F1}{a b c d:Rat}(h:Lin f a b)(k:a<=c)(v:d<=b):Lin f c d:=by
 obtain⟨m,q,h⟩:=h
 exact⟨m,q,fun x A B=>h x (by grind) (by grind)⟩
def Cv.between{f:F1}{L:Uw}(c:Cv f L){p q:Rat}(V:(L[0]'c.ne).1<=p)(A:p<=q)(B:q<=(L[L.length - 1]'(by have:=c.ne;omega)).1)(hn:∀ e∈L,(e.1:Rat)<=p\/q<=e.1):Lin f p q:=by
 have C:=c.ne
 by_cases e:p=q
 ·subst e
  refine⟨0,f p,fun x D v=>?_⟩
  have:x=p:=by grind
  subst this;grind
 have G:p<q:=by grind
 rcases c.piece (x:=q) (by grind) (L.length - 1) (by omega) B with⟨i,hi,D,v⟩|k
 ·by_cases I:(L[i].1:Rat)<=p
  ·exact(c.lin i hi).sub I v
  ·
   have Y:(L[i].1:Rat)=q:=by rcases hn _ (Ahu (show i<L.length by omega))with h|h<;>grind
   cases i with
   |zero=>grind
   | succ i =>
    refine(c.lin i (by omega)).sub ?_ (by grind)
    have T:=c.lt i (by omega)
    rcases hn _ (Ahu (show i<L.length by omega))with h|h
    ·exact h
    ·have:((L[i].1:Int):Rat)<(L[i+1].1:Rat):=Aky.2 T
     grind
 ·grind
def Cv.most{f:F1}{L:Uw}(c:Cv f L){s M:Rat}(hM:∀ e∈L,e.2+s*e.1<=M){x:Rat}(G:(L[0]'c.ne).1<=x)(I:x<=(L[L.length - 1]'(by have:=c.ne;omega)).1):f x+s*x<=M:=by
 have v:=c.ne
 rcases c.piece G (L.length - 1) (by omega) I with⟨i,hi,B,C⟩|k
 ·obtain⟨m,q,A⟩:=c.lin i hi
  have D:((L[i].1:Int):Rat)<=(L[i+1].1:Rat):=Akf.2 (Am7 (c.lt i hi))
  have e1:=hM _ (Ahu (show i<L.length by omega))
  have T:=hM _ (Ahu hi)
  rw[<-c.val i (by omega),A _ (by grind) D]at e1
  rw[<-c.val (i+1) hi,A _ D (by grind)]at T
  rw[A x B C]
  rcases(Rat.le_total (a:=0) (b:=m+s))with h|h
  ·have:=ml C h;grind
  ·have:=ml B (show 0<=-(m+s) by grind);grind
 ·have e1:=hM _ (Ahu v)
  rw[<-c.val 0 v]at e1
  grind
def Lin.add{f g:F1}{a b:Rat}(A:Lin f a b)(B:Lin g a b):Lin (fun x=>f x+g x) a b:=by
 obtain⟨m,q,h⟩:=A;obtain⟨C,D,h'⟩:=B
 exact⟨m+C,q+D,fun x k v=>by show f x+g x=_;rw[h x k v,h' x k v];grind⟩
def Lin.smul{f:F1}{a b:Rat}(w:Rat)(k:Lin f a b):Lin (fun x=>w*f x) a b:=by
 obtain⟨m,q,h⟩:=k
 exact⟨w*m,w*q,fun x v A=>by show w*f x=_;rw[h x v A];grind⟩
def Lin.of(m q a b:Rat):Lin (fun x=>m*x+q) a b:=⟨m,q,fun _ _ _=>rfl⟩
def Lin.congr{f g:F1}{a b:Rat}(h:Lin f a b)(e:∀ x,a<=x->x<=b->g x=f x):Lin g a b:=by
 obtain⟨m,q,h⟩:=h
 exact⟨m,q,fun x k v=>(e x k v).trans (h x k v)⟩
def Lin.join{f:F1}{a b c:Rat}(k:Lin f a b)(v:Lin f b c)(B:a<b)(C:b<c)(e:(f b - f a)*(c - b)=(f c - f b)*(b - a)):Lin f a c:=by
 obtain⟨m,q,k⟩:=k;obtain⟨A,L,v⟩:=v
 have e1:=k a (by grind) (by grind);have T:=k b (by grind) (by grind);have e3:=v b (by grind) (by grind);have e4:=v c (by grind) (by grind)
 have em:m=A:=by
  have:(b - a)*((c - b)*(m - A))=0:=by grind
  rcases Rat.mul_eq_zero.1 this with h|h
  ·grind
  ·rcases Rat.mul_eq_zero.1 h with h|h<;>grind
 subst em
 refine⟨m,q,fun x D G=>?_⟩
 by_cases I:x<=b
 ·exact k x D I
 ·rw[v x (by grind) G];grind
def su(L:Uw)(x:Int)(v:Rat):Bool:=if h:2<=L.length then(L[L.length - 1].2 - L[L.length - 2].2)*(x - L[L.length - 1].1)==(v - L[L.length - 1].2)*(L[L.length - 1].1 - L[L.length - 2].1)else false
def CK(L:Uw)(x:Int)(v:Rat):Uw:=(if su L x v then L.take (L.length - 1)else L)++[(x,v)]
def eV{a b:Int}(h:a<b):(a:Rat)<b:=Aky.2 h
def Nm{a b:Int}(h:a<=b):(a:Rat)<=b:=Akf.2 h
def Cv.one(f:F1)(x:Int):Cv f [(x,f x)]:=⟨by simp,fun i h=>by simp,fun i h=>by simp at h,fun i h=>by simp at h⟩
def Cv.snoc{f:F1}{L:Uw}(c:Cv f L){x:Int}(k:(L[L.length - 1]'(by have:=c.ne;omega)).1<x)(v:Lin f (L[L.length - 1]'(by have:=c.ne;omega)).1 x):Cv f (L++[(x,f x)]):=by
 have A:=c.ne
 refine⟨by simp,fun i h=>?_,fun i h=>?_,fun i h=>?_⟩
 ·by_cases hi:i<L.length
  ·rw[Aif hi];exact c.val i hi
  ·have:i=L.length:=by simp at h;omega
   subst this;simp
 ·simp at h
  by_cases hi:i+1<L.length
  ·rw[Aif hi,Aif (by omega)];exact c.lt i hi
  ·have:i=L.length - 1:=by omega
   subst this;rw[Aif (by omega),Ajz (by omega)];simpa using k
 ·simp at h
  by_cases hi:i+1<L.length
  ·rw[Aif hi,Aif (by omega)];exact c.lin i hi
  ·have:i=L.length - 1:=by omega
   subst this;rw[Aif (by omega),Ajz (by omega)];simpa using v
def Cv.init{f:F1}{L:Uw}(c:Cv f L){n:Nat}(v:0<n):Cv f (L.take n):=by
 have k:=c.ne
 refine⟨by rw[Ah3];omega,fun i h=>?_,fun i h=>?_,fun i h=>?_⟩<;>rw[Ah3]at h
 ·rw[Ajj];exact c.val i (by omega)
 ·rw[Ajj,Ajj];exact c.lt i (by omega)
 ·rw[Ajj,Ajj];exact c.lin i (by omega)
structure Upto(f:F1)(L:Uw)(a b:Int):Prop where
 cv:Cv f L
 fst:(L[0]'cv.ne).1=a
 lst:(L[L.length - 1]'(by have:=cv.ne;omega)).1=b
def Upto.add{f:F1}{L:Uw}{a b x:Int}(u:Upto f L a b)(h:b<x)(D:Lin f b x):Upto f (CK L x (f x)) a x:=by
 obtain⟨c,G,I⟩:=u
 have A:=c.ne
 unfold CK
 cases v:su L x (f x)with
|false =>
  have k:=c.snoc (x:=x) (by omega) (by rw[I];exact D)
  exact⟨k,by simp only[Ajr,if_false];rw[Aif A];exact G,by simp⟩
| true =>
  unfold su at v
  split at v
  ·rename_i Y
   rw[beq_iff_eq,<-c.val _ (show L.length - 1<L.length by omega),<-c.val _ (show L.length - 2<L.length by omega)]at v
   have B:=c.lt (L.length - 2) (by omega);have C:=c.lin (L.length - 2) (by omega)
   have e1:L.length - 2+1=L.length - 1:=by omega
   simp only[e1]at B C
   rw[I]at v B C
   have ci:=c.init (n:=L.length - 1) (by omega)
   have T:(L.take (L.length - 1)).length=L.length - 1:=by rw[Ah3];omega
   have V:((L.take (L.length - 1))[(L.take (L.length - 1)).length - 1]'(by omega))=L[L.length - 2]:=by
    rw[Ajj];congr 1;omega
   have k:=ci.snoc (x:=x) (by rw[V];omega) (by rw[V];exact C.join D (eV B) (eV h) v)
   refine⟨k,?_,by simp⟩
   simp only[if_true]
   rw[Aif (by omega),Ajj];exact G
  ·cases v
def RU(f:F1)(xs:List Int):Uw:=xs.foldl (fun L x=>CK L x (f x)) []
def Asc(xs:List Int):Prop:=∀ i (h:i+1<xs.length),xs[i]<xs[i+1]
def po{f:F1}{xs:List Int}(v:Asc xs)(A:∀ i (h:i+1<xs.length),Lin f xs[i] xs[i+1]):∀ k (h:k<xs.length),Upto f (RU f (xs.take (k+1))) xs[0] xs[k]
| 0,h=>by
  have e:xs.take 1=[xs[0]]:=by cases xs with
   |nil=>simp at h
   |cons a r=>simp
  rw[e];exact⟨Cv.one f _,rfl,rfl⟩
| k+1,h=>by
  have e:RU f (xs.take (k+1+1))=CK (RU f (xs.take (k+1))) xs[k+1] (f xs[k+1]):=by
   unfold RU;rw[Ah2 h,List.foldl_append];rfl
  rw[e]
  exact(po v A k (by omega)).add (v k h) (A k h)
def Ac0{f:F1}{xs:List Int}(hn:0<xs.length)(k:Asc xs)(v:∀ i (h:i+1<xs.length),Lin f xs[i] xs[i+1]):Upto f (RU f xs) xs[0] xs[xs.length - 1]:=by
 have:=po k v (xs.length - 1) (by omega)
 rwa [Ahi (by omega)]at this
def Asc.lt{xs:List Int}(k:Asc xs):∀ j i (_:i<j) (v:j<xs.length),xs[i]<xs[j]
|0,_,h,_=>absurd h (by omega)
|j+1,i,h,v=>by
  have:=k j v
  by_cases e:i=j
  ·subst e;exact this
  ·have:=k.lt j i (by omega) (by omega);omega
def Asc.gap{xs:List Int}(k:Asc xs){i:Nat}(h:i+1<xs.length){t:Int}(v:t∈xs):t<=xs[i]\/xs[i+1]<=t:=by
 obtain⟨j,A,rfl⟩:=Aj7.1 v
 by_cases B:j<=i
 ·left;by_cases e:j=i
  ·subst e;exact Anj _
  ·exact Am7 (k.lt i j (by omega) (by omega))
 ·right;by_cases e:j=i+1
  ·subst e;exact Anj _
  ·exact Am7 (k.lt j (i+1) (by omega) A)
structure Grid(lo hi:Int)(cs xs:List Int):Prop where
 asc:Asc xs
 mem:∀ t,t∈xs↔t=lo\/t=hi\/(t∈cs/\lo<t/\t<hi)
def Grid.all{lo hi:Int}{cs xs:List Int}(g:Grid lo hi cs xs)(h:lo<=hi){t:Int}(k:t∈xs):lo<=t/\t<=hi:=by rcases(g.mem t).1 k with rfl|rfl|v<;>omega
def Grid.ends{lo hi:Int}{cs xs:List Int}(g:Grid lo hi cs xs)(h:lo<=hi):∃ k:0<xs.length,xs[0]=lo/\xs[xs.length - 1]=hi:=by
 have m1:=(g.mem lo).2 (.inl rfl);have m2:=(g.mem hi).2 (.inr (.inl rfl))
 have k:0<xs.length:=List.length_pos_of_mem m1
 obtain⟨i,v,e1⟩:=Aj7.1 m1
 obtain⟨j,B,A⟩:=Aj7.1 m2
 have a1:=(g.all h (Ahu k)).1
 have a2:=(g.all h (Ahu (show xs.length - 1<xs.length by omega))).2
 refine⟨k,?_,?_⟩
 ·by_cases e:i=0
  ·subst e;exact e1
  ·have:=g.asc.lt i 0 (by omega) v;omega
 ·by_cases e:j=xs.length - 1
  ·subst e;exact A
  ·have:=g.asc.lt (xs.length - 1) j (by omega) (by omega);omega
def Grid.cand{lo hi:Int}{cs xs:List Int}(g:Grid lo hi cs xs)(k:lo<=hi){i:Nat}(h:i+1<xs.length){t:Int}(v:t∈cs):t<=xs[i]\/xs[i+1]<=t:=by
 have a1:=g.all k (Ahu (show i<xs.length by omega));have a2:=g.all k (Ahu h)
 by_cases A:t<=lo
 ·left;omega
 ·by_cases B:hi<=t
  ·right;omega
  ·exact g.asc.gap h ((g.mem t).2 (.inr (.inr ⟨v,by omega,by omega⟩)))
def Grid.built{f:F1}{lo hi:Int}{cs xs:List Int}(g:Grid lo hi cs xs)(h:lo<=hi)(v:∀ p q:Int,lo<=p->p<=q->q<=hi->(∀ t∈cs,t<=p\/q<=t)->Lin f p q):Upto f (RU f xs) lo hi:=by
 obtain⟨A,e1,B⟩:=g.ends h
 have:=Ac0 (f:=f) A g.asc fun i k=>by
  exact v _ _ (g.all h (Ahu _)).1 (Am7 (g.asc i k)) (g.all h (Ahu _)).2 fun t C=>g.cand h k C
 rwa [e1,B]at this
def Asc.eq:∀{xs ys:List Int},Asc xs->Asc ys->(∀ t,t∈xs↔t∈ys)->xs=ys
|[],[],_,_,_=>rfl
|[],b::r,_,_,h=>absurd ((h b).2 (by simp)) (by simp)
|a::r,[],_,_,h=>absurd ((h a).1 (by simp)) (by simp)
| a::r,b::s,A,B,h=>by
  have l1:∀ t∈r,a<t:=fun t k=>by
   obtain⟨j,C,rfl⟩:=Aj7.1 k
   exact A.lt (j+1) 0 (by omega) (by simp;omega)
  have l2:∀ t∈s,b<t:=fun t k=>by
   obtain⟨j,C,rfl⟩:=Aj7.1 k
   exact B.lt (j+1) 0 (by omega) (by simp;omega)
  have e:a=b:=by
   have D:a∈b::s:=(h a).1 (by simp)
   have G:b∈a::r:=(h b).2 (by simp)
   rcases Ah4.1 D with e|e
   ·exact e
   ·rcases Ah4.1 G with v|v
    ·exact v.symm
    ·have:=l2 _ e;have:=l1 _ v;omega
  subst e
  rw[Asc.eq (xs:=r) (ys:=s) (fun i hi=>A (i+1) (by simp;omega)) (fun i hi=>B (i+1) (by simp;omega)) fun t=>by
   have:=h t;simp only[Ah4]at this
   constructor
   ·intro k;have:=l1 t k;rcases(h t).1 (by simp[k])|>Ah4.1 with e|e
    ·omega
    ·exact e
   ·intro k;have:=l2 t k;rcases(h t).2 (by simp[k])|>Ah4.1 with e|e
    ·omega
    ·exact e]
def V_(a b:Int):Int:=if a<=b then a else b
def Xx(a b:Int):Int:=if a<=b then b else a
def Agk(a b:Int):((V_ a b:Int):Rat)=mn a b:=by
 unfold V_ mn
 by_cases h:a<=b
 ·rw[if_pos h,if_pos (Nm h)]
 ·rw[if_neg h,if_neg (fun k=>h (Akf.1 k))]
def Af4(a b:Int):((Xx a b:Int):Rat)=mx a b:=by
 unfold Xx mx
 by_cases h:a<=b
 ·rw[if_pos h,if_pos (Nm h)]
 ·rw[if_neg h,if_neg (fun k=>h (Akf.1 k))]
def pk(s:Rat):Uw->Int->Rat->Int
|[],b,_=>b
|(x,v)::r,b,m=>if m<v+s*x then pk s r x (v+s*x)else pk s r b m
def RV(s:Rat):Uw->Int
|[]=>0
|(x,v)::r=>pk s r x (v+s*x)
def yJ(s:Rat):∀(L:Uw)(b:Int)(m:Rat),(pk s L b m=b/\∀ e∈L,e.2+s*e.1<=m)\/∃ e∈L,pk s L b m=e.1/\m<=e.2+s*e.1/\∀ e'∈L,e'.2+s*e'.1<=e.2+s*e.1
|[],b,m=>.inl ⟨rfl,by simp⟩
| (x,v)::r,b,m=>by
  rw[pk]
  split
  ·rename_i h
   rcases yJ s r x (v+s*x)with⟨k,A⟩|⟨e,B,k,A,C⟩
   ·exact .inr ⟨(x,v),by simp,k,by show m<=v+s*x;grind,Aj6.2 ⟨Akb,A⟩⟩
   ·exact .inr ⟨e,by simp[B],k,by grind,Aj6.2 ⟨A,C⟩⟩
  ·rename_i h
   rcases yJ s r b m with⟨k,A⟩|⟨e,B,k,A,C⟩
   ·exact .inl ⟨k,Aj6.2 ⟨by show v+s*x<=m;grind,A⟩⟩
   ·exact .inr ⟨e,by simp[B],k,A,Aj6.2 ⟨by show v+s*x<=_;grind,C⟩⟩
def Aan(s:Rat){L:Uw}(h:0<L.length):∃ e∈L,RV s L=e.1/\∀ e'∈L,e'.2+s*e'.1<=e.2+s*e.1:=by
 match L,h with
|(x,v)::r,_ =>
  rw[RV]
  rcases yJ s r x (v+s*x)with⟨k,A⟩|⟨e,B,k,A,C⟩
  ·exact⟨(x,v),by simp,k,Aj6.2 ⟨Akb,A⟩⟩
  ·exact⟨e,by simp[B],k,Aj6.2 ⟨A,C⟩⟩
def NA(lo hi:Int)(cs:List Int):List Int:=((List.range (hi - lo+1).toNat).map fun(i:Nat)=>lo+(i:Int)).filter fun t=>t==lo||t==hi||cs.contains t
def yK{lo hi:Int}{cs:List Int}:Asc (NA lo hi cs):=by
 have h:(NA lo hi cs).Pairwise (·<·):=by
  unfold NA
  refine List.Pairwise.filter _ ?_
  rw[List.pairwise_map]
  exact List.Pairwise.imp (fun h=>by omega) List.pairwise_lt_range
 intro i k
 exact Ai2.1 h i (i+1) (by omega) k (by omega)
def uv {lo hi:Int} {cs:List Int} (h:lo<=hi):Grid lo hi cs (NA lo hi cs):=⟨yK,fun t=>by
 unfold NA
 simp only[Ajp,Aio,List.mem_range,Bool.or_eq_true,beq_iff_eq,List.contains_iff_mem]
 constructor
 ·rintro⟨⟨i,A,rfl⟩,(k|k)|k⟩
  ·exact .inl k
  ·exact .inr (.inl k)
  ·by_cases e1:(i:Int)=0
   ·left;omega
   ·by_cases v:lo+(i:Int)=hi
    ·exact .inr (.inl v)
    ·exact .inr (.inr ⟨k,by omega,by omega⟩)
 ·rintro(rfl|rfl|⟨k,B,C⟩)
  ·exact⟨⟨0,by omega,by omega⟩,.inl (.inl rfl)⟩
  ·exact⟨⟨(t - lo).toNat,by omega,by omega⟩,.inl (.inr rfl)⟩
  ·exact⟨⟨(t - lo).toNat,by omega,by omega⟩,.inr k⟩⟩
def Upto.pk{f:F1}{L:Uw}{a b:Int}(u:Upto f L a b)(s:Rat):(∃ e∈L,RV s L=e.1)/\(a<=RV s L/\RV s L<=b)/\∀ x:Rat,a<=x->x<=b->f x+s*x<=f (RV s L)+s*RV s L:=by
 obtain⟨e,v,k,A⟩:=Aan s u.cv.ne
 obtain⟨i,hi,rfl⟩:=Aj7.1 v
 refine⟨⟨_,v,k⟩,?_,fun x B C=>?_⟩
 ·have a1:=u.cv.mono i 0 (by omega) hi;have a2:=u.cv.mono (L.length - 1) i (by omega) (by omega)
  rw[u.fst]at a1;rw[u.lst]at a2;rw[k];exact⟨a1,a2⟩
 ·have:=u.cv.most (s:=s) (M:=L[i].2+s*L[i].1) A (x:=x) (by rw[u.fst];exact B) (by rw[u.lst];exact C)
  rw[k,u.cv.val i hi];exact this
end Gx.Uo
namespace Gx
open Go
inductive AV where
|int (k:IntKind) (n:Int)
|bool (b:Bool)
|str (s:List UInt8)
|nsl
|imm (c:List AV) (len sz:Nat) (tight org:Bool)
|iptr (c:List AV) (org:Bool)
|pagg (c:List AV) (org:Bool)
|own (b off len:Nat)
|optr (b off:Nat)
|agg (c:List AV)
|tup (c:List AV)
|fn (f:Nat) (caps:List AV)
|nilptr
|nilfn
|undef
|omap (b:Nat)
abbrev Aqb(k n:Nat):AV:=.own (300000+k) 0 n
abbrev Aqc:AV:=.int .i64 0
structure Blk where
 dead:Bool
 sealed:Bool
 pure:Bool
 taint:Bool
 sz:Nat
 cells:List AV
 mp:Bool:=false
 ty:Option (Nat×Nat):=none
abbrev LA:=List AV
abbrev O(R:Type):=Option R
abbrev Aw:=List (Nat×Blk)
abbrev Fq:=List (Nat×AV)
def Al:Aw->Nat->Option Blk
|[],_=>none
|(i,x)::r,b=>cond (beq i b) (some x) (Al r b)
def Ei:Aw->Nat->Blk->Aw
|[],b,y=>[(b,y)]
|(i,x)::r,b,y=>cond (beq i b) ((b,y)::r) (cond (Nat.blt b i) ((b,y)::(i,x)::r) ((i,x)::Ei r b y))
def E7:Fq->Nat->AV
|[],_=>.undef
|(i,x)::r,b=>cond (beq i b) x (E7 r b)
def PN:Fq->Nat->AV->Fq
|[],b,y=>[(b,y)]
|(i,x)::r,b,y=>cond (beq i b) ((b,y)::r) (cond (Nat.blt b i) ((b,y)::(i,x)::r) ((i,x)::PN r b y))
structure St where
 s:Fq
 h:Aw
mutual
def WA:Value->AV
|.int k n=>.int k n
|.bool b=>.bool b
|.string ⟨⟨s⟩⟩=>.str s
|.slice none 0 0=>.nsl
|.pointer none=>.nilptr
|.nilFunc=>.nilfn
|.agg ⟨cs⟩=>.agg (Jo cs)
|_=>.undef
def Jo:List Value->List AV
|[]=>[]
|v::r=>WA v::Jo r
end
def ev(s:Fq):Operand->AV
|.tmp t=>E7 s t
|.const v=>WA v
|.func f=>cond (Nat.blt f 1000000) (.fn f []) .undef
|.global _=>.undef
def A8(P:Program)(t:TypeId):Option Nat:=(P.info? t).map (·.size)
def nI(P:Program)(t:TypeId):Option Nat:=(P.info? t).map (·.bytes)
def uw(P:Program)(t:TypeId):Bool:=((P.info? t).map (·.hasPointers)).getD true
def fA(P:Program)(t:TypeId):Option AV:=((P.info? t).bind (·.zero)).map WA
def A4:LA->Bool
|[]=>true
|.int ..::r=>A4 r
|.bool _::r=>A4 r
|.str _::r=>A4 r
|.nsl::r=>A4 r
|.nilptr::r=>A4 r
|.nilfn::r=>A4 r
|_=>false
def NX(P:Program)(t:TypeId):Option LA:=(P.info? t).bind fun i=>(i.zero).bind fun v=>cond (A4 (Jo v.cells.toList)&&beq v.cells.toList.length i.size) (some (Jo v.cells.toList)) none
def WB(op:BinOp)(k:IntKind)(a b:Int):Option AV :=
 match op with
|.add=>some (.int k (k.wrap (a+b)))
|.sub=>some (.int k (k.wrap (a - b)))
|.mul=>some (.int k (k.wrap (a*b)))
|.and=>some (.int k (k.wrap ((BitVec.ofInt k.bits a &&& BitVec.ofInt k.bits b).toNat:Int)))
|.or=>some (.int k (k.wrap ((BitVec.ofInt k.bits a ||| BitVec.ofInt k.bits b).toNat:Int)))
|.xor=>some (.int k (k.wrap ((BitVec.ofInt k.bits a ^^^ BitVec.ofInt k.bits b).toNat:Int)))
|.andNot=>some (.int k (k.wrap ((BitVec.ofInt k.bits a &&& ~~~ (BitVec.ofInt k.bits b)).toNat:Int)))
|.eql=>some (.bool (a==b))
|.neq=>some (.bool (a != b))
|.lss=>some (.bool (decide (a<b)))
|.leq=>some (.bool (decide (a<=b)))
|.gtr=>some (.bool (decide (a>b)))
|.geq=>some (.bool (decide (a>=b)))
|_=>none
def Ih(k k':IntKind):Bool:=decide (k=k')
def LP(P:Program)(t:TypeId):Bool:=match P.underlying t with|some .bool=>true|_=>false
def wI{R:Type}(P:Program)(t:TypeId)(op:BinOp)(x y:AV)(r:AV->O R):O R :=
 match x,y with
|.int k a,.int k' b =>
  match op with
  |.shl=>cond (decide (b<0)) none (r (.int k (k.wrap (a*2 ^ (min b.toNat k.bits)))))
  |.shr=>cond (decide (b<0)) none (r (.int k (a.fdiv (2 ^ (min b.toNat k.bits)))))
  |.quo=>cond (Ih k k') (cond (b==0) none (r (.int k (k.wrap (a.tdiv b))))) none
  |.rem=>cond (Ih k k') (cond (b==0) none (r (.int k (a.tmod b)))) none
  |op=>cond (Ih k k') ((WB op k a b).bind r) none
|.bool a,.bool b =>
  match op with
  |.eql=>cond (LP P t) (r (.bool (a==b))) none
  |.neq=>cond (LP P t) (r (.bool (!(a==b)))) none
  |_=>none
|.str a,.str b =>
  match op with
  |.add=>cond (ble (a.length+b.length) 140737488355328) (r (.str (a++b))) none
  |.eql=>r (.bool (a==b))
  |.neq=>r (.bool (!(a==b)))
  |.lss=>r (.bool (Op.bytesLess a b))
  |.leq=>r (.bool (Op.bytesLess a b||a==b))
  |.gtr=>r (.bool (!(Op.bytesLess a b||a==b)))
  |.geq=>r (.bool (!Op.bytesLess a b))
  |_=>none
|_,_=>none
def Afb(op:UnOp)(x:AV):Option AV :=
 match op,x with
|.neg,.int k n=>some (.int k (k.wrap (0 - n)))
|.xor,.int k n=>WB .xor k (cond k.signed (-1) k.max) n
|.not,.bool b=>some (.bool (!b))
|_,_=>none
def NY(k:IntKind):AV->Option Int
|.int k' n=>cond (Ih k k') (some n) none
|_=>none
def asBool:AV->Option Bool
|.bool b=>some b
|_=>none
def ZU:AV->Option Lu
|.str s=>some s
|_=>none
def wJ(sz:Nat):AV->Option (LA×Nat)
|.imm c len sz' _ _=>cond (beq sz sz') (some (c,len)) none
|.nsl=>some ([],0)
|_=>none
def yL:AV->Option UInt8
|.int .u8 n=>some (UInt8.ofNat n.toNat)
|_=>none
def RW:LA->Option Lu
|[]=>some []
|x::r=>(yL x).bind fun b=>(RW r).bind fun l=>some (b::l)
def AB{R:Type}(step:TypeId->LA->LA->(Bool->O R)->O R)(x y:LA):List (Nat×TypeId)->(Bool->O R)->O R
|[],k=>k true
|(off,t)::r,k=>step t (x.drop off) (y.drop off) fun b=>AB step x y r fun c=>k (b&&c)
def nK(P:Program)(sz:Nat)(f:Field):Bool:=match A8 P f.type with
|some s => ble 1 s && (ble (f.offset + s) sz && !(f.name == "_"))
|none=>false
def dK{R:Type}(P:Program):Nat->TypeId->LA->LA->(Bool->O R)->O R
|0,_,_,_,_=>none
|d+1,t,x,y,k=>match P.underlying t with
  |some (.int kd)=>(x.head?).bind fun u=>(NY kd u).bind fun a=>(y.head?).bind fun v=>(NY kd v).bind fun b=>k (a==b)
  |some .bool=>(x.head?).bind fun u=>(asBool u).bind fun a=>(y.head?).bind fun v=>(asBool v).bind fun b=>k (a==b)
  |some .string=>(x.head?).bind fun u=>(ZU u).bind fun a=>(y.head?).bind fun v=>(ZU v).bind fun b=>k (a==b)
  |some (.struct fs)=>(A8 P t).bind fun sz=>cond (P.stoodInHeld t||!(fs.toList.all (nK P sz))) none (AB (dK P d) x y (fs.toList.map fun f=>(f.offset,f.type)) k)
  |some (.array n e)=>(A8 P e).bind fun s=>(A8 P t).bind fun sz=>cond (ble 1 s&&ble (n*s) sz) (AB (dK P d) x y ((List.range n).map fun i=>(i*s,e)) k) none
  |_=>none
def nL:AV->Option LA
|.pagg c _=>some c
|.agg c=>some c
|_=>none
def yM(P:Program)(t:TypeId):Bool:=match P.underlying t with|some (.struct _)=>true|some (.array _ _)=>true|_=>false
def lF{R:Type}(P:Program)(t:TypeId)(op:BinOp)(x y:AV)(r:AV->O R):O R :=
 match nL x,nL y with
| some a,some b=>(A8 P t).bind fun s=>cond (ble 1 s&&(beq a.length s&&(beq b.length s&&(yM P t&&!(P.eqGuardType P.depth t)))))
  (match op with
   |.eql=>dK P 8 t a b fun c=>r (.bool c)
   |.neq=>dK P 8 t a b fun c=>r (.bool (!c))
   | _=>none) none
|_,_=>wI P t op x y r
def Ux{R:Type}(P:Program)(t:TypeId)(c:LA)(org:Bool)(k:Bool->O R):O R:=cond (uw P t) (k org) (cond (!org||A4 c) (k false) none)
def HW{R:Type}(P:Program)(t:TypeId)(c:LA)(org:Bool)(k:AV->O R):O R :=
 match P.underlying t with
|some (.int kd)=>(c.head?).bind fun x=>(NY kd x).bind fun n=>k (.int kd n)
|some .bool=>(c.head?).bind fun x=>(asBool x).bind fun b=>k (.bool b)
|some .string=>(c.head?).bind fun x=>(ZU x).bind fun s=>k (.str s)
|some (.slice e)=>(A8 P e).bind fun sz=>(c.head?).bind fun x=>(wJ sz x).bind fun p=>k (.imm p.1 p.2 sz false org)
|some (.struct _)=>(A8 P t).bind fun n=>cond (ble n c.length) (Ux P t (c.take n) org fun o=>k (.pagg (c.take n) o)) none
|some (.array _ _)=>(A8 P t).bind fun n=>cond (ble n c.length) (Ux P t (c.take n) org fun o=>k (.pagg (c.take n) o)) none
|_=>none
def CL{R:Type}(n:Nat)(k:AV->O R):LA->Nat->O R
|[],_=>none
|v::r,i=>cond (beq n i) (k v) (CL n k r (i+1))
def ZV{R:Type}(P:Program)(t:TypeId)(c:LA)(k:AV->O R):O R :=
 match P.underlying t with
|some (.struct _)=>(A8 P t).bind fun n=>cond (ble n c.length) (k (.agg (c.take n))) none
|some (.array _ _)=>(A8 P t).bind fun n=>cond (ble n c.length) (k (.agg (c.take n))) none
|some _=>(c.head?).bind k
|none=>none
def HX{R:Type}(P:Program)(t:TypeId)(c:LA)(off:Nat)(k:AV->O R):O R :=
 match P.underlying t with
|some (.struct _)=>(A8 P t).bind fun n=>cond (ble n (c.drop off).length) (k (.agg ((c.drop off).take n))) none
|some (.array _ _)=>(A8 P t).bind fun n=>cond (ble n (c.drop off).length) (k (.agg ((c.drop off).take n))) none
|some _=>CL off k c 0
|none=>none
abbrev A2:=Nat->Option Blk
def E1(g:A2)(b:Nat):Option Blk:=(g b).bind fun x=>cond x.dead none (some x)
def fB{R:Type}(P:Program)(g:A2)(t:TypeId)(p:AV)(k:AV->O R):O R :=
 match p with
|.iptr c org=>HW P t c org k
|.optr b off=>(E1 g b).bind fun x=>cond x.pure (HW P t (x.cells.drop off) x.taint k) (HX P t x.cells off k)
|_=>none
def Ah(i:Int)(n:Nat):Bool:=decide (0<=i)&&decide (i<(n:Int))
def Ii{R:Type}(P:Program)(t:TypeId)(x i:AV)(k:AV->O R):O R :=
 match P.underlying t,x,i with
|some (.slice el),.imm c len sz _ org,.int _ i=>(A8 P el).bind fun sz'=>cond (beq sz sz') (cond (Ah i len) (k (.iptr (c.drop (i.toNat*sz)) org)) none) none
|some (.slice el),.own b off len,.int _ i=>(A8 P el).bind fun sz=>cond (Ah i len) (k (.optr b (off+i.toNat*sz))) none
|some (.array len el),.iptr c org,.int _ i=>(A8 P el).bind fun sz=>cond (Ah i len) (k (.iptr (c.drop (i.toNat*sz)) org)) none
|some (.array len el),.optr b off,.int _ i=>(A8 P el).bind fun sz=>cond (Ah i len) (k (.optr b (off+i.toNat*sz))) none
|_,_,_=>none
def ZW{R:Type}(i:Int)(k:Nat->O R):Nat->Nat->O R
|0,_=>none
|m+1,j=>cond (i==(j:Int)) (k j) (ZW i k m (j+1))
def Od{R:Type}(P:Program)(t:TypeId)(x i:AV)(k:AV->O R):O R :=
 match P.underlying t,x,i with
|some (.array len el),.optr b off,.int _ i=>(A8 P el).bind fun sz=>ZW i (fun j=>cond (Nat.blt j len) (k (.optr b (off+j*sz))) none) 7 0
|_,_,_=>none
def eX(P:Program)(t:TypeId)(f:Nat):Option (Nat×TypeId) :=
 match P.underlying t with
|some (.struct fs)=>(fs[f]?).map fun x=>(x.offset,x.type)
|_=>none
def Qi{R:Type}(P:Program)(t:TypeId)(x:AV)(f:Nat)(k:AV->O R):O R :=
 (eX P t f).bind fun p=>(A8 P p.2).bind fun n=>cond (beq n 0) none
 (match x with
|.iptr c org=>k (.iptr (c.drop p.1) org)
|.optr b off=>k (.optr b (off+p.1))
| _=>none)
def WC{R:Type}(P:Program)(t:TypeId)(x:AV)(f:Nat)(k:AV->O R):O R :=
 (eX P t f).bind fun p =>
 match x with
|.pagg c org=>HW P p.2 (c.drop p.1) org k
|.agg c=>ZV P p.2 (c.drop p.1) k
|_=>none
def WD{R:Type}(P:Program)(t:TypeId)(x i:AV)(k:AV->O R):O R :=
 match P.underlying t,x,i with
|some .string,.str s,.int _ i=>cond (Ah i s.length) (k (.int .u8 ((s.getD i.toNat 0).toNat:Int))) none
|some (.array len el),.pagg c org,.int _ i=>(A8 P el).bind fun sz=>cond (Ah i len) (HW P el (c.drop (i.toNat*sz)) org k) none
|some (.array len el),.agg c,.int _ i=>(A8 P el).bind fun sz=>cond (Ah i len) (HX P el c (i.toNat*sz) k) none
|_,_,_=>none
def RX(o:Option AV)(d:Nat):Option Int:=match o with|none=>some (d:Int)|some (.int _ i)=>some i|_=>none
def Uy{R:Type}(lo hi mx:Option AV)(n:Nat)(k:Nat->Nat->O R):O R :=
 (RX lo 0).bind fun l=>(RX hi n).bind fun h=>(RX mx n).bind fun m=>cond (mx.isSome&&!hi.isSome) none <|
 cond (decide (0<=l)&&(decide (l<=h)&&(decide (h<=m)&&decide (m<=(n:Int))))) (k l.toNat h.toNat) none
def ux(tight:Bool)(hi mx:Option AV):Bool:=match hi,mx with|none,none=>tight|some (.int _ a),some (.int _ b)=>a==b|_,_=>false
def WE{R:Type}(P:Program)(g:A2)(t:TypeId)(x:AV)(lo hi mx:Option AV)(k:AV->O R):O R :=
 match P.underlying t,x with
|some .string,.str s=>cond mx.isSome none (Uy lo hi none s.length fun l h=>k (.str ((s.drop l).take (h - l))))
|some (.slice el),.nsl=>(A8 P el).bind fun _=>Uy lo hi mx 0 fun _ _=>k .nsl
| some (.slice el),.imm c n sz tight org=>(A8 P el).bind fun sz'=>cond (beq sz sz') (Uy lo hi mx n fun l h =>
   k (.imm ((c.drop (l*sz)).take ((h - l)*sz)) (h - l) sz (ux tight hi mx) org)) none
|some (.slice el),.own b off n=>(A8 P el).bind fun sz=>(E1 g b).bind fun y=>cond (beq sz y.sz) (Uy lo hi mx n fun l h=>k (.own b (off+l*sz) (h - l))) none
|some (.array n el),.optr b off=>(A8 P el).bind fun _=>(E1 g b).bind fun y=>cond (beq y.sz 0&&(ble (off+n) y.cells.length&&(lo.isNone&&(hi.isNone&&mx.isNone)))) (k (.own b off n)) none
|_,_=>none
def Ac1(P:Program)(t:TypeId)(x:AV):Option AV :=
 match P.underlying t,x with
|some (.slice _),.nsl=>some (.int .i64 0)
|some (.slice _),.imm _ n _ _ _=>some (.int .i64 n)
|some (.slice _),.own _ _ n=>some (.int .i64 n)
|some .string,.str s=>some (.int .i64 s.length)
|some (.array n _),_=>some (.int .i64 n)
|_,_=>none
def lG(g:A2)(sz:Nat):AV->Option (LA×Nat×Bool)
|.nsl=>some ([],0,false)
|.imm c n sz' _ org=>cond (beq sz sz') (some (c,n,org)) none
|.own b off n=>(E1 g b).bind fun x=>cond (x.pure&&beq sz x.sz) (some ((x.cells.drop off).take (n*sz),n,x.taint)) none
|.str s=>cond (beq sz 1) (some (s.map fun b=>.int .u8 (b.toNat:Int),s.length,false)) none
|_=>none
def PO{R:Type}(P:Program)(el:TypeId)(g:A2)(sz:Nat)(x:AV)(k:LA×Nat×Bool->O R):O R:=(lG g sz x).bind fun q=>Ux P el q.1 q.2.2 fun o=>k (q.1,q.2.1,o)
abbrev Dc:=List (Nat×Option Blk)
def NZ(g:A2):AV->Option (AV×Dc×Bool)
|.own b off n=>(E1 g b).bind fun x=>cond x.pure (some (.imm ((x.cells.drop off).take (n*x.sz)) n x.sz false x.taint,[(b,some {x with sealed:=true})],x.taint)) none
|.optr ..|.agg _|.tup _|.undef|.fn ..|.omap _=>none
|.imm c n sz t org=>some (.imm c n sz t org,[],org)
|.iptr c org=>some (.iptr c org,[],org)
|.pagg _ _=>none
|v=>some (v,[],false)
def Wd(g:A2):LA->Option (LA×Dc×Bool)
|[]=>some ([],[],false)
|v::r=>(NZ g v).bind fun p=>(Wd g r).bind fun q=>some (p.1::q.1,p.2.1++q.2.1,p.2.2||q.2.2)
def Vz(g:A2):AV->Option (LA×Dc×Bool)
|.pagg c org=>some (c,[],org)
|.agg c=>Wd g c
|v=>Wd g [v]
def C8(c:LA)(off:Nat)(vs:LA):LA:=c.take off++vs++c.drop (off+vs.length)
def A0:Dc->Nat->Bool
|[],_=>false
|(i,_)::r,b=>cond (beq i b) true (A0 r b)
def AC(g:A2):AV->Bool
|.own b _ _=>(E1 g b).isSome
|.optr b _=>(E1 g b).isSome
|.agg _=>false
|.pagg _ _=>false
|.tup _=>false
|.undef=>false
|.omap _=>false
|_=>true
def J8(g:A2):LA->Bool
|[]=>true
|v::r=>AC g v&&J8 g r
def setCells(c:LA)(off:Nat)(vs:LA):LA:=match vs with|[y]=>c.set off y|ys=>C8 c off ys
def nM(P:Program):Nat->TypeId->Nat->List (Nat×TypeId)
|0,t,off=>[(off,t)]
|d+1,t,off=>match P.underlying t with
  |some (.struct fs)=>fs.toList.flatMap fun f=>nM P d f.type (off+f.offset)
  |_=>[(off,t)]
def yN(P:Program)(t:TypeId):Bool:=match P.underlying t with
|some (.int _)=>true|some .bool=>true|some .string=>true|some (.slice _)=>true|_=>false
def FT{R:Type}(P:Program)(c:LA)(org:Bool):List (Nat×TypeId)->LA->(LA->O R)->O R
|[],acc,k=>k acc
|(off,t)::r,acc,k=>cond (beq off acc.length&&yN P t) (HW P t (c.drop off) org fun v=>FT P c org r (acc++[v]) k) none
def WF {R:Type} (P:Program) (g:A2) (t:TypeId) (p v:AV) (k:AV->Dc->O R):O R :=
  match p with
  | .optr b off=>(E1 g b).bind fun x=>(A8 P t).bind fun n =>
    cond x.sealed none
    (cond x.pure
      ((Vz g v).bind fun q=>cond (beq q.1.length n&&(ble (off+n) x.cells.length&&!A0 q.2.1 b))
        (k .undef (q.2.1++[(b,some { x with cells:=setCells x.cells off q.1,taint:=x.taint||q.2.2 })])) none)
      (match v with
        |.agg c=>cond (J8 g c&&(beq c.length n&&ble (off+n) x.cells.length)) (k .undef [(b,some {x with cells:=C8 x.cells off c})]) none
        | .pagg c org=>cond (beq off 0&&(beq c.length n&&beq x.cells.length n)) (k .undef [(b,some { x with pure:=true,taint:=org,cells:=c })])
          (cond (beq off 0&&beq x.cells.length n) none (FT P c org (nM P 4 t 0) [] fun l=>cond (beq c.length l.length&&(J8 g l&&(beq l.length n&&ble (off+n) x.cells.length))) (k .undef [(b,some {x with cells:=C8 x.cells off l})]) none))
        | v=>cond (AC g v&&(beq n 1&&Nat.blt off x.cells.length)) (k .undef [(b,some { x with cells:=x.cells.set off v })]) none))
  |_=>none
def Ga:Nat:=1000000
def nid(d:Nat):Nat:=1000000+d*16
def nN(P:Program)(t:TypeId):Option (Nat×Nat) :=
 match P.underlying t with
| some (.struct fs)=>(fs[0]?).bind fun f=>match P.underlying f.type with
  |some (.pointer u)=>cond (beq u t) ((A8 P t).map fun n=>(t,n)) none
  |some (.struct gs)=>(gs[0]?).bind fun g=>match P.underlying g.type with
   |some (.pointer u)=>cond (beq u f.type) ((A8 P t).map fun n=>(t,n)) none
   |_=>none
  |_=>none
|_=>none
def Oz(d:Nat)(pure taint:Bool)(sz:Nat)(cells:LA):Dc:=[(nid d,some {dead:=false,sealed:=false,pure,taint,sz,cells})]
def pp{R:Type}(P:Program)(g:A2)(d:Nat)(t:TypeId)(v:AV)(k:AV->Dc->O R):O R :=
 match v with
|.pagg c org=>k (.optr (nid d) 0) (Oz d true org 0 c)
| .agg c =>
  cond (uw P t) (cond (J8 g c&&beq c.length ((A8 P t).getD 0)) (k (.optr (nid d) 0) [(nid d,some {dead:=false,sealed:=false,pure:=false,taint:=false,sz:=0,cells:=c,ty:=nN P t})]) none)
   ((Wd g c).bind fun q=>k (.optr (nid d) 0) (q.2.1++Oz d true q.2.2 0 q.1))
|v=>cond (AC g v) (k (.optr (nid d) 0) (Oz d false false 0 [v])) none
def E8(sz:Nat):Blk:={dead:=false,sealed:=false,pure:=true,taint:=false,sz,cells:=[]}
def yO(co:Bool)(v:AV):AV:=match co,v with
|true,.agg c=>cond (A4 c) (.pagg c false) (.agg c)
|_,v=>v
def WG{R:Type}(P:Program)(g:A2)(co:Bool)(d:Nat)(t:TypeId)(k:AV->Dc->O R):O R :=
 match P.underlying t,fA P t with
|some (.slice el),some .nsl=>(A8 P el).bind fun sz=>k (.optr (nid d) 0) [(nid d+1,some (E8 sz)),(nid d,some {dead:=false,sealed:=false,pure:=false,taint:=false,sz:=0,cells:=[.own (nid d+1) 0 0]})]
|_,some z=>pp P g d t (yO co z) k
|_,none=>none
def Mw(place:Nat->Option (Nat×Nat)):List (Nat×LA)->LA->Option LA
|[],c=>some c
|(i,vs)::r,c=>(place i).bind fun p=>cond (beq vs.length p.2&&ble (p.1+p.2) c.length) (Mw place r (setCells c p.1 vs)) none
def ZX{R:Type}(place:Nat->Option (Nat×Nat)):List (Nat×LA)->LA->(LA->O R)->O R
|[],c,k=>k c
|(i,vs)::r,c,k=>(place i).bind fun p=>cond (beq vs.length p.2&&ble (p.1+p.2) c.length) (ZX place r (setCells c p.1 vs) k) none
def D4(n:Nat)(z:LA):LA:=match z with|[v]=>replicate n v|z=>(replicate n z).flatten
def V0(g:A2):List (Nat×AV)->Option (List (Nat×LA)×Dc×Bool)
|[]=>some ([],[],false)
|(i,v)::r=>(Vz g v).bind fun q=>(V0 g r).bind fun q'=>some ((i,q.1)::q'.1,q.2.1++q'.2.1,q.2.2||q'.2.2)
def yP:AV->Bool
|.optr ..=>true
|.fn _ (_::_)=>true
|_=>false
def Qj{R:Type}(P:Program)(g:A2)(d:Nat)(t:TypeId)(len:Nat)(parts:List (Nat×AV))(k:AV->Dc->O R):O R :=
 match P.underlying t with
| some (.slice el)=>(A8 P el).bind fun sz=>(NX P el).bind fun z =>
  cond (beq sz 1&&(ble len 16777216&&J8 g (parts.map (·.2)))) ((Mw (fun i=>some (i*1,1)) (parts.map fun p=>(p.1,[p.2])) (D4 len z)).bind fun cells =>
   k (.own (nid d) 0 len) (Oz d false false 1 cells)) none
|_=>none
def Oe{R:Type}(P:Program)(g:A2)(d:Nat)(t:TypeId)(len:Nat)(parts:List (Nat×AV))(k:AV->Dc->O R):O R :=
 match P.underlying t with
| some (.slice el)=>(A8 P el).bind fun sz=>(NX P el).bind fun z=>(V0 g parts).bind fun q =>
  cond (ble (len*sz) 16777216) (ZX (fun i=>some (i*sz,sz)) q.1 (D4 len z) fun cells =>
   k (.own (nid d) 0 len) (q.2.1++Oz d true q.2.2 sz cells)) none
|_=>none
def PP:AV->Bool
|.own ..|.optr ..|.fn ..|.undef|.agg _|.pagg _ _|.tup _|.omap _=>true
|_=>false
def fC:AV->Bool
|.agg c=>c.any PP
|.pagg _ _=>false
|v=>PP v
def cellsOf:AV->LA
|.agg c=>c
|.pagg c _=>c
|v=>[v]
def nO:AV->Bool
|.imm _ _ _ _ o=>o
|.iptr _ o=>o
|_=>false
def ZY:AV->Bool
|.pagg _ o=>o
|.agg c=>c.any nO
|v=>nO v
def CM:AV->Bool
|.pagg _ _=>true
|_=>false
def HY(P:Program)(t:TypeId):Option (Nat->Option (Nat×Nat)) :=
 match P.underlying t with
|some (.array _ e)=>(P.info? e).map fun ie=>fun i=>some (i*ie.size,ie.size)
|some (.struct fs)=>(fs.toList.mapM fun f=>(P.info? f.type).map fun i=>(f.offset,i.size)).map fun pl=>fun i=>pl[i]?
|_=>none
def lH(P:Program)(t:TypeId):Option LA:=(P.info? t).bind fun i=>(i.zero).map fun v=>Jo v.cells.toList
def Eu:List (Nat×AV)->List (Nat×LA)
|[]=>[]
|(i,v)::r=>(i,cellsOf v)::Eu r
def pt(o:Bool):AV->AV
|.imm c n s t _=>.imm c n s t o
|.iptr c _=>.iptr c o
|v=>v
def fD:AV->LA
|.agg c=>c
|.pagg c o=>c.map (pt o)
|v=>[v]
def Ij:List (Nat×AV)->List (Nat×LA)
|[]=>[]
|(i,v)::r=>(i,fD v)::Ij r
def HZ:AV->Bool
|.undef=>false
|.tup _=>false
|.omap _=>false
|_=>true
def nP(P:Program)(t:TypeId)(parts:List (Nat×AV)):Option AV :=
 (HY P t).bind fun place=>cond (parts.all fun p=>HZ p.2) (
 cond (parts.any fun p=>CM p.2)
  (cond (parts.any fun p=>fC p.2) ((lH P t).bind fun z=>(Mw place (Ij parts) z).map fun c=>.agg c) ((NX P t).bind fun z=>(Mw place (Eu parts) z).map fun c=>.pagg c (parts.any fun p=>ZY p.2)))
  ((lH P t).bind fun z=>(Mw place (Eu parts) z).map fun c=>.agg c)) none
def nQ{R:Type}(P:Program)(t:TypeId)(parts:List (Nat×AV))(k:AV->O R):O R :=
 (HY P t).bind fun place=>cond (parts.all fun p=>HZ p.2) (
 cond (parts.any fun p=>CM p.2)
  (cond (parts.any fun p=>fC p.2) ((lH P t).bind fun z=>ZX place (Ij parts) z fun c=>k (.agg c)) ((NX P t).bind fun z=>ZX place (Eu parts) z fun c=>k (.pagg c (parts.any fun p=>ZY p.2))))
  ((lH P t).bind fun z=>ZX place (Eu parts) z fun c=>k (.agg c))) none
def LQ{R:Type}(P:Program)(g:A2)(t:TypeId)(parts:List (Nat×AV))(k:AV->Dc->O R):O R:=(HY P t).bind fun place=>(NX P t).bind fun z=>(V0 g parts).bind fun q=>ZX place q.1 z fun c=>k (.pagg c q.2.2) q.2.1
def wK(P:Program)(t:TypeId):List (Nat×Nat) :=
 match P.underlying t with
|some (.struct fs)=>fs.toList.filterMap fun f=>match P.underlying f.type with|some (.slice el)=>(A8 P el).map fun s=>(f.offset,s)|_=>none
|_=>[]
def uy(P:Program)(n:Nat)(e:TypeId)(off:Nat):List (Nat×Nat) :=
 match P.underlying e with
|some (.slice el)=>((A8 P el).map fun s=>(List.range (min n 7)).map fun i=>(off+i,s)).getD []
|_=>[]
def O0(P:Program)(t:TypeId):List (Nat×Nat) :=
 match P.underlying t with
|some (.array n e)=>uy P n e 0
|some (.struct fs)=>fs.toList.flatMap fun f=>match P.underlying f.type with
  |some (.slice el)=>((A8 P el).map fun s=>(f.offset,s)).toList
  |some (.struct _)=>(wK P f.type).map fun p=>(f.offset+p.1,p.2)
  |some (.array n e)=>uy P n e f.offset
  |_=>[]
|_=>[]
def E9(d:Nat):List (Nat×Nat)->Nat->LA->LA×Dc
|[],_,c=>(c,[])
|(o,sz)::r,j,c=>match c[o]? with
  |some .nsl=>((E9 d r (j+1) (c.set o (.own (nid d+j) 0 0))).1,(nid d+j,some (E8 sz))::(E9 d r (j+1) (c.set o (.own (nid d+j) 0 0))).2)
  |_=>E9 d r (j+1) c
def wL{R:Type}(P:Program)(t:TypeId)(co:Bool)(d:Nat)(v:AV)(k:AV->Dc->O R):O R :=
 match co,v with
|true,.agg c=>cond (ble (O0 P t).length 15) (k (.agg (E9 d (O0 P t) 1 c).1) (E9 d (O0 P t) 1 c).2) none
|_,v=>k v []
def LR{R:Type}(P:Program)(g:A2)(d:Nat)(t:TypeId)(k:AV->Dc->O R):O R :=
 match fA P t with
|some (.agg c)=>cond (ble (O0 P t).length 15&&J8 g c) (k (.optr (nid d) 0) ((E9 d (O0 P t) 1 c).2++Oz d false false 0 (E9 d (O0 P t) 1 c).1)) none
|_=>none
def WH{R:Type}(P:Program)(co:Bool)(t:TypeId)(v:AV)(k:AV->O R):O R :=
 match co,v with
|true,.pagg c org=>FT P c org (nM P 4 t 0) [] fun l=>cond (beq c.length l.length) (k (.agg l)) none
|_,v=>k v
def lI{R:Type}(P:Program)(d:Nat)(t:TypeId)(len cap:AV)(k:AV->Dc->O R):O R :=
 match P.underlying t,len,cap with
| some (.slice el),.int .i64 l,.int .i64 c=>(A8 P el).bind fun sz=>(nI P el).bind fun by_=>(NX P el).bind fun z =>
  cond (decide (0<=l)&&(decide (l<=c)&&(decide (c<=140737488355328)&&decide (c*(by_:Int)<=140737488355328)))) (
   k (.own (nid d) 0 l.toNat) (Oz d true false sz (D4 l.toNat z))) none
|_,_,_=>none
def uz(g:A2)(sz:Nat)(s:AV):Option (LA×Nat×Bool×Dc) :=
 match s with
|.nsl=>some ([],0,false,[])
|.imm _ n _ true _=>cond (beq n 0) (some ([],0,false,[])) none
|.own b off n=>(E1 g b).bind fun x=>cond (x.pure&&(!x.sealed&&beq sz x.sz)) (some ((x.cells.drop off).take (n*sz),n,x.taint,[(b,none)])) none
|_=>none
def ZZ(P:Program)(g:A2)(el tx:TypeId)(s:AV):Option (Nat×Nat) :=
 match s with
|.nsl=>match P.underlying tx with|some .string=>some (el,0)|_=>none
|.own b off _=>(E1 g b).bind fun x=>(x.ty).bind fun q=>cond (beq q.1 el&&(beq q.2 0&&beq off 0)) (some (el,0)) none
|_=>none
def nR(P:Program)(t:TypeId):Bool:=match P.underlying t with|some (.slice _)=>true|some .string=>true|_=>false
def LU{R:Type}(P:Program)(g:A2)(d:Nat)(t tx:TypeId)(s x:AV)(k:AV->Dc->O R):O R :=
 match P.underlying t with
| some (.slice el)=>cond (nR P tx) ( (A8 P el).bind fun sz=>(nI P el).bind fun by_=>(NX P el).bind fun _ =>
  (uz g sz s).bind fun old=>PO P el g sz x fun new =>
  cond (ble (old.2.1+new.2.1) 140737488355328&&ble ((old.2.1+new.2.1)*by_) 140737488355328) (
   k (.own (nid d) 0 (old.2.1+new.2.1)) (old.2.2.2++[(nid d,some { dead:=false,sealed:=false,pure:=true,taint:=old.2.2.1||new.2.2,sz,cells:=old.1++new.1,ty:=ZZ P g el tx s })])) none) none
|_=>none
def PQ{R:Type}(kd:IntKind):Nat->LA->(LA->O R)->O R
|0,_,k=>k []
|n+1,c,k=>(c.head?).bind fun x=>(NY kd x).bind fun v=>PQ kd n (c.drop 1) fun l=>k (.int kd v::l)
def WI{R:Type}(P:Program)(el sz b off n:Nat)(y:Blk)(new:LA×Nat×Bool)(k:AV->Dc->O R):O R :=
 match P.underlying el with
| some (.int kd)=>cond (beq sz 1&&(ble 1 n&&(beq y.sz 0&&(!y.sealed&&(!y.pure&&(ble n new.2.1&&ble (off+n) y.cells.length)))))) (
   PQ kd n new.1 fun vs=>k (.int .i64 (n:Nat)) [(b,some { y with cells:=C8 y.cells off vs })]) none
|_=>none
def lJ{R:Type}(P:Program)(g:A2)(t:TypeId)(s x:AV)(k:AV->Dc->O R):O R :=
 match P.underlying t,s with
| some (.slice el),.own b off n=>(A8 P el).bind fun sz=>(E1 g b).bind fun y=>PO P el g sz x fun new =>
  cond (y.pure&&(!y.sealed&&beq sz y.sz)) (
   k (.int .i64 (min new.2.1 n:Nat)) [(b,some { y with cells:=C8 y.cells off (new.1.take ((min new.2.1 n)*sz)),taint:=y.taint||new.2.2 })]) (WI P el sz b off n y new k)
|some (.slice el),.nsl=>(A8 P el).bind fun sz=>PO P el g sz x fun _=>k (.int .i64 0) []
|_,_=>none
def WJ{R:Type}(P:Program)(g:A2)(t:TypeId)(s:AV)(k:AV->Dc->O R):O R :=
 match P.underlying t,s with
|some (.slice el),.own b off n=>(A8 P el).bind fun sz=>(NX P el).bind fun z=>(E1 g b).bind fun y =>
  cond (y.pure&&(!y.sealed&&beq sz y.sz)) (k (.tup []) [(b,some {y with cells:=C8 y.cells off (D4 n z)})]) none
|_,_=>none
def lK {R:Type} (P:Program) (g:A2) (d:Nat) (src dst:TypeId) (x:AV) (k:AV->Dc->O R):O R :=
 match P.underlying dst with
|some (.int kd)=>match x with|.int _ n=>cond (P.underlying src).isSome (k (.int kd (kd.wrap n)) []) none|_=>none
| some .string=>match P.underlying src with
  |some .string=>match x with|.str s=>k (.str s) []|_=>none
  | some (.slice el)=>match P.underlying el with
   |some (.int .u8)=>match x with
    |.str _=>none
    |x=>(lG g 1 x).bind fun q=>(RW q.1).bind fun s=>k (.str s) []
   |_=>none
  |_=>none
|some (.slice el)=>match P.underlying src,P.underlying el,x with
  |some (.slice _),some (.int .u8),.own b off n=>cond (beq src dst&&ble 1 n) ((E1 g b).bind fun x=>cond x.sealed none (k (.own b off n) [])) none
  |some .string,some (.int .u8),.str s=>k (.own (nid d) 0 s.length) (Oz d true false 1 (s.map fun b=>.int .u8 (b.toNat:Int)))
  |_,_,_=>none
|_=>none
def WK {R:Type} (P:Program) (g:A2) (d:Nat) (src dst:TypeId) (x:AV) (k:AV->Dc->O R):O R :=
 match P.underlying dst with
|some .unsafePointer=>match P.underlying src,x with
  |some (.pointer t),.optr b off=>(A8 P t).bind fun n=>(E1 g b).bind fun y=>cond (!(beq n 0)&&Nat.blt off y.cells.length) (k (.optr b off) []) none
  |_,_=>none
|some (.pointer u)=>match P.underlying src,x with
  | some .unsafePointer,.optr b off=>(A8 P u).bind fun _=>(E1 g b).bind fun y=>(y.ty).bind fun q =>
    cond (Nat.blt 0 q.2&&(Nat.blt 0 y.cells.length&&liesAt P P.depth q.1 (q.2/P.cellsOf q.1) off u 1)) (k (.optr b off) []) none
  |_,_=>none
|_=>lK P g d src dst x k
def nS:AV->Option UInt8
|.int .u8 n=>cond (decide (((UInt8.ofNat n.toNat).toNat:Int)=n)) (some (UInt8.ofNat n.toNat)) none
|_=>none
def H_:LA->Option Lu
|[]=>some []
|x::r=>(nS x).bind fun b=>(H_ r).bind fun l=>some (b::l)
def Qk{R:Type}(g:A2)(x:AV)(k:AV->Dc->O R):O R :=
 match x with
|.nsl=>k .nilptr []
|.own b off n=>(E1 g b).bind fun _=>cond (Nat.blt 0 n) (k (.optr b off) []) none
|_=>none
def Ql {R:Type} (P:Program) (g:A2) (t:TypeId) (x n:AV) (k:AV->Dc->O R):O R :=
 match x,n with
|.nilptr,.int .i64 n=>cond (n==0) (k (.str []) []) none
|.optr b off,.int .i64 n=>(E1 g b).bind fun y=>(y.ty).bind fun q=>match P.underlying t with
  | some (.pointer e)=>cond (beq q.1 e&&(beq (P.cellsOf e) 1&&(y.pure&&(!y.sealed&&(beq off 0&&(decide (0<n)&&(decide (n<=(y.cells.length:Int))&&decide (n<=9223372036854775807))))))))
    ((H_ (y.cells.take n.toNat)).bind fun s=>k (.str s) [(b,none)]) none
  |_=>none
|_,_=>none
def fE:LA->Int->Bool
|[],_=>false
|.int _ m::r,n=>cond (n==m) true (fE r n)
|_::r,n=>fE r n
def yQ(c:LA)(n:Int):LA:=cond (fE c n) c (c++[.int .i64 n])
def nT(P:Program)(t:TypeId):Bool:=match P.underlying t with
|some (.map k e)=>(match P.underlying k with|some (.int .i64)=>true|_=>false)&&(match fA P e with|some (.bool false)=>true|_=>false)
|_=>false
def We{R:Type}(d:Nat)(r:Option AV)(k:AV->Dc->O R):O R :=
 match r with
|none=>k (.omap (nid d)) [(nid d,some {dead:=false,sealed:=false,pure:=true,taint:=false,sz:=0,cells:=[],mp:=true})]
|some _=>none
def WL{R:Type}(P:Program)(g:A2)(t:TypeId)(m key val:AV)(k:AV->Dc->O R):O R :=
 match m,key,val with
|.omap b,.int .i64 n,.bool true=>cond (nT P t) ((E1 g b).bind fun x=>cond (x.mp&&beq x.sz 0) (k .undef [(b,some {x with cells:=yQ x.cells n})]) none) none
|_,_,_=>none
def lL{R:Type}(P:Program)(g:A2)(t:TypeId)(m key:AV)(comma:Bool)(k:AV->O R):O R :=
 match m,key,comma with
|.omap b,.int .i64 n,false=>cond (nT P t) ((E1 g b).bind fun x=>cond (x.mp&&beq x.sz 0) (k (.bool (fE x.cells n))) none) none
|_,_,_=>none
def wN(s:Lu)(p:Int):Nat×Nat:=Utf8.decode ⟨⟨s⟩⟩ p.toNat
def WM{R:Type}(P:Program)(d:Nat)(t:TypeId)(x:AV)(k:AV->Dc->O R):O R :=
 match P.underlying t,x with
|some .string,.str s=>k (.omap (nid d)) [(nid d,some {dead:=false,sealed:=false,pure:=true,taint:=false,sz:=1,cells:=[.str s,.int .i64 0],mp:=true})]
|_,_=>none
def lM{R:Type}(g:A2)(it:AV)(isString:Bool)(k:AV->Dc->O R):O R :=
 match it,isString with
| .omap b,true=>(E1 g b).bind fun x=>cond (x.mp&&beq x.sz 1)
  (match x.cells with
   | [.str s,.int .i64 p]=>cond (decide (p<(s.length:Int)))
     (k (.tup [.bool true,.int .i64 p,.int .i32 ((wN s p).1:Nat)]) [(b,some {x with cells:=[.str s,.int .i64 (p+((wN s p).2:Nat))]})]) (k (.tup [.bool false]) [])
   | _=>none) none
|_,_=>none
def yR(g:A2)(x y:AV):Option Bool :=
 match x,y with
|.nilptr,.nilptr=>some true
|.nilptr,.optr _ _=>some false
|.optr _ _,.nilptr=>some false
|.nilptr,.iptr _ _=>some false
|.iptr _ _,.nilptr=>some false
|.optr b o,.optr b' o'=>(E1 g b).bind fun _=>cond (beq b b') (some (beq o o')) none
|_,_=>none
def sv(P:Program)(t:TypeId):Bool:=match P.underlying t with
|some (.pointer e)=>match A8 P e with|some n=>!(beq n 0)|none=>false
|_=>false
def lN{R:Type}(P:Program)(g:A2)(t:TypeId)(op:BinOp)(x y:AV)(r:AV->O R):O R :=
 match yR g x y with
| some b=>cond (sv P t) (match op with
  |.eql=>r (.bool b)
  |.neq=>r (.bool (!b))
  | _=>none) none
|none=>lF P t op x y r
mutual
def Fr:AV->List Nat
|.own b _ _=>[b]
|.optr b _=>[b]
|.omap b=>[b]
|.agg c=>Hc c
|.tup c=>Hc c
|.fn _ c=>Hc c
|_=>[]
def Hc:List AV->List Nat
|[]=>[]
|v::r=>Fr v++Hc r
end
mutual
def NB(ρ:Nat->Nat):AV->AV
|.own b off n=>.own (ρ b) off n
|.optr b off=>.optr (ρ b) off
|.omap b=>.omap (ρ b)
|.agg c=>.agg (T7 ρ c)
|.tup c=>.tup (T7 ρ c)
|.fn f c=>.fn f (T7 ρ c)
|v=>v
def T7(ρ:Nat->Nat):List AV->List AV
|[]=>[]
|v::r=>NB ρ v::T7 ρ r
end
def CN(g:A2):AV->Option (AV×Bool)
|.own b off n=>(E1 g b).bind fun x=>cond x.pure (some (.imm ((x.cells.drop off).take (n*x.sz)) n x.sz false (!x.sealed||x.taint),!x.sealed||x.taint)) none
|.imm c n sz _ org=>some (.imm c n sz false org,org)
|.iptr c org=>some (.iptr c org,org)
|.optr ..|.agg _|.tup _|.undef|.fn ..|.pagg ..|.omap _=>none
|v=>some (v,false)
def H'(g:A2):LA->Option (LA×Bool)
|[]=>some ([],false)
|v::r=>(CN g v).bind fun p=>(H' g r).bind fun q=>some (p.1::q.1,p.2||q.2)
def nU(g:A2):AV->Option (AV×Bool)
|.own b off n=>(E1 g b).bind fun x=>cond x.pure (some (.imm ((x.cells.drop off).take (n*x.sz)) n x.sz false (!x.sealed||x.taint),!x.sealed)) none
|.imm c n sz _ org=>some (.imm c n sz false org,false)
|.optr b off=>(E1 g b).bind fun x=>cond x.pure (some (.iptr (x.cells.drop off) (!x.sealed||x.taint),!x.sealed)) none
|.agg c=>(H' g c).bind fun q=>some (.pagg q.1 q.2,true)
|.fn f []=>some (.fn f [],false)
|.fn _ _|.tup _|.undef|.omap _=>none
|v=>some (v,false)
def Hn(d:Nat):List (Nat×Nat)->Nat->Nat
|[],_=>d
|(i,x)::r,b=>cond (beq i b) x (Hn d r b)
def Eo:List Nat->Nat->Bool
|[],_=>false
|i::r,b=>cond (beq i b) true (Eo r b)
def Z_:List Nat->List Nat->List Nat
|[],acc=>acc.reverse
|i::r,acc=>cond (Eo acc i) (Z_ r acc) (Z_ r (i::acc))
def IA:List Nat->Bool
|[]=>true
|i::r=>!Eo r i&&IA r
def Ar(base:Nat):List Nat->List (Nat×Nat)
|[]=>[]
|i::r=>(i,base)::Ar (base+1) r
def Jp(g:A2):List Nat->List Nat
|[]=>[]
|b::r=>(match g b with|some x=>cond x.pure [] (Hc x.cells)|none=>[])++Jp g r
def Wf(g:A2)(ids:List Nat):List Nat:=Z_ (ids++Jp g (ids++Jp g ids)) []
def IB(g:A2):List Nat->Bool
|[]=>true
|b::r=>(match g b with|some x=>!x.dead|none=>false)&&IB g r
def L8(ρ:Nat->Nat)(x:Blk):Blk:={x with cells:=cond x.pure x.cells (T7 ρ x.cells)}
def sub(g:A2)(ρ:Nat->Nat):List Nat->Aw
|[]=>[]
|b::r=>match g b with
  |some x=>Ei (sub g ρ r) (ρ b) (L8 ρ x)
  |none=>sub g ρ r
structure Tw where
 runK:{R:Type}->List AV->Aw->(AV->Aw->O R)->O R
 eq:∀{R:Type}(args:List AV)(h:Aw)(k:AV->Aw->O R),runK args h k=(runK args h fun v h'=>some (v,h')).bind fun p=>k p.1 p.2
def RY{R:Type}:List (Nat×Tw)->Nat->LA->Aw->(AV->Aw->O R)->O R
|[],_,_,_,_=>none
|(g,t)::r,f,args,h,k=>cond (beq g f) (t.runK args h k) (RY r f args h k)
structure Env where
 P:Program
 nt:Nat
 muts:Nat->List Bool
 nils:List (Nat×Nat)
 free:List Nat
 cob:List Nat
 tbl:List (Nat×Tw)
mutual
def Zj:AV->Bool
|.imm _ _ _ _ o=>o
|.iptr _ o=>o
|.pagg _ o=>o
|.agg c=>Rs c
|.tup c=>Rs c
|.fn _ c=>Rs c
|_=>false
def Rs:List AV->Bool
|[]=>false
|v::r=>Zj v||Rs r
end
def RZ:Aw->Bool
|[]=>false
|(_,x)::r=>x.taint||(cond x.pure false (Rs x.cells))||RZ r
def Ik(g:A2):LA->List Nat
|[]=>[]
|.own b _ _::r=>match g b with|some x=>cond x.sealed (Ik g r) (b::Ik g r)|none=>Ik g r
|_::r=>Ik g r
def AD(g:A2):AV->List Nat
|.own b _ _=>match g b with|some x=>cond x.sealed [] [b]|none=>[]
|.optr b _=>match g b with|some x=>cond x.sealed [] [b]|none=>[]
|.agg c=>Ik g c
|_=>[]
def AE(g:A2):List Bool->LA->Option (LA×List Nat×List Nat)
|_,[]=>some ([],[],[])
| ms,v::r =>
  cond (ms.headD false)
   ((AE g ms.tail r).bind fun q=>some (v::q.1,Fr v++q.2.1,q.2.2))
   ((nU g v).bind fun p=>(AE g ms.tail r).bind fun q=>some (p.1::q.1,q.2.1,AD g v++q.2.2))
def FU(ids:List Nat):List Nat->Bool
|[]=>true
|b::r=>Eo ids b&&FU ids r
def pu:List Nat->List Nat->Bool
|[],_=>true
|i::r,l=>!Eo l i&&pu r l
def nV:List Nat->Bool
|[]=>true
|_=>false
mutual
def P6:AV->AV->Bool
|.int k n,.int k' n'=>Ih k k'&&decide (n=n')
|.bool b,.bool b'=>decide (b=b')
|.str s,.str s'=>decide (s=s')
|.nsl,.nsl=>true
|.imm c n z t o,.imm c' n' z' t' o'=>Zk c c'&&(beq n n'&&(beq z z'&&(decide (t=t')&&decide (o=o'))))
|.iptr c o,.iptr c' o'=>Zk c c'&&decide (o=o')
|.pagg c o,.pagg c' o'=>Zk c c'&&decide (o=o')
|.own b f n,.own b' f' n'=>beq b b'&&(beq f f'&&beq n n')
|.optr b f,.optr b' f'=>beq b b'&&beq f f'
|.agg c,.agg c'=>Zk c c'
|.undef,.undef=>true
|.nilptr,.nilptr=>true
|_,_=>false
def Zk:List AV->List AV->Bool
|[],[]=>true
|a::r,b::s=>P6 a b&&Zk r s
|_,_=>false
end
def yS(x y:Blk):Bool:=decide (x.dead=y.dead)&&(decide (x.sealed=y.sealed)&&(decide (x.pure=y.pure)&&(decide (x.taint=y.taint)&&(beq x.sz y.sz&&(Zk x.cells y.cells&&(decide (x.mp=y.mp)&&decide (x.ty=y.ty)))))))
def pv(g:A2)(b:Nat)(x:Blk):Bool:=match g b with|some y=>yS x y|none=>false
def FV(g:A2):Dc->Dc
|[]=>[]
|(b,some x)::r=>cond (pv g b x) (FV g r) ((b,some x)::FV g r)
|p::r=>p::FV g r
def lO {R:Type} (E:Env) (g:A2) (d:Nat) (f:Nat) (args:LA) (k:AV->Dc->O R):O R :=
 (AE g (E.muts f) args).bind fun q =>
 let ids:=Wf g q.2.1
 let tin:=Ar 100000 ids
 let outs:=tin.map (·.2)
 cond (IB g ids&&(FU ids q.2.1&&(FU ids (Jp g ids)&&(pu q.2.2 ids&&(IA (ids.map (Hn 0 tin))&&ble ids.length 100000))))) (
  RY E.tbl f (T7 (Hn 0 tin) q.1) (sub g (Hn 0 tin) ids) fun rv rh =>
  let all:=Wf (Al rh) (Fr rv++outs)
  let new:=all.filter fun b=>!Eo outs b
  let tnew:=Ar (nid d) new
  let σ:=Hn 0 ((tin.map fun p=>(p.2,p.1))++tnew)
  cond (!nV q.2.2&&(Zj rv||RZ rh)) none
   (cond (IB (Al rh) new&&(ble new.length 16&&(FU all (Fr rv)&&(FU all outs&&(FU all (Jp (Al rh) all)&&IA (all.map σ))))))
    (k (NB σ rv) (cond (Eo E.cob (d+7000000)) (FV g (tin.map fun p=>(p.1,(Al rh p.2).map (L8 σ)))) (tin.map fun p=>(p.1,(Al rh p.2).map (L8 σ)))++tnew.map fun p=>(p.2,(Al rh p.1).map (L8 σ)))) none)) none
def lP{R:Type}(c a b:AV)(k:AV->O R):O R :=
 match c,a,b with
|.bool t,.bool x,.bool y=>k (.bool (cond t x y))
|.bool t,x,.tup []=>cond t (k x) none
|.bool t,.tup [],y=>cond t none (k y)
|.bool t,x,y=>cond t (k x) (k y)
|_,_,_=>none
def nW(P : Program)(f : Nat): Bool := match P.funcs[f]? with|some fn => fn.body.isSome && !(fn.name == "runtime.NumGoroutine")|none => false
def yT(P : Program)(f : Nat): Bool := match P.funcs[f]? with|some fn => fn.body.isNone && (fn.name == "internal/abi.NoEscape" && fn.origin == "")|none => false
def E2(a b:Int):Int:=cond (decide (b<a)) b a
def Qm(a b:Int):Int:=cond (decide (b>a)) b a
def wO:AV->AV->Option AV
|.int k a,.int _ b=>some (.int k (E2 a b))
|_,_=>none
def wQ:AV->AV->Option AV
|.int k a,.int _ b=>some (.int k (Qm a b))
|_,_=>none
def jg{R:Type}(E:Env)(g:A2)(d:Nat)(v:Operand->AV)(o:Op)(k:AV->Dc->O R):O R :=
 match o with
|.move x=>k (v x) []
|.assign x=>k (v x) []
|.pick c a b=>lP (v c) (v a) (v b) fun r=>k r []
|.alloc t=>cond (Eo E.cob (d+1000000)) (LR E.P g d t k) (WG E.P g (Eo E.cob d) d t k)
|.box t x=>WH E.P (Eo E.cob d) t (v x) fun u=>pp E.P g d t u k
|.build t parts=>cond (Eo E.cob (d+4000000)) (LQ E.P g t (parts.toList.map fun p=>(p.1,v p.2)) k) (nQ E.P t (parts.toList.map fun p=>(p.1,v p.2)) fun r=>wL E.P t (Eo E.cob d) d r k)
|.buildSlice t len parts=>cond ((parts.toList.map fun p=>(p.1,v p.2)).any fun p=>yP p.2) (Qj E.P g d t len (parts.toList.map fun p=>(p.1,v p.2)) k) (Oe E.P g d t len (parts.toList.map fun p=>(p.1,v p.2)) k)
|.load t a=>fB E.P g t (v a) fun r=>k r []
|.store t a x=>WF E.P g t (v a) (v x) k
|.nilCheck x=>match v x with|.iptr c o=>k (.iptr c o) []|.optr b o=>k (.optr b o) []|_=>none
|.binOp op t x y _=>lN E.P g t op (v x) (v y) fun r=>k r []
|.unOp op _ x=>(Afb op (v x)).bind fun r=>k r []
|.convert s t x=>WK E.P g d s t (v x) k
|.makeFunc (.func f) first caps=>cond (Nat.blt f 1000000) (k (.fn (f+1000000*first.toList.length) ((first.toList++caps.toList).map v)) []) none
|.makeSlice t l c=>lI E.P d t (v l) (v c) k
|.slice t x lo hi mx=>WE E.P g t (v x) (lo.map v) (hi.map v) (mx.map v) fun r=>k r []
|.fieldAddr t x f=>Qi E.P t (v x) f fun r=>k r []
|.field t x f=>WC E.P t (v x) f fun r=>k r []
|.indexAddr t x i=>cond (Eo E.cob (d+6000000)) (Od E.P t (v x) (v i) fun r=>k r []) (Ii E.P t (v x) (v i) fun r=>k r [])
|.index t x i=>WD E.P t (v x) (v i) fun r=>k r []
|.makeMap _ r=>We d (r.map v) k
|.mapUpdate t m x y=>WL E.P g t (v m) (v x) (v y) k
|.lookup t m x c=>lL E.P g t (v m) (v x) c fun r=>k r []
|.range t x=>WM E.P d t (v x) k
|.next it s=>lM g (v it) s k
|.extract t i=>match v t with|.tup vs=>(vs[i]?).bind fun r=>k r []|_=>none
| .call c=>match c.callee with
  |.builtin .len=>match c.args.toList,c.argTypes.toList with|[x],[t]=>(Ac1 E.P t (v x)).bind fun r=>k r []|_,_=>none
  |.builtin .append=>match c.args.toList,c.argTypes.toList with|[s,x],[t,tx]=>LU E.P g d t tx (v s) (v x) k|_,_=>none
  |.builtin .copy=>match c.args.toList,c.argTypes.toList with|[s,x],[t,_]=>lJ E.P g t (v s) (v x) k|_,_=>none
  |.builtin .clear=>match c.args.toList,c.argTypes.toList with|[x],[t]=>WJ E.P g t (v x) k|_,_=>none
  |.builtin .min=>match c.args.toList with|[x,y]=>(wO (v x) (v y)).bind fun r=>k r []|[x,y,z]=>(wO (v x) (v y)).bind fun q=>(wO q (v z)).bind fun r=>k r []|_=>none
  |.builtin .max=>match c.args.toList with|[x,y]=>(wQ (v x) (v y)).bind fun r=>k r []|[x,y,z]=>(wQ (v x) (v y)).bind fun q=>(wQ q (v z)).bind fun r=>k r []|_=>none
  |.builtin .unsafeSliceData=>match c.args.toList with|[x]=>Qk g (v x) k|_=>none
  |.builtin .unsafeString=>match c.args.toList,c.argTypes.toList with|[x,y],[t,_]=>Ql E.P g t (v x) (v y) k|_,_=>none
  |.value fo=>match v fo with
   | .fn f caps=>cond (nW E.P (f%1000000)) (lO E g d (f%1000000) (caps.take (f/1000000)++(c.args.toList.map v++caps.drop (f/1000000))) k)
     (cond (yT E.P (f%1000000)) (match caps,c.args.toList.map v with|[],[x]=>k x []|_,_=>none) none)
   |_=>none
  |_=>none
|_=>none
structure Foot where
 r:List Nat
 w:Option Nat
 f:List Nat
 u:List Nat
def PR:List Operand->List Nat
|[]=>[]
|.tmp t::r=>t::PR r
|_::r=>PR r
def Am:Dc->Aw->Aw
|[],h=>h
|(b,some x)::r,h=>Am r (Ei h b x)
|(b,none)::r,h=>Am r (match Al h b with|some x=>Ei h b {x with dead:=true,pure:=true,cells:=[]}|none=>h)
def LV(ops:Array Oper)(o:Oper):Option (Nat×Bool) :=
 match o.guard with
|none=>none
|some (j,want)=>((ops[j]?).bind (·.dst)).map fun t=>(t,want)
def CO(ops:Array Oper)(s:Fq)(o:Oper):Option Bool :=
 match o.guard with
|none=>some true
| some (j,want)=>match (ops[j]?).bind (·.dst) with
  |some t=>match E7 s t with
   |.bool b=>some (b==want)
   |.tup []=>some false
   |_=>none
  |none=>some false
def sx(nt:Nat)(s:Fq)(d:Option Nat)(v:AV):Fq:=match d with|some d=>cond (Nat.blt d nt) (PN s d v) s|none=>s
def vA:Op->Bool
|.binOp op ..=>match op with|.eql|.neq=>true|_=>false
|.move _|.assign _|.pick ..|.unOp ..|.makeFunc ..|.fieldAddr ..|.field ..|.indexAddr ..|.index ..|.extract ..|.nilCheck _=>false
|.call c=>match c.callee with
  |.builtin .len|.builtin .min|.builtin .max=>false
  |_=>true
|_=>true
def vB:Op->Bool
|.load ..|.binOp ..=>true
|_=>false
def Ty(h:Aw)(op:Op)(vals:LA):List Nat:=cond (vA op) (cond (vB op) (Z_ (Hc vals) []) (Wf (Al h) (Hc vals))) []
def AF(d b:Nat):Bool:=ble (nid d) b&&Nat.blt b (nid d+16)
def N_(d:Nat)(F:List Nat)(h:Aw):Dc->Bool
|[]=>true
|(b,_)::r=>cond (AF d b) (Al h b).isNone (Eo F b&&(Al h b).isSome)&&N_ d F h r
def pw{R:Type}(E:Env)(ops:Array Oper)(o:Oper)(st:St)(k:St->Foot->O R):O R :=
 (CO ops st.s o).bind fun wanted=>cond wanted (
  jg E (fun b=>cond (Eo (Ty st.h o.op (o.op.operands.toList.map (ev st.s))) b) (Al st.h b) none) (o.dst.getD 50000) (ev st.s) o.op fun v ups =>
  cond (N_ (o.dst.getD 50000) (Ty st.h o.op (o.op.operands.toList.map (ev st.s))) st.h ups)
   (k { s:=sx E.nt st.s o.dst v,h:=Am ups st.h } { r:=(match LV ops o with | some p=>[p.1] | none=>[])++PR o.op.operands.toList,w:=o.dst,f:=Ty st.h o.op (o.op.operands.toList.map (ev st.s)),u:=ups.map (·.1) }) none)
  (k {st with s:=sx E.nt st.s o.dst (.tup [])} {r:=(match LV ops o with|some p=>[p.1]|none=>[]),w:=o.dst,f:=[],u:=[]})
def WN{R:Type}(ops:Array Oper)(o:Oper)(st:St)(k:St->O R):O R :=
 match o.guard with
|none=>k st
| some (j,want)=>match (ops[j]?).bind (·.dst) with
  |none=>k st
  |some t=>match E7 st.s t with
   |.bool b=>cond (b==want) (k {s:=PN st.s t (.bool want),h:=st.h}) (k {s:=PN st.s t (.bool (!want)),h:=st.h})
   |_=>k st
def fF{R:Type}(E:Env)(ops:Array Oper):List Oper->St->List Foot->(St->List Foot->O R)->O R
|[],st,tr,k=>k st tr
|o::r,st,tr,k=>WN ops o st fun st=>pw E ops o st fun st f=>fF E ops r st (f::tr) k
def Ae3:Option Nat->List Nat->Bool
|none,_=>false
|some d,l=>Eo l d
def Z'(a b:Foot):Bool:=!Ae3 a.w b.r&&!Ae3 b.w a.r&&(match a.w,b.w with|some x,some y=>!beq x y|_,_=>true)&&pu a.u (b.f++b.u)&&pu b.u a.f
def IC(e:Edge):Bool:=match e.ground with|.textOnly _=>false|.gcOnly _=>false|_=>true
def CP(o:Oper):List Nat:=(o.after.toList.filter IC).map (·.on)
def nX{α:Type}:List Nat->(List Nat->α)->α
|[],k=>k []
|i::r,k=>nX r fun s=>k (i::s)
def AG{α:Type}:∀(l:List Nat)(k:List Nat->α),nX l k=k l
|[],_=>rfl
|i::r,k=>by rw[nX,AG r]
def Fh:List Oper->List (List Nat)->List (List Nat)
|[],acc=>acc
|o::r,acc=>nX (Z_ (CP o++((CP o).flatMap fun i=>(acc[i]?).getD [])) []) fun a=>Fh r (acc++[a])
def V1:Nat->List Oper->Bool
|_,[]=>true
|i,o::r=>(o.after.toList.all fun e=>!IC e||Nat.blt e.on i)&&V1 (i+1) r
def R_(f:Foot)(anc:List Nat):Nat->List Foot->Bool
|_,[]=>true
|i,g::r=>(Eo anc i||Z' g f)&&R_ f anc (i+1) r
def LW:List Foot->List (List Nat)->List Foot->Bool
|[],_,_=>true
|f::r,a::az9,seen=>R_ f a 0 seen&&LW r az9 (seen++[f])
|_::_,[],_=>false
def Jq(b:Nat):Nat:=cond (ble Ga b) (b - Ga) b
mutual
def Wg(g:A2):AV->AV
|.own b off n=>match E1 g b with|some _=>.own (Jq b) off n|none=>.undef
|.optr b off=>match E1 g b with|some _=>.optr (Jq b) off|none=>.undef
|.omap b=>match E1 g b with|some _=>.omap (Jq b)|none=>.undef
|.agg c=>.agg (Il g c)
|.tup c=>.tup (Il g c)
|.fn f c=>.fn f (Il g c)
|v=>v
def Il(g:A2):List AV->List AV
|[]=>[]
|v::r=>Wg g v::Il g r
end
def WO(g:A2)(K:List Nat):Fq->Fq
|[]=>[]
|(t,v)::r=>cond (Eo K t) ((t,Wg g v)::WO g K r) (WO g K r)
def fG(K:List Nat):Fq->List Nat
|[]=>[]
|(t,v)::r=>cond (Eo K t) (Fr v++fG K r) (fG K r)
def Wh(g:A2):List Nat->Aw
|[]=>[]
|b::r=>match E1 g b with
  |some x=>Ei (Wh g r) (Jq b) {x with cells:=cond x.pure x.cells (Il g x.cells)}
  |none=>Wh g r
def Xy(g:A2)(ids:List Nat):List Nat:=ids.filter fun b=>match E1 g b with|some _=>true|none=>false
def fH(g:A2)(ids:List Nat):List Nat->Bool
|[]=>true
|b::r=>(Eo ids b||(E1 g b).isNone)&&fH g ids r
def vC:List Nat->Bool
|[]=>true
|b::r=>cond (ble Ga b) (Nat.blt (Jq b) 100000) true&&vC r
def clean(K roots:List Nat)(st:St):Option St :=
 let g:=Al st.h
 let ids:=Xy g (Wf g (fG K st.s++roots))
 cond (IA (ids.map Jq)&&(fH g ids (fG K st.s)&&(fH g ids (Jp g ids)&&vC ids))) (some {s:=WO g K st.s,h:=Wh g ids}) none
def CQ{R:Type}(E:Env)(roots:List Nat)(ops:Array Oper)(draw:Bool)(st:St)(k:St->O R):O R :=
 fF E ops ops.toList st [] fun st tr =>
  cond (!draw||(V1 0 ops.toList&&LW tr.reverse (Fh ops.toList []) [])) ((clean (st.s.map (·.1)) roots st).bind k) none
def fI(b:Nat):Bool:=ble 100000 b&&Nat.blt b 200000
def CS(live:List Nat):List (Nat×Nat)->St->Option St
|[],st=>some st
|(t,sz)::r,st=>cond (ble 1000000 sz)
  (match Eo live t,E7 st.s t with
  |true,.nsl=>CS live r {s:=PN st.s t (.imm [] 0 (sz - 1000000) false false),h:=st.h}
  |true,.own b off n=>(NZ (Al st.h) (.own b off n)).bind fun q=>CS live r {s:=PN st.s t q.1,h:=Am q.2.1 st.h}
  | _,_=>CS live r st)
  (match Eo live t,E7 st.s t with
  |true,.nsl=>cond (Al st.h (nid t+15)).isSome none (CS live r {s:=PN st.s t (.own (nid t+15) 0 0),h:=Ei st.h (nid t+15) (E8 sz)})
  | _,_=>CS live r st)
def AH(free:List Nat)(b:Nat):Bool:=fI b&&!Eo free b
def yU(free ids:List Nat):List (Nat×Nat):=Ar 300000 (ids.filter fun b=>!AH free b)
def Wi(free ids:List Nat)(b:Nat):Nat:=cond (AH free b) b (Hn 0 (yU free ids) b)
def yV(ρ:Nat->Nat)(K:List Nat):Fq->Fq
|[]=>[]
|(t,v)::r=>cond (Eo K t) ((t,NB ρ v)::yV ρ K r) (yV ρ K r)
def FW(E:Env)(live roots:List Nat)(st:St):Option St :=
 (CS live E.nils st).bind fun st =>
 let g:=Al st.h
 let ids:=Xy g (Wf g (fG live st.s++roots))
 cond (IA (ids.map (Wi E.free ids))&&(FU ids (fG live st.s)&&(FU ids (Jp g ids)&&ble ids.length 100000))) (some {s:=yV (Wi E.free ids) live st.s,h:=sub g (Wi E.free ids) ids}) none
inductive Hint where
|leaf
|node (live:List Nat) (a b:Hint)
|join (live:List Nat) (a b:Hint)
def Hint.live:Hint->List Nat
|.leaf=>[]
|.node l _ _=>l
|.join l _ _=>l
def Hint.a:Hint->Hint
|.leaf=>.leaf
|.node _ a _=>a
|.join _ a _=>a
def Hint.b:Hint->Hint
|.leaf=>.leaf
|.node _ _ b=>b
|.join _ _ b=>b
def Hint.isJoin:Hint->Bool
|.join _ _ _=>true
|_=>false
noncomputable def Ak{α:Type}(a:α):{x:α // x=a}:=Classical.choice ⟨⟨a,rfl⟩⟩
noncomputable def yW{R:Type}(j:Bool)(f:St->O R):St->O R:=cond j (Ak f).1 f
def Rt{R:Type}(j:Bool)(f:St->O R):yW j f=f:=by cases j;rfl;exact(Ak f).2
noncomputable def qA{R:Type}(E:Env)(roots:List Nat)(H:Hint)(f:St->O R)(st:St):O R:=cond H.isJoin ((FW E H.live roots st).bind (yW true f)) (f st)
def FX{R:Type}(cn:St->Option St)(body:(St->O R)->St->O R):Nat->St->O R
|0,_=>none
|n+1,st=>body (fun st=>(cn st).bind (FX cn body n)) st
noncomputable def C1{R:Type}(E:Env)(roots:List Nat)(N:Nat):Code->Hint->(St->O R)->(Nat->St->O R)->(St->O R)->St->O R
|.skip,_,k,_,_,st=>k st
|.region _ ops draw,_,k,_,_,st=>CQ E roots ops draw st k
|.seq a b,H,k,x,r,st=>C1 E roots N a H.a (qA E roots H fun st=>C1 E roots N b H.b k x r st) x r st
|.cond c a b,H,k,x,r,st=>match ev st.s c with
  |.bool t=>cond t (C1 E roots N a H.a k x r st) (C1 E roots N b H.b k x r st)
  |_=>none
|.block id c,H,k,x,r,st=>C1 E roots N c H.a k (fun j st=>cond (beq j id) (k st) (x j st)) r st
|.loop c,H,_,x,r,st=>(FW E H.live roots st).bind (yW true (FX (FW E H.live roots) (fun k st=>C1 E roots N c H.a k x r st) N))
|.exit id,_,_,x,_,st=>x id st
|.ret,_,_,_,r,st=>r st
|.scope c,H,k,x,r,st=>C1 E roots N c H.a k x r st
|.label _,_,k,_,_,st=>k st
|_,_,_,_,_,_=>none
def L9{R:Type}(E:Env)(st:St):List ResultVar->LA->(LA->O R)->O R
|[],acc,k=>k acc.reverse
|.tmp t::r,acc,k=>L9 E st r (E7 st.s t::acc) k
|.cell a t::r,acc,k=>fB E.P (Al st.h) t (E7 st.s a) fun v=>L9 E st r (v::acc) k
def Ac2(g:A2)(i:Nat)(m:Nat×Nat)(v:AV):Option (AV×Dc) :=
 cond (beq m.1 0) (some (v,[]))
 (cond (beq m.1 1) (match v with
  |.nsl=>some (.imm [] 0 m.2 false false,[])
  |.imm c n sz _ o=>some (.imm c n sz false o,[])
  |.own b off n=>(NZ g (.own b off n)).bind fun q=>some (q.1,q.2.1)
  | _=>none)
 (cond (beq m.1 2) (match v with
  |.nsl=>cond (g (nid 90000+i)).isSome none (some (.own (nid 90000+i) 0 0,[(nid 90000+i,some (E8 m.2))]))
  | v=>some (v,[]))
 (match v with
  |.agg c=>(Wd g c).bind fun q=>some (.pagg q.1 q.2.2,q.2.1)
  |.pagg c o=>some (.pagg c o,[])
  | _=>none)))
def qB(h:Aw):Nat->List (Nat×Nat)->LA->Option (LA×Aw)
|_,_,[]=>some ([],h)
|i,ms,v::r=>(Ac2 (Al h) i (ms.headD (0,0)) v).bind fun p=>(qB (Am p.2 h) (i+1) ms.tail r).bind fun q=>some (p.1::q.1,q.2)
def Ac3(l:LA):AV:=match l with|[v]=>v|l=>.tup l
def Ru{R:Type}(E:Env)(fn:Func)(modes:List (Nat×Nat))(outs:List Nat)(k:AV->Aw->O R)(st:St):O R :=
 L9 E st fn.results.toList [] fun l =>
 (qB st.h 0 modes l).bind fun q =>
 let v:=Ac3 q.1
 let g:=Al q.2
 let ids:=Xy g (Wf g (Fr v++outs))
 cond (IA (ids.map (Wi E.free ids))&&(FU ids (Fr v)&&(FU ids (Jp g ids)&&ble ids.length 100000))) (k (NB (Wi E.free ids) v) (sub g (Wi E.free ids) ids)) none
def fJ:Nat->LA->Fq
|_,[]=>[]
|i,v::r=>(i,v)::fJ (i+1) r
structure Hints where
 H:Hint
 nils:List (Nat×Nat):=[]
 modes:List (Nat×Nat):=[]
 free:List Nat:=[]
 cob:List Nat:=[]
def SA:Aw->Bool
|[]=>true
|(b,_)::r=>fI b&&SA r
noncomputable def aA{R:Type}(P:Program)(muts:Nat->List Bool)(T:List (Nat×Tw))(hs:Hints)(N f:Nat)(args:LA)(h:Aw)(k:AV->Aw->O R):O R :=
 match P.funcs[f]? with
|none=>none
| some fn=>match fn.body with
  |none=>none
  |some c =>
   let E:Env:={P,nt:=fn.ntmps,muts,nils:=hs.nils,free:=hs.free,cob:=hs.cob,tbl:=T}
   let outs:=h.map (·.1)
   let fin:=Ru E fn hs.modes outs k
   cond (ble args.length fn.ntmps&&SA h) (C1 E outs N c hs.H fin (fun _ _=>none) fin {s:=fJ 0 args,h}) none
end Gx
namespace Gx
open Go
mutual
def RepC(J:Nat->Prop)(w:World):AV->Value->Prop
|.int k n,v=>v=.int k n
|.bool b,v=>v=.bool b
|.str s,v=>v=.string ⟨⟨s⟩⟩
|.nsl,v=>v=.slice none 0 0
| .imm c len sz tight _,v=>c.length=len*sz/\∃ A cap,v=.slice A len cap/\len<=cap/\(tight=true->cap=len) /\
   (len=0\/∃ a,A=some a/\J a.block/\RepCs J w c (fun j=>w.cell? (a.add j)) 0)
|.iptr c _,v=>∃ a,v=.pointer (some a)/\J a.block/\RepCs J w c (fun j=>w.cell? (a.add j)) 0
|.nilptr,v=>v=.pointer none
|.nilfn,v=>v=.nilFunc
|.fn f [],v=>v=.func (.func (f%1000000)) #[] #[]
|_,_=>False
def RepCs(J:Nat->Prop)(w:World):List AV->(Nat->Option Value)->Nat->Prop
|[],_,_=>True
|x::r,rd,i=>(∃ u,rd i=some u/\RepC J w x u)/\RepCs J w r rd (i+1)
end
def Bn{J:Nat->Prop}{w:World}:∀{c:LA}{rd:Nat->Option Value}{i:Nat},
  RepCs J w c rd i↔∀ j x,c[j]?=some x->∃ u,rd (i+j)=some u/\RepC J w x u:=by
 intro c
 induction c with
|nil=>intro rd i;simp[RepCs]
| cons x r v =>
  intro rd i
  rw[RepCs,v]
  constructor
  ·rintro⟨A,B⟩ j y k
   cases j with
   |zero=>simp at k;subst k;simpa using A
   |succ j=>have:=B j y (by simpa using k);rwa [show i+1+j=i+(j+1) by omega]at this
  ·intro h
   refine⟨by simpa using h 0 x (by simp),fun j y k=>?_⟩
   have:=h (j+1) y (by simpa using k)
   rwa [show i+(j+1)=i+1+j by omega]at this
def qC(J:Nat->Prop)(w w':World):Prop:=∀ k,J k->w'.heap[k]?=w.heap[k]?
def WP{J:Nat->Prop}{w w':World}(h:qC J w w'){a:Addr}(k:J a.block):w'.cell? a=w.cell? a:=by unfold World.cell?;rw[h a.block k]
def Qn(a:Addr)(n:Nat):(a.add n).block=a.block:=by unfold Addr.add;split<;>rfl
mutual
def RepC.keep{J J':Nat->Prop}{w w':World}(hJ:∀ k,J k->J' k)(hk:qC J w w'):∀{x:AV}{v:Value},RepC J w x v->RepC J' w' x v
|.int ..,_,h=>h
|.bool _,_,h=>h
|.str _,_,h=>h
|.nsl,_,h=>h
| .imm c _ _ _ _,_,h=>by
  rw[RepC]at h ⊢
  obtain⟨h1,A,cap,h2,h3,h4,h5⟩:=h
  refine⟨h1,A,cap,h2,h3,h4,?_⟩
  rcases h5 with h5|⟨a,ha,hj,hc⟩
  ·exact .inl h5
  ·refine .inr ⟨a,ha,hJ _ hj,RepCs.keep hJ hk (c:=c) (fun j=>?_) hc⟩
   exact WP hk (by rw[Qn];exact hj)
|.iptr c _,_,h=>by
  rw[RepC]at h ⊢
  obtain⟨a,ha,hj,hc⟩:=h
  exact⟨a,ha,hJ _ hj,RepCs.keep hJ hk (c:=c) (fun j=>WP hk (by rw[Qn];exact hj)) hc⟩
|.nilptr,_,h=>h
|.nilfn,_,h=>h
|.fn _ [],_,h=>h
|.fn _ (_::_),_,h=>by simp[RepC]at h
|.pagg ..,_,h=>by simp[RepC]at h
|.agg _,_,h=>by simp[RepC]at h
|.tup _,_,h=>by simp[RepC]at h
|.own ..,_,h=>by simp[RepC]at h
|.optr ..,_,h=>by simp[RepC]at h
|.undef,_,h=>by simp[RepC]at h
|.omap _,_,h=>by simp[RepC]at h
def RepCs.keep{J J':Nat->Prop}{w w':World}(hJ:∀ k,J k->J' k)(hk:qC J w w'):∀{c:List AV}{rd rd':Nat->Option Value}{i:Nat},(∀ j,rd' j=rd j)->RepCs J w c rd i->RepCs J' w' c rd' i
|[],_,_,_,_,_=>trivial
|x::r,rd,rd',i,he,h=>by
  rw[RepCs]at h ⊢
  obtain⟨⟨u,hu,hx⟩,hr⟩:=h
  exact⟨⟨u,by rw[he];exact hu,RepC.keep hJ hk (x:=x) hx⟩,RepCs.keep hJ hk (c:=r) he hr⟩
end
abbrev Bx:=Nat->Option (Nat×Nat)
def Ay(w:World)(k:Nat):Nat:=match w.heap[k]? with|some (.cells cs _ _)=>cs.size|_=>0
def Ad7(sz k:Nat):Value:=match sz with|0=>.map (some k)|_+1=>.pointer (some ⟨k,0,none⟩)
mutual
def Rep(J:Bool->Nat->Prop)(β:Bx)(h:Aw)(w:World):AV->Value->Prop
| .own b off n,v=>∃ x A cap,(Al h b=some x/\x.mp=false)/\v=.slice A n cap/\n<=cap/\(cap=0\/∃ k o,A=some ⟨k,o+off,none⟩ /\
   (x.dead=true\/(β b=some (k,o)/\o+off+cap*x.sz<=Ay w k/\off+n*x.sz<=x.cells.length)))
|.omap b,v=>∃ x k,(Al h b=some x/\x.mp=true)/\(x.dead=true\/(β b=some (k,0)/\v=Ad7 x.sz k))
|.optr b off,v=>∃ x k o,(Al h b=some x/\x.mp=false)/\v=.pointer (some ⟨k,o+off,none⟩)/\(x.dead=true\/β b=some (k,o))
|.pagg c org,v=>∃ cs,v=.agg ⟨cs⟩/\cs.length=c.length/\RepCs (J org) w c (fun j=>cs[j]?) 0
|.agg c,v=>∃ cs,v=.agg ⟨cs⟩/\Reps J β h w c cs
|.tup c,v=>∃ cs,v=.tuple ⟨cs⟩/\Reps J β h w c cs
|.fn f c,v=>∃ cs:List Value,v=.func (.func (f%1000000)) ⟨cs.take (f/1000000)⟩ ⟨cs.drop (f/1000000)⟩/\Reps J β h w c cs
|.undef,_=>True
|.imm c n sz t org,v=>RepC (J org) w (.imm c n sz t org) v
|.iptr c org,v=>RepC (J org) w (.iptr c org) v
|.int k n,v=>v=.int k n
|.bool b,v=>v=.bool b
|.str s,v=>v=.string ⟨⟨s⟩⟩
|.nsl,v=>v=.slice none 0 0
|.nilptr,v=>v=.pointer none
|.nilfn,v=>v=.nilFunc
def Reps(J:Bool->Nat->Prop)(β:Bx)(h:Aw)(w:World):List AV->List Value->Prop
|[],cs=>cs=[]
|x::r,cs=>∃ u us,cs=u::us/\Rep J β h w x u/\Reps J β h w r us
end
structure Ext(J:Bool->Nat->Prop)(β:Bx)(h:Aw)(w:World)(J':Bool->Nat->Prop)(β':Bx)(h':Aw)(w':World):Prop where
 jsub:∀ o k,J o k->J' o k
 keep:∀ o,qC (J o) w w'
 blk:∀ b x,Al h b=some x->∃ x',(Al h' b=some x'/\x'.mp=x.mp)/\(x'.dead=true\/(x.dead=false/\β' b=β b/\x'.sz=x.sz/\(x.mp=false->x'.cells.length=x.cells.length)))
 size:∀ b k o,β b=some (k,o)->Ay w k<=Ay w' k
mutual
def Rep.ext{J J':Bool->Nat->Prop}{β β':Bx}{h h':Aw}{w w':World}(E:Ext J β h w J' β' h' w'):∀{x:AV}{v:Value},Rep J β h w x v->Rep J' β' h' w' x v
| .own b off n,v,hr=>by
  rw[Rep]at hr ⊢
  obtain⟨x,A,cap,⟨hx,hm⟩,h1,h2,hr⟩:=hr
  obtain⟨x',⟨hx',hm'⟩,hd⟩:=E.blk b x hx
  refine⟨x',A,cap,⟨hx',by rw[hm',hm]⟩,h1,h2,?_⟩
  rcases hr with hr|⟨k,o,h3,hr⟩
  ·exact .inl hr
  ·refine .inr ⟨k,o,h3,?_⟩
   rcases hd with hd|⟨hd,hβ,hs,hl⟩
   ·exact .inl hd
   ·rcases hr with hr|⟨h4,h5,h6⟩
    ·simp[hd]at hr
    ·exact .inr ⟨by rw[hβ];exact h4,by rw[hs];exact Aje h5 (E.size b k o h4),by rw[hs,hl hm];exact h6⟩
| .optr b off,v,hr=>by
  rw[Rep]at hr ⊢
  obtain⟨x,k,o,⟨hx,hm⟩,h1,hr⟩:=hr
  obtain⟨x',⟨hx',hm'⟩,hd⟩:=E.blk b x hx
  refine⟨x',k,o,⟨hx',by rw[hm',hm]⟩,h1,?_⟩
  rcases hd with hd|⟨hd,hβ,hs,hl⟩
  ·exact .inl hd
  ·rcases hr with hr|hr
   ·simp[hd]at hr
   ·exact .inr (by rw[hβ];exact hr)
| .omap b,v,hr=>by
  rw[Rep]at hr ⊢
  obtain⟨x,k,⟨hx,hm⟩,hr⟩:=hr
  obtain⟨x',⟨hx',hm'⟩,hd⟩:=E.blk b x hx
  refine⟨x',k,⟨hx',by rw[hm',hm]⟩,?_⟩
  rcases hd with hd|⟨hd,hβ,hs,hl⟩
  ·exact .inl hd
  ·rcases hr with hr|⟨hr,hv⟩
   ·simp[hd]at hr
   ·exact .inr ⟨by rw[hβ];exact hr,by rw[hs];exact hv⟩
|.pagg c org,v,hr=>by
  rw[Rep]at hr ⊢
  obtain⟨cs,h1,h2,h3⟩:=hr
  exact⟨cs,h1,h2,RepCs.keep (E.jsub org) (E.keep org) (fun _=>rfl) h3⟩
|.agg c,v,hr=>by
  rw[Rep]at hr ⊢
  obtain⟨cs,h1,h2⟩:=hr
  exact⟨cs,h1,Reps.ext E (c:=c) h2⟩
|.tup c,v,hr=>by
  rw[Rep]at hr ⊢
  obtain⟨cs,h1,h2⟩:=hr
  exact⟨cs,h1,Reps.ext E (c:=c) h2⟩
|.fn f c,v,hr=>by
  rw[Rep]at hr ⊢
  obtain⟨cs,h1,h2⟩:=hr
  exact⟨cs,h1,Reps.ext E (c:=c) h2⟩
|.undef,_,_=>by rw[Rep];trivial
|.imm c n sz t org,v,hr=>by rw[Rep]at hr ⊢;exact RepC.keep (E.jsub org) (E.keep org) hr
|.iptr c org,v,hr=>by rw[Rep]at hr ⊢;exact RepC.keep (E.jsub org) (E.keep org) hr
|.int ..,_,hr=>hr
|.bool _,_,hr=>hr
|.str _,_,hr=>hr
|.nsl,_,hr=>hr
|.nilptr,_,hr=>hr
|.nilfn,_,hr=>hr
def Reps.ext{J J':Bool->Nat->Prop}{β β':Bx}{h h':Aw}{w w':World}(E:Ext J β h w J' β' h' w'):∀{c:List AV}{cs:List Value},Reps J β h w c cs->Reps J' β' h' w' c cs
|[],_,hr=>hr
|x::r,cs,hr=>by
  rw[Reps]at hr ⊢
  obtain⟨u,us,h1,h2,h3⟩:=hr
  exact⟨u,us,h1,Rep.ext E (x:=x) h2,Reps.ext E (c:=r) h3⟩
end
end Gx
namespace Gx
open Go
def Ad8:List (Nat×List Value):=[]
def Ac4:List Nat:=[]
end Gx
namespace Gx
open Go
def CellsRep(J:Bool->Nat->Prop)(β:Bx)(h:Aw)(w:World)(x:Blk)(rd:Nat->Option Value):Prop :=
 (x.pure=true->RepCs (J x.taint) w x.cells rd 0) /\
 (x.pure=false->∀ j c,x.cells[j]?=some c->∃ u,rd j=some u/\Rep J β h w c u/\u.oneCell'=true)
def FrOk(n:Nat)(fr:Nat×Nat):Prop:=fr.1=fr.2\/n<=fr.1
def FrOk.at{n:Nat}{fr:Nat×Nat}(h:FrOk n fr)(j:Nat)(k:j<n):¬ (fr.1<=j/\j<fr.2):=by rcases h with h|h<;>omega
def TyOk(X:Option (Nat×Nat))(ty:TypeId)(o n:Nat):Prop:=∀ t m,X=some (t,m)->ty=t/\o=0/\(m=0\/n=m)
def FrTy(X:Option (Nat×Nat))(ty:TypeId)(o n:Nat)(fr:Nat×Nat):Prop:=FrOk n fr/\TyOk X ty o n
def TyOk.none{ty:TypeId}{o n:Nat}:TyOk .none ty o n:=fun _ _ h=>by cases h
def FrOk.un{n:Nat}{fr:Nat×Nat}(h:FrOk n fr){ty:TypeId}{o:Nat}:FrTy .none ty o n fr:=⟨h,TyOk.none⟩
def FrTy.un0{ty:TypeId}{o n a:Nat}:FrTy .none ty o n (a,a):=⟨.inl rfl,TyOk.none⟩
def Ac5(J:Bool->Nat->Prop)(β:Bx)(h:Aw)(w:World)(b:Nat)(x:Blk):Prop :=
 (β b=none/\x.cells=[])\/∃ k o cs ty fr,β b=some (k,o)/\w.heap[k]?=some (.cells cs ty fr) /\
  FrTy x.ty ty o cs.size fr/\o+x.cells.length<=cs.size/\CellsRep J β h w x (fun j=>cs[o+j]?) /\
  (x.sealed=false->∀ g,¬ J g k)/\(x.sealed=true->J x.taint k)
def Ac6(c:LA)(es:Array MapEntry):Prop:=∃ l:List Int,c=l.map (fun n=>.int .i64 n)/\es.toList.map (fun e=>(e.key,e.val))=l.map (fun n=>(.int .i64 n,.bool true))
def ObjIs(x:Blk)(ob:Obj):Prop:=(x.sz=0/\∃ es clk,ob=.map es clk/\Ac6 x.cells es)\/(x.sz=1/\∃ s pos,ob=.stringIter ⟨⟨s⟩⟩ pos/\x.cells=[.str s,.int .i64 (pos:Int)])
def MapRep(J:Bool->Nat->Prop)(β:Bx)(w:World)(b:Nat)(x:Blk):Prop:=x.pure=true/\x.sealed=false/\∃ k ob,β b=some (k,0)/\w.heap[k]?=some ob/\ObjIs x ob/\∀ g,¬ J g k
def ObjIs.row{x:Blk}{ob:Obj}(h:ObjIs x ob){cs:Array Value}{ty:TypeId}{fr:Nat×Nat}:ob≠.cells cs ty fr:=by rcases h with⟨_,es,clk,rfl,_⟩|⟨_,s,pos,rfl,_⟩<;>exact fun h=>by cases h
def GlobOk(J:Bool->Nat->Prop)(w:World):Prop:=(∀ p∈Ad8,J false p.1/\∃ ty fr,w.heap[p.1]?=some (.cells p.2.toArray ty fr))/\∀ g∈Ac4,J false g/\∃ m,w.cell? ⟨g,0,none⟩=some (.int .i64 m)
def GlobOk.to {J J':Bool->Nat->Prop} {w w':World} (h:GlobOk J w) (B:∀ k,J false k->J' false k) (C:qC (J false) w w'):GlobOk J' w':=⟨fun p v =>
 ⟨B _ (h.1 p v).1,by rw[C _ (h.1 p v).1];exact(h.1 p v).2⟩,fun g A=>⟨B _ (h.2 g A).1,by rw[WP C (by exact(h.2 g A).1)];exact(h.2 g A).2⟩⟩
def GlobOk.ext{J J':Bool->Nat->Prop}{β β':Bx}{h h':Aw}{w w':World}(G:GlobOk J w)(E:Ext J β h w J' β' h' w'):GlobOk J' w':=G.to (E.jsub false) (E.keep false)
structure SimH(J:Bool->Nat->Prop)(β:Bx)(h:Aw)(w:World):Prop where
 jlt:∀ o k,J o k->k<w.heap.size
 jft:∀ k,J false k->J true k
 gl:GlobOk J w
 blk:∀ b x,Al h b=some x->x.dead=false->x.mp=false->Ac5 J β h w b x
 mblk:∀ b x,Al h b=some x->x.dead=false->x.mp=true->MapRep J β w b x
 sep:∀ b b' x x' k o o',Al h b=some x->Al h b'=some x'->x.dead=false->x'.dead=false->x.sealed=false->β b=some (k,o)->β b'=some (k,o')->b=b'
mutual
def CT{J:Bool->Nat->Prop}{β:Bx}{h:Aw}{w:World}:∀ v:Value,Rep J β h w (WA v) v
|.int ..=>by simp[WA,Rep]
|.bool _=>by simp[WA,Rep]
|.string ⟨⟨s⟩⟩=>by simp[WA,Rep]
|.slice none 0 0=>by simp[WA,Rep]
|.slice none 0 (_+1)=>by simp[WA,Rep]
|.slice none (_+1) _=>by simp[WA,Rep]
|.slice (some _) _ _=>by simp[WA,Rep]
|.pointer none=>by simp[WA,Rep]
|.pointer (some _)=>by simp[WA,Rep]
|.nilFunc=>by simp[WA,Rep]
|.agg ⟨cs⟩=>by rw[WA,Rep];exact⟨cs,rfl,LX cs⟩
|.float ..=>by simp[WA,Rep]
|.complex ..=>by simp[WA,Rep]
|.map _=>by simp[WA,Rep]
|.chan _=>by simp[WA,Rep]
|.func ..=>by simp[WA,Rep]
|.iface ..=>by simp[WA,Rep]
|.nilIface=>by simp[WA,Rep]
|.tuple _=>by simp[WA,Rep]
def LX{J:Bool->Nat->Prop}{β:Bx}{h:Aw}{w:World}:∀ cs:List Value,Reps J β h w (Jo cs) cs
|[]=>by simp[Jo,Reps]
|v::r=>by rw[Jo,Reps];exact⟨v,r,rfl,CT v,LX r⟩
end
structure SimS(J:Bool->Nat->Prop)(β:Bx)(h:Aw)(w:World)(s:Fq)(t:Array Value):Prop where
 slot:∀ i v,t[i]?=some v->Rep J β h w (E7 s i) v
 out:∀ i,t.size<=i->E7 s i=.undef
def A3{J:Bool->Nat->Prop}{β:Bx}{h:Aw}{w:World}{s:Fq}{a:Act}(H:SimS J β h w s a.tmps)(x:Operand):Rep J β h w (ev s x) (a.eval x):=by
 cases x with
| tmp t =>
  rw[ev,Act.eval,Ajv]
  cases k:a.tmps[t]? with
  |some v=>exact H.slot t v k
  |none =>
   have:a.tmps.size<=t:=by simpa using k
   rw[H.out t this];simp[Rep]
|const v=>exact CT v
|global g=>simp[ev,Rep]
| func f =>
  rw[ev]
  cases A:Nat.blt f 1000000 with
  |false=>simp[Rep]
  |true =>
   have:f<1000000:=by simpa using A
   simp[Rep,Act.eval,Reps,Aig this]
section
variable{R:Type}{r:R}{P:Program}{J:Bool->Nat->Prop}{β:Bx}{h:Aw}{w:World}
def nY{t:TypeId}{op:BinOp}{k:IntKind}{a b:Int}{v:AV}(A:WB op k a b=some v):
  ∃ vc,(binOp op t (.int k a) (.int k b)).run P w=.ok vc w/\Rep J β h w v vc:=by cases op<;>simp[WB]at A<;>subst A<;>simp[binOp,Op.intArith,Op.intBits,Op.intCmp,Rep]
def sy{op:BinOp}{t:TypeId}{x y:AV}{k:AV->O R}{vx vy:Value}(A:wI P t op x y k=some r)(T:Rep J β h w x vx)(V:Rep J β h w y vy)(ox oy:Operand):
  ∃ v vc,k v=some r/\(do eqGuard op t ox oy vx vy;binOp op t vx vy:Sem Value).run P w=.ok vc w/\Rep J β h w v vc:=by
 unfold wI at A
 split at A
 ·rename_i G a L b
  rw[Rep]at T V;subst T V
  have C:(eqGuard op t ox oy (.int G a) (.int L b)).run P w=.ok () w:=by
   unfold eqGuard;cases op<;>simp
  split at A
  ·cases B:decide (b<0)<;>rw[B]at A<;>simp at A B
   refine⟨_,_,A,?_,by rw[Rep]⟩
   simp[C,binOp,Op.shift];intro hc;omega
  ·cases B:decide (b<0)<;>rw[B]at A<;>simp at A B
   refine⟨_,_,A,?_,by rw[Rep]⟩
   simp[C,binOp,Op.shift];intro hc;omega
  ·cases I:Ih G L<;>rw[I]at A<;>simp at A
   have D:G=L:=by simpa[Ih]using I
   subst D
   cases B:(b==0)<;>rw[B]at A<;>simp at A B
   refine⟨_,_,A,?_,by rw[Rep]⟩
   simp[C,binOp,Op.intDiv,B]
  ·cases I:Ih G L<;>rw[I]at A<;>simp at A
   have D:G=L:=by simpa[Ih]using I
   subst D
   cases B:(b==0)<;>rw[B]at A<;>simp at A B
   refine⟨_,_,A,?_,by rw[Rep]⟩
   simp[C,binOp,Op.intDiv,B]
  ·cases I:Ih G L<;>rw[I]at A<;>simp at A
   have D:G=L:=by simpa[Ih]using I
   subst D
   cases hi:WB op G a b with
   |none=>rw[hi]at A;simp at A
   |some v =>
    rw[hi]at A
    obtain⟨vc,h1,h2⟩:=nY (P:=P) (J:=J) (β:=β) (h:=h) (w:=w) (t:=t) hi
    exact⟨v,vc,by simpa using A,by simp[C,h1],h2⟩
 ·rename_i a b
  rw[Rep]at T V;subst T V
  split at A
  ·cases B:LP P t<;>rw[B]at A<;>simp at A
   have Y:P.underlying t=some .bool:=by unfold LP at B;split at B<;>simp_all
   refine⟨_,_,A,?_,by rw[Rep]⟩
   have he:(Op.equal t (.bool a) (.bool b)).run P w=.ok (a==b) w:=by
    have:∀ d,(Op.equalIn (d+1) t (.bool a) (.bool b)).run P w=.ok (a==b) w:=fun d=>by
     unfold Op.equalIn;simp only[Sem.run_bind,run_underlying Y,Result.andThen_ok,Sem.run_pure]
    exact this 9999
   have C:∀ op,(eqGuard op t ox oy (.bool a) (.bool b)).run P w=.ok () w:=fun op=>by unfold eqGuard;cases op<;>simp
   simp only[Sem.run_bind,C,Result.andThen_ok,binOp,he,Sem.run_pure]
  ·cases B:LP P t<;>rw[B]at A<;>simp at A
   have Y:P.underlying t=some .bool:=by unfold LP at B;split at B<;>simp_all
   refine⟨_,_,A,?_,by rw[Rep]⟩
   have he:(Op.equal t (.bool a) (.bool b)).run P w=.ok (a==b) w:=by
    have:∀ d,(Op.equalIn (d+1) t (.bool a) (.bool b)).run P w=.ok (a==b) w:=fun d=>by
     unfold Op.equalIn;simp only[Sem.run_bind,run_underlying Y,Result.andThen_ok,Sem.run_pure]
    exact this 9999
   have C:∀ op,(eqGuard op t ox oy (.bool a) (.bool b)).run P w=.ok () w:=fun op=>by unfold eqGuard;cases op<;>simp
   simp only[Sem.run_bind,C,Result.andThen_ok,binOp,he,Sem.run_pure]
  ·simp at A
 ·rename_i a b
  rw[Rep]at T V;subst T V
  have ea:(⟨⟨a⟩⟩:ByteArray).toList=a:=by simp[ByteArray.toList_eq]
  have eb:(⟨⟨b⟩⟩:ByteArray).toList=b:=by simp[ByteArray.toList_eq]
  have C:∀ op,(eqGuard op t ox oy (.string ⟨⟨a⟩⟩) (.string ⟨⟨b⟩⟩)).run P w=.ok () w:=fun op=>by unfold eqGuard;cases op<;>simp
  split at A
  ·cases B:ble (a.length+b.length) 140737488355328<;>rw[B]at A<;>simp at A B
   refine⟨_,_,A,?_,by rw[Rep]⟩
   have hl:¬ (((⟨⟨a⟩⟩:ByteArray).size+(⟨⟨b⟩⟩:ByteArray).size:Nat):Int)>IntKind.i64.max:=by
    show ¬ ((a.length+b.length:Nat):Int)>9223372036854775807
    omega
   have ec:(⟨⟨a⟩⟩:ByteArray)++⟨⟨b⟩⟩=⟨⟨a++b⟩⟩:=by
    apply ByteArray.ext;simp[ByteArray.data_append]
   simp only[Sem.run_bind,C,Result.andThen_ok,binOp,Op.stringOp,if_neg hl,Sem.run_pure,ec]
  all_goals first
   |(refine⟨_,_,A,?_,by rw[Rep]⟩;simp only[Sem.run_bind,C,Result.andThen_ok,binOp,Op.stringOp,Sem.run_pure,ea,eb];done)
   |simp at A
 ·simp at A
end
end Gx
namespace Gx
open Go
section
variable{R:Type}{r:R}{P:Program}{J:Bool->Nat->Prop}{β:Bx}{h:Aw}{w:World}
def ub{α:Type}{o:Option α}{f:α->O R}(k:o.bind f=some r):∃ x,o=some x/\f x=some r:=by
 cases o with
|none=>simp at k
|some x=>exact⟨x,rfl,by simpa using k⟩
def uc{b:Bool}{x:O R}(k:cond b x none=some r):b=true/\x=some r:=by cases b<;>simp at k;exact⟨rfl,k⟩
def sn{b:Bool}{x:O R}(k:cond b none x=some r):b=false/\x=some r:=by cases b<;>simp at k;exact⟨rfl,k⟩
def wR{op:UnOp}{x v:AV}{vx:Value}(A:Afb op x=some v)(C:Rep J β h w x vx):
  ∃ vc,(Op.unary op vx).run P w=.ok vc w/\Rep J β h w v vc:=by
 unfold Afb at A
 split at A
 ·rename_i k n
  rw[Rep]at C;subst C;simp at A;subst A
  refine⟨.int k (k.wrap (-n)),by simp[Op.unary,Op.intArith],?_⟩
  rw[Rep]
 ·rename_i k n
  rw[Rep]at C;subst C
  have B:=A
  rw[WB]at B
  simp only[Ajm]at B;subst B
  refine⟨_,rfl,?_⟩
  rw[Rep];cases k.signed<;>rfl
 ·rename_i b
  rw[Rep]at C;subst C;simp at A;subst A
  exact⟨.bool (!b),by simp[Op.unary],by rw[Rep]⟩
 ·simp at A
def aB(P:Program)(J:Bool->Nat->Prop)(β:Bx)(h:Aw)(w:World)(t:TypeId)(rd:Nat->Option Value)(v:AV):Prop :=
 (∃ d,P.underlying t=some d/\d.isRow=false/\∃ u,rd 0=some u/\Rep J β h w v u) \/
 (∃ d,P.underlying t=some d/\d.isRow=true/\∃ us:List Value,(P.info? t).map (·.size)=some us.length/\(∀ j u,us[j]?=some u->rd j=some u)/\Rep J β h w v (.agg us.toArray))
def RepCs.at{J:Nat->Prop}{c:LA}{rd:Nat->Option Value}(k:RepCs J w c rd 0){j:Nat}{x:AV}(v:c[j]?=some x):∃ u,rd j=some u/\RepC J w x u:=by have:=Bn.1 k j x v;simpa using this
def RepCs.drop{J:Nat->Prop}{c:LA}{rd:Nat->Option Value}(k:RepCs J w c rd 0)(n:Nat):RepCs J w (c.drop n) (fun j=>rd (n+j)) 0:=by
 rw[Bn]at k ⊢
 intro j x v
 rw[Ain]at v
 simpa using k (n+j) x v
def RepCs.take{J:Nat->Prop}{c:LA}{rd:Nat->Option Value}(v:RepCs J w c rd 0)(n:Nat):RepCs J w (c.take n) rd 0:=by
 rw[Bn]at v ⊢
 intro j x k
 rw[Ajd]at k
 split at k
 ·exact v j x k
 ·simp at k
def RepCs.list{J:Nat->Prop}{c:LA}{rd:Nat->Option Value}(B:RepCs J w c rd 0):
  ∃ us:List Value,us.length=c.length/\(∀ j u,us[j]?=some u->rd j=some u)/\RepCs J w c (fun j=>us[j]?) 0:=by
 refine⟨c.zipIdx.map fun p=>(rd p.2).getD undef,by simp,fun j u k=>?_,?_⟩
 ·rw[Akd,Ank]at k
  cases A:c[j]? with
  |none=>rw[A]at k;simp at k
  |some x =>
   rw[A]at k
   obtain⟨C,v,_⟩:=B.at A
   simp[v]at k
   rw[v,k]
 ·rw[Bn]
  intro j x k
  obtain⟨u,v,hr⟩:=B.at k
  refine⟨u,?_,hr⟩
  simp[k,v]
def aC{J1 J2:Nat->Prop}:∀{c:LA}{rd:Nat->Option Value}{i:Nat},A4 c=true->RepCs J1 w c rd i->RepCs J2 w c rd i
|[],_,_,_,_=>trivial
|x::r,rd,i,k,v=>by
  rw[RepCs]at v ⊢
  obtain⟨⟨u,A,C⟩,B⟩:=v
  have hr:A4 r=true:=by unfold A4 at k;split at k<;>simp_all
  refine⟨⟨u,A,?_⟩,aC hr B⟩
  unfold A4 at k
  split at k<;>simp_all[RepC]
def N'{t:TypeId}{c:LA}{org:Bool}{k:Bool->O R}{rd:Nat->Option Value}{i:Nat}(v:Ux P t c org k=some r)(A:RepCs (J org) w c rd i):∃ o,k o=some r/\RepCs (J o) w c rd i:=by
 unfold Ux at v
 cases B:uw P t with
|true=>rw[B]at v;exact⟨org,v,A⟩
|false =>
  rw[B,cond_false]at v
  obtain⟨C,D⟩:=uc v
  refine⟨false,D,?_⟩
  cases org with
  |false=>exact A
  |true=>exact aC (by simpa using C) A
def S8{t:TypeId}{c:LA}{org:Bool}{k:AV->O R}{rd:Nat->Option Value}(B:HW P t c org k=some r)(T:RepCs (J org) w c rd 0):
  ∃ v,k v=some r/\aB P J β h w t rd v:=by
 unfold HW at B
 have agg:∀{d:TypeDesc},P.underlying t=some d->d.isRow=true->((A8 P t).bind fun n=>cond (ble n c.length) (Ux P t (c.take n) org fun o=>k (.pagg (c.take n) o)) none)=some r ->
   ∃ v,k v=some r/\aB P J β h w t rd v:=by
  intro d D hd B
  obtain⟨n,hn,B⟩:=ub B
  obtain⟨hle,B⟩:=uc B
  have hle':n<=c.length:=by simpa using hle
  obtain⟨us,G,C,h3⟩:=(T.take n).list
  have hl:us.length=n:=by rw[G];simp;omega
  obtain⟨o,B,h4⟩:=N' B h3
  refine⟨_,B,.inr ⟨d,D,hd,us,?_,C,?_⟩⟩
  ·rw[hl];exact hn
  ·rw[Rep];exact⟨us,rfl,by rw[G],h4⟩
 split at B
 ·rename_i kd D
  obtain⟨x,I,B⟩:=ub B
  obtain⟨n,hn,B⟩:=ub B
  obtain⟨u,G,C⟩:=T.at (by rw[<-Aij];exact I)
  refine⟨_,B,.inl ⟨_,D,rfl,u,G,?_⟩⟩
  unfold NY at hn
  split at hn
  ·obtain⟨V,Y⟩:=uc hn
   simp[Ih]at V Y;subst V;subst Y
   rw[RepC]at C;rw[Rep];exact C
  ·simp at hn
 ·rename_i D
  obtain⟨x,I,B⟩:=ub B
  obtain⟨n,hn,B⟩:=ub B
  obtain⟨u,G,C⟩:=T.at (by rw[<-Aij];exact I)
  refine⟨_,B,.inl ⟨_,D,rfl,u,G,?_⟩⟩
  unfold asBool at hn
  split at hn
  ·simp at hn;subst hn
   rw[RepC]at C;rw[Rep];exact C
  ·simp at hn
 ·rename_i D
  obtain⟨x,I,B⟩:=ub B
  obtain⟨n,hn,B⟩:=ub B
  obtain⟨u,G,C⟩:=T.at (by rw[<-Aij];exact I)
  refine⟨_,B,.inl ⟨_,D,rfl,u,G,?_⟩⟩
  unfold ZU at hn
  split at hn
  ·simp at hn;subst hn
   rw[RepC]at C;rw[Rep];exact C
  ·simp at hn
 ·rename_i e D
  obtain⟨sz,hsz,B⟩:=ub B
  obtain⟨x,I,B⟩:=ub B
  obtain⟨p,L,B⟩:=ub B
  obtain⟨u,G,C⟩:=T.at (by rw[<-Aij];exact I)
  refine⟨_,B,.inl ⟨_,D,rfl,u,G,?_⟩⟩
  unfold wJ at L
  rw[Rep,RepC]
  split at L
  ·obtain⟨V,hp'⟩:=uc L
   simp at V hp';subst V;subst hp'
   rw[RepC]at C
   obtain⟨h3,A,cap,h4,h5,h6,h7⟩:=C
   exact⟨h3,A,cap,h4,h5,by simp,h7⟩
  ·simp at L;subst L
   rw[RepC]at C
   exact⟨by simp,none,0,C,by simp,by simp,.inl rfl⟩
  ·simp at L
 ·rename_i D;exact agg D rfl B
 ·rename_i D;exact agg D rfl B
 ·simp at B
def Bu:∀{c:LA}{cs:List Value},Reps J β h w c cs↔cs.length=c.length/\∀(j:Nat)(x:AV)(u:Value),c[j]?=some x->cs[j]?=some u->Rep J β h w x u
|[],cs=>by rw[Reps];simp
| x::r,cs=>by
  rw[Reps]
  constructor
  ·rintro⟨u,us,rfl,B,C⟩
   rw[Bu]at C
   refine⟨by simp[C.1],fun j y v k A=>?_⟩
   cases j with
   |zero=>simp at k A;subst k A;exact B
   |succ j=>exact C.2 j y v (by simpa using k) (by simpa using A)
  ·rintro⟨D,B⟩
   cases cs with
   |nil=>simp at D
   |cons u us =>
    refine⟨u,us,rfl,B 0 x u (by simp) (by simp),?_⟩
    rw[Bu]
    exact⟨by simpa using D,fun j y v k A=>B (j+1) y v (by simpa using k) (by simpa using A)⟩
def ID{t:TypeId}{c:LA}{k:AV->O R}{rd:Nat->Option Value}(A:ZV P t c k=some r)
  (L:∀ j x,c[j]?=some x->∃ u,rd j=some u/\Rep J β h w x u) :
  ∃ v,k v=some r/\aB P J β h w t rd v:=by
 unfold ZV at A
 have agg:∀{d:TypeDesc},P.underlying t=some d->d.isRow=true->((A8 P t).bind fun n=>cond (ble n c.length) (k (.agg (c.take n))) none)=some r ->
   ∃ v,k v=some r/\aB P J β h w t rd v:=by
  intro d C V A
  obtain⟨n,hn,A⟩:=ub A
  obtain⟨T,A⟩:=uc A
  have I:n<=c.length:=by simpa using T
  refine⟨_,A,.inr ⟨d,C,V,(c.take n).zipIdx.map fun p=>(rd p.2).getD undef,?_,fun j u G=>?_,?_⟩⟩
  ·simp;rw[Aia I];exact Option.map_eq_some_iff.1 hn
  ·rw[Akd,Ank]at G
   cases B:(c.take n)[j]? with
   |none=>rw[B]at G;simp at G
   | some x =>
    rw[B]at G
    rw[Ajd]at B
    split at B
    ·obtain⟨Y,D,_⟩:=L j x B
     simp[D]at G
     rw[D,G]
    ·simp at B
  ·rw[Rep]
   refine⟨_,rfl,Bu.2 ⟨by simp,fun j x u B C=>?_⟩⟩
   simp[B]at C
   rw[Ajd]at B
   split at B
   ·obtain⟨Y,D,hr⟩:=L j x B
    simp[D]at C;subst C;exact hr
   ·simp at B
 split at A
 ·rename_i C;exact agg C rfl A
 ·rename_i C;exact agg C rfl A
 ·rename_i d _ _ C
  obtain⟨x,B,A⟩:=ub A
  obtain⟨u,h1,h2⟩:=L 0 x (by rw[<-Aij];exact B)
  refine⟨x,A,.inl ⟨d,C,?_,u,h1,h2⟩⟩
  cases d<;>simp_all
 ·simp at A
def lQ{n:Nat}{k:AV->O R}:∀{c:LA}{i:Nat},CL n k c i=some r->i<=n/\∃ x,c[n - i]?=some x/\k x=some r
|[],i,A=>by simp[CL]at A
| v::c,i,A=>by
  rw[CL]at A
  cases B:beq n i with
  |true =>
   rw[B]at A
   have:n=i:=Aht B
   subst this
   exact⟨Ahl _,v,by simp,A⟩
  |false =>
   rw[B]at A
   obtain⟨G,x,C,D⟩:=lQ (c:=c) A
   refine⟨by omega,x,?_,D⟩
   rw[show n - i=(n - (i+1))+1 by omega];simpa using C
def SB{t:TypeId}{c:LA}{off:Nat}{k:AV->O R}(v:HX P t c off k=some r):ZV P t (c.drop off) k=some r:=by
 unfold HX at v
 unfold ZV
 split at v
 ·exact v
 ·exact v
 ·rename_i d D G I
  obtain⟨_,x,A,B⟩:=lQ v
  have C:(c.drop off).head?=some x:=by rw[Aij,Ain];simpa using A
  rw[C];exact B
 ·simp at v
def LY{t:TypeId}{d:TypeDesc}(k:P.underlying t=some d):(isAgg t).run P w=.ok d.isRow w:=by
 unfold isAgg
 rw[Sem.run_bind,run_underlying k w]
 cases d<;>simp
def OA{t:TypeId}{a:Addr}{v:AV}(hr:aB P J β h w t (fun j=>w.cell? (a.add j)) v):∃ vc,(loadVar t a).run P w=.ok vc w/\Rep J β h w v vc:=by
 rcases hr with⟨d,A,B,u,k,C⟩|⟨d,A,B,us,k,C,G⟩
 ·refine⟨u,?_,C⟩
  have D:w.cell? a=some u:=by simpa[Addr.add]using k
  simp[loadVar,LY A,B,D]
 ·refine⟨_,?_,G⟩
  have I:=run_loadCells_list (P:=P) w a us C
  cases hq:P.info? t with
  |none=>simp[hq]at k
  |some i =>
   have hs:i.size=us.length:=by simpa[hq]using k
   simp[loadVar,Sem.run_bind,LY A,B,Go.sizeOf,typeInfo,hq,hs,I]
def Rv{t:TypeId}{cs:List Value}{off:Nat}{v:AV}(hr:aB P J β h w t (fun j=>cs[off+j]?) v):∃ vc,(part t ⟨cs⟩ off).run P w=.ok vc w/\Rep J β h w v vc:=by
 rcases hr with⟨d,A,B,u,k,C⟩|⟨d,A,B,us,k,C,G⟩
 ·refine⟨u,?_,C⟩
  simp at k
  simp[part,LY A,B,k]
 ·refine⟨_,?_,G⟩
  cases hq:P.info? t with
  |none=>simp[hq]at k
  | some i =>
   have hs:i.size=us.length:=by simpa[hq]using k
   have:(⟨cs⟩:Array Value).extract off (off+us.length)=us.toArray:=by
    apply Ai9
    simp
    apply List.ext_getElem?
    intro j
    rw[Ajd,Ain]
    split
    ·rename_i D
     rw[Ahk D]
     exact C j _ (Ahk D)
    ·rename_i D
     rw[Air (by omega)]
   simp only[part,Sem.run_bind,LY A,B,Go.sizeOf,typeInfo,run_program,Result.andThen_ok,hq,Sem.run_pure,hs,if_true,this]
end
end Gx
namespace Gx
open Go
section
variable{R:Type}{r:R}{P:Program}{J:Bool->Nat->Prop}{β:Bx}{h:Aw}{w:World}{g:A2}
def M7{k:Nat}{cs:Array Value}{ty:TypeId}{fr:Nat×Nat}(v:w.heap[k]?=some (.cells cs ty fr))(i:Nat):w.cell? ⟨k,i,none⟩=cs[i]?:=by simp[World.cell?,v]
def Looks(g:A2)(h:Aw):Prop:=∀ b x,g b=some x->Al h b=some x
def Cw{b:Nat}{x:Blk}(v:Looks g h)(k:E1 g b=some x):Al h b=some x/\x.dead=false:=by
 unfold E1 at k
 obtain⟨y,A,k⟩:=ub k
 obtain⟨B,k⟩:=sn k
 simp at k;subst k
 exact⟨v b _ A,B⟩
def nZ{b off:Nat}{x:Blk}{v:Value}(S:SimH J β h w)(D:Al h b=some x)(G:x.dead=false)(hr:Rep J β h w (.optr b off) v):
  ∃ k o cs ty fr,β b=some (k,o)/\v=.pointer (some ⟨k,o+off,none⟩)/\w.heap[k]?=some (.cells cs ty fr) /\
  FrTy x.ty ty o cs.size fr/\o+x.cells.length<=cs.size/\CellsRep J β h w x (fun j=>cs[o+j]?) /\
  (x.sealed=false->∀ g,¬ J g k)/\(x.sealed=true->J x.taint k):=by
 rw[Rep]at hr
 obtain⟨y,k,o,⟨B,I⟩,L,hr⟩:=hr
 rw[D]at B;simp at B;subst B
 rcases hr with hr|C
 ·simp[G]at hr
 ·rcases S.blk b x D G I with⟨hn,_⟩|⟨k',o',cs,ty,fr,A,T,V,Y,h4,h5,h6⟩
  ·rw[C]at hn;simp at hn
  ·rw[C]at A;simp at A;obtain⟨rfl,rfl⟩:=A
   exact⟨k,o,cs,ty,fr,C,L,T,V,Y,h4,h5,h6⟩
def CellsRep.reads{t:TypeId}{x:Blk}{cs:Array Value}{o off:Nat}{k:AV->O R}(G:CellsRep J β h w x (fun j=>cs[o+j]?))
  (A:cond x.pure (HW P t (x.cells.drop off) x.taint k) (HX P t x.cells off k)=some r) :
  ∃ v,k v=some r/\aB P J β h w t (fun j=>cs[o+off+j]?) v:=by
 cases B:x.pure with
|true =>
  rw[B]at A
  have:=(G.1 B).drop off
  obtain⟨v,C,D⟩:=S8 (β:=β) (h:=h) A this
  exact⟨v,C,by simpa[Ai1]using D⟩
| false =>
  rw[B]at A
  obtain⟨v,C,D⟩:=ID (J:=J) (β:=β) (h:=h) (w:=w) (rd:=fun j=>cs[o+(off+j)]?) (SB A) (fun j y I=>by
   rw[Ain]at I
   obtain⟨u,L,hr,_⟩:=G.2 B _ _ I
   exact⟨u,L,hr⟩)
  exact⟨v,C,by simpa[Ai1]using D⟩
def aD{t:TypeId}{p:AV}{vp:Value}{k:AV->O R}(S:SimH J β h w)(V:Looks g h)(A:fB P g t p k=some r)(B:Rep J β h w p vp):
  ∃ v vc,k v=some r/\(Instr.loadAt t vp).run P w=.ok vc w/\Rep J β h w v vc:=by
 unfold fB at A
 split at A
 ·rename_i c org
  rw[Rep,RepC]at B
  obtain⟨a,rfl,_,C⟩:=B
  obtain⟨v,D,G⟩:=S8 (β:=β) (h:=h) A C
  obtain⟨vc,I,L⟩:=OA G
  exact⟨v,vc,D,by simp[Instr.loadAt,Instr.sureAddr,I],L⟩
 ·rename_i b off
  obtain⟨x,Y,A⟩:=ub A
  obtain⟨hb,hd⟩:=Cw V Y
  obtain⟨kk,o,cs,ty,fr,hβ,rfl,hk,_,_,C,_⟩:=nZ S hb hd B
  obtain⟨v,D,G⟩:=C.reads A
  have T:aB P J β h w t (fun j=>w.cell? ((⟨kk,o+off,none⟩:Addr).add j)) v:=by
   simpa only[Addr.add_mid,M7 hk]using G
  obtain⟨vc,I,L⟩:=OA T
  exact⟨v,vc,D,by simp[Instr.loadAt,Instr.sureAddr,I],L⟩
 ·simp at A
def B0{t:TypeId}{n:Nat}(hs:A8 P t=some n)(w:World):(Go.sizeOf t).run P w=.ok n w:=by
 unfold A8 at hs
 cases hq:P.info? t with
|none=>simp[hq]at hs
|some i=>simp[hq]at hs;simp[Go.sizeOf,typeInfo,hq,hs]
def Qo{i:Int}{n:Nat}(hi:Ah i n=true):0<=i/\i<(n:Int):=by simpa[Ah]using hi
def SC{J:Nat->Prop}{c:LA}{a:Addr}(k:RepCs J w c (fun j=>w.cell? (a.add j)) 0)(n:Nat):RepCs J w (c.drop n) (fun j=>w.cell? ((a.add n).add j)) 0:=by
 have e:∀ j,(a.add n).add j=a.add (n+j):=fun j=>by
  unfold Addr.add
  by_cases v:n=0<;>by_cases A:j=0<;>simp[v,A,Ai1]
 simpa[e]using k.drop n
def Aao{b off n:Nat}{v:Value}(m:Nat)(hr:Rep J β h w (.own b off n) v)(hn:n≠0):
  ∃ k o cap,v=.slice (some ⟨k,o,none⟩) n cap/\Rep J β h w (.optr b (off+m)) (.pointer (some ⟨k,o+m,none⟩)):=by
 rw[Rep]at hr
 obtain⟨x,A,cap,B,rfl,C,hr⟩:=hr
 rcases hr with hr|⟨k,o,rfl,hr⟩
 ·omega
 ·refine⟨k,o+off,cap,rfl,?_⟩
  rw[Rep];exact⟨x,k,o,B,by rw[Ai1],hr.imp id (·.1)⟩
def OB{t k:TypeId}{v:IntKind}{i:Int}{len cap sz:Nat}{a:Addr}(A:P.underlying t=some (.slice k))(hs:A8 P k=some sz)(B:Ah i len=true):
  (Instr.indexAt t (.slice (some a) len cap) (.int v i)).run P w=.ok (.pointer (some (a.add (i.toNat*sz)))) w:=by
 obtain⟨C,D⟩:=Qo B
 simp[Instr.indexAt,asIntOf,run_underlying A,C,D,B0 hs]
def OC{t k:TypeId}{v:IntKind}{i:Int}{len sz:Nat}{a:Addr}(A:P.underlying t=some (.array len k))(hs:A8 P k=some sz)(B:Ah i len=true):
  (Instr.indexAt t (.pointer (some a)) (.int v i)).run P w=.ok (.pointer (some (a.add (i.toNat*sz)))) w:=by
 obtain⟨C,D⟩:=Qo B
 simp[Instr.indexAt,asIntOf,run_underlying A,C,D,B0 hs,Instr.sureAddr]
def lR{i:Int}{k:Nat->O R}:∀{m j:Nat},ZW i k m j=some r->∃ q:Nat,i=(q:Int)/\k q=some r
|0,_,h=>by cases h
|m+1,j,h=>by
  rw[ZW]at h
  cases v:i==(j:Int)with
  |true=>rw[v]at h;exact⟨j,by simpa using v,h⟩
  |false=>rw[v]at h;exact lR h
def dL{t:TypeId}{x i:AV}{k:AV->O R}(v:Od P t x i k=some r):Ii P t x i k=some r:=by
 unfold Od at v
 split at v
 ·rename_i len I b off L i A
  obtain⟨sz,hs,B⟩:=ub v
  obtain⟨q,hq,C⟩:=lR B
  subst hq
  obtain⟨D,G⟩:=uc C
  unfold Ii
  rw[A]
  simp only[hs,Ai3]
  have:Ah (q:Int) len=true:=by
   unfold Ah
   have:q<len:=by simpa[Nat.blt_eq]using D
   simp;exact this
  rw[this,cond_true,Ahm];exact G
 ·cases v
def WQ{t:TypeId}{x i:AV}{vx vi:Value}{k:AV->O R}(C:Ii P t x i k=some r)(D:Rep J β h w x vx)(hi:Rep J β h w i vi):
  ∃ v vc,k v=some r/\(Instr.indexAt t vx vi).run P w=.ok vc w/\Rep J β h w v vc:=by
 unfold Ii at C
 split at C
 ·rename_i T c len sz tight org V i G
  obtain⟨Y,hs,I⟩:=ub C
  obtain⟨he,h2⟩:=uc I
  obtain⟨B,L⟩:=uc h2
  have he':Y=sz:=by simp at he;exact he.symm
  subst he'
  rw[Rep]at hi;subst hi
  rw[Rep,RepC]at D
  obtain⟨hlen,A,cap,rfl,hcap,_,hA⟩:=D
  rcases hA with hA|⟨a,rfl,hj,hc⟩
  ·have:=Qo B;omega
  refine⟨_,_,L,OB G hs B,?_⟩
  rw[Rep,RepC]
  exact⟨_,rfl,by rw[Qn];exact hj,SC hc _⟩
 ·rename_i T b off len V i G
  obtain⟨sz,hs,I⟩:=ub C
  obtain⟨B,L⟩:=uc I
  rw[Rep]at hi;subst hi
  obtain⟨kk,o,cap,rfl,h4⟩:=Aao (i.toNat*sz) D (by have:=Qo B;omega)
  exact⟨_,_,L,OB G hs B,by rw[Addr.add_mid];exact h4⟩
 ·rename_i len T c org V i G
  obtain⟨sz,hs,I⟩:=ub C
  obtain⟨B,L⟩:=uc I
  rw[Rep]at hi;subst hi
  rw[Rep,RepC]at D
  obtain⟨a,rfl,hj,hc⟩:=D
  refine⟨_,_,L,OC G hs B,?_⟩
  rw[Rep,RepC]
  exact⟨_,rfl,by rw[Qn];exact hj,SC hc _⟩
 ·rename_i len T b off V i G
  obtain⟨sz,hs,I⟩:=ub C
  obtain⟨B,L⟩:=uc I
  rw[Rep]at hi;subst hi
  rw[Rep]at D
  obtain⟨y,kk,o,hy,rfl,h4⟩:=D
  refine⟨_,_,L,OC G hs B,?_⟩
  rw[Rep,Addr.add_mid]
  exact⟨y,kk,o,hy,by rw[Ai1],h4⟩
 ·simp at C
def SD{t:TypeId}{f:Nat}{p:Nat×TypeId}(k:eX P t f=some p):∃ fs fd,P.underlying t=some (.struct fs)/\fs[f]?=some fd/\fd.offset=p.1/\fd.type=p.2:=by
 unfold eX at k
 split at k
 ·rename_i fs v
  cases hq:fs[f]? with
  |none=>simp[hq]at k
  |some fd=>simp[hq]at k;subst k;exact⟨fs,fd,v,hq,rfl,rfl⟩
 ·simp at k
def WR{t:TypeId}{x:AV}{f:Nat}{vx:Value}{k:AV->O R}(D:Qi P t x f k=some r)(A:Rep J β h w x vx):
  ∃ v vc,k v=some r/\(Instr.fieldAt t vx f).run P w=.ok vc w/\Rep J β h w v vc:=by
 unfold Qi at D
 obtain⟨p,G,I⟩:=ub D
 obtain⟨n,hn,L⟩:=ub I
 obtain⟨T,B⟩:=sn L
 obtain⟨fs,fd,V,Y,ho,ht⟩:=SD G
 have C:n≠0:=by intro e;subst e;simp at T
 have run:∀ a:Addr,(Instr.fieldAt t (.pointer (some a)) f).run P w=.ok (.pointer (some (a.add p.1))) w:=fun a=>by
  simp[Instr.fieldAt,run_underlying V,Y,Instr.sureAddr,fieldPlace,ht,B0 hn,C,ho]
 split at B
 ·rw[Rep,RepC]at A
  obtain⟨a,rfl,hj,hc⟩:=A
  refine⟨_,_,B,run a,?_⟩
  rw[Rep,RepC]
  exact⟨_,rfl,by rw[Qn];exact hj,SC hc _⟩
 ·rw[Rep]at A
  obtain⟨y,kk,o,hy,rfl,h4⟩:=A
  refine⟨_,_,B,run _,?_⟩
  rw[Rep,Addr.add_mid]
  exact⟨y,kk,o,hy,by rw[Ai1],h4⟩
 ·simp at B
def n0{t:TypeId}{x:AV}{f:Nat}{vx:Value}{k:AV->O R}(V:WC P t x f k=some r)(B:Rep J β h w x vx):
  ∃ v vc,k v=some r/\(Instr.field t vx f).run P w=.ok vc w/\Rep J β h w v vc:=by
 unfold WC at V
 obtain⟨p,hp,C⟩:=ub V
 obtain⟨fs,fd,Y,hf,ho,ht⟩:=SD hp
 split at C
 ·rename_i c org
  rw[Rep]at B
  obtain⟨cs,rfl,hl,A⟩:=B
  obtain⟨v,D,G⟩:=S8 (β:=β) (h:=h) C (A.drop p.1)
  obtain⟨vc,I,L⟩:=Rv G
  exact⟨v,vc,D,by simp[Instr.field,run_underlying Y,hf,asAgg,ht,ho,I],L⟩
 ·rename_i c
  rw[Rep]at B
  obtain⟨cs,rfl,A⟩:=B
  rw[Bu]at A
  obtain⟨v,D,G⟩:=ID (J:=J) (β:=β) (h:=h) (w:=w) (rd:=fun j=>cs[p.1+j]?) C (fun j y T=>by
   rw[Ain]at T
   have:p.1+j<cs.length:=by
    rw[A.1];exact(Ahx.1 T).1
   exact⟨cs[p.1+j],Ahk this,A.2 _ _ _ T (Ahk this)⟩)
  obtain⟨vc,I,L⟩:=Rv G
  exact⟨v,vc,D,by simp[Instr.field,run_underlying Y,hf,asAgg,ht,ho,I],L⟩
 ·simp at C
def n6{t:TypeId}{x i:AV}{vx vi:Value}{k:AV->O R}(A:WD P t x i k=some r)(B:Rep J β h w x vx)(hi:Rep J β h w i vi):
  ∃ v vc,k v=some r/\(Instr.index t vx vi).run P w=.ok vc w/\Rep J β h w v vc:=by
 unfold WD at A
 split at A
 ·rename_i s kd i C
  obtain⟨D,G⟩:=uc A
  obtain⟨I,V⟩:=Qo D
  rw[Rep]at hi;rw[Rep]at B;subst hi B
  have L:i.toNat<s.length:=by omega
  refine⟨_,.int .u8 ((s.getD i.toNat 0).toNat:Int),G,?_,by rw[Rep]⟩
  have hg:(⟨⟨s⟩⟩:ByteArray)[i.toNat]?=some s[i.toNat]:=by
   have:i.toNat<(⟨⟨s⟩⟩:ByteArray).size:=L
   rw[getElem?_pos (⟨⟨s⟩⟩:ByteArray) i.toNat this];rfl
  simp only[Instr.index,asIntOf,Sem.run_bind,Sem.run_pure,Result.andThen_ok,run_underlying C,I,if_true,hg,Ahr,Ahk L,Option.getD_some]
 ·rename_i len el c org kd i C
  obtain⟨sz,hs,G⟩:=ub A
  obtain⟨D,V⟩:=uc G
  obtain⟨I,Y⟩:=Qo D
  rw[Rep]at hi;rw[Rep]at B;subst hi
  obtain⟨cs,rfl,hl,T⟩:=B
  obtain⟨v,h4,h5⟩:=S8 (β:=β) (h:=h) V (T.drop (i.toNat*sz))
  obtain⟨vc,h6,h7⟩:=Rv h5
  exact⟨v,vc,h4,by simp[Instr.index,asIntOf,run_underlying C,I,Y,B0 hs,h6],h7⟩
 ·rename_i len el c kd i C
  obtain⟨sz,hs,G⟩:=ub A
  obtain⟨D,V⟩:=uc G
  obtain⟨I,Y⟩:=Qo D
  rw[Rep]at hi;rw[Rep]at B;subst hi
  obtain⟨cs,rfl,T⟩:=B
  rw[Bu]at T
  obtain⟨v,h4,h5⟩:=ID (J:=J) (β:=β) (h:=h) (w:=w) (rd:=fun j=>cs[i.toNat*sz+j]?) (SB V) (fun j y hj=>by
   rw[Ain]at hj
   have:i.toNat*sz+j<cs.length:=by
    rw[T.1];exact(Ahx.1 hj).1
   exact⟨cs[i.toNat*sz+j],Ahk this,T.2 _ _ _ hj (Ahk this)⟩)
  obtain⟨vc,h6,h7⟩:=Rv h5
  exact⟨v,vc,h4,by simp[Instr.index,asIntOf,run_underlying C,I,Y,B0 hs,h6],h7⟩
 ·simp at A
def Tz(J:Bool->Nat->Prop)(β:Bx)(h:Aw)(w:World):Option AV->Option Value->Prop
|none,none=>True
|some x,some v=>Rep J β h w x v
|_,_=>False
def IE{o:Option AV}{vo:Option Value}{d:Nat}{i:Int}(A:RX o d=some i)(B:Tz J β h w o vo):
  (o=none/\vo=none/\i=d)\/∃ k,vo=some (.int k i):=by
 unfold RX at A
 split at A
 ·simp at A;subst A
  cases vo with
  |none=>exact .inl ⟨rfl,rfl,rfl⟩
  |some v=>simp[Tz]at B
 ·rename_i k j
  simp at A;subst A
  cases vo with
  |none=>simp[Tz]at B
  |some v=>rw[Tz,Rep]at B;subst B;exact .inr ⟨k,rfl⟩
 ·simp at A
def Rw{lo hi mx:Option AV}{vlo vhi vmx:Option Value}{n cap:Nat}{k:Nat->Nat->O R}{isSlice:Bool}(T:Uy lo hi mx n k=some r)
  (I:Tz J β h w lo vlo)
  (C:Tz J β h w hi vhi)
  (D:Tz J β h w mx vmx) (V:n<=cap) :
  ∃ l A m,k l A=some r/\l<=A/\A<=n/\A<=m/\m<=cap/\(mx=none->m=cap)/\(∀ B i,vmx=some (.int B i)->(m:Int)=i)/\(∀ B i,vhi=some (.int B i)->(A:Int)=i)/\(hi=none->A=n) /\
   (Instr.sliceBounds isSlice n cap vlo vhi vmx).run P w=.ok (l,A,m) w:=by
 unfold Uy at T
 obtain⟨l,h1,h2⟩:=ub T
 obtain⟨v,h3,h4⟩:=ub h2
 obtain⟨m,h5,L⟩:=ub h4
 obtain⟨Y,L⟩:=sn L
 obtain⟨hc,h7⟩:=uc L
 simp at hc Y
 obtain⟨c1,c2,c3,c4⟩:=hc
 have run:∀(B:IntKind)(i:Int)(y:Nat)(code:BoundsCode),0<=i->i<=(y:Int)->(Instr.sliceBound (.int B i) y code).run P w=.ok i.toNat w:=fun B i y code a b=>by
  simp[Instr.sliceBound,asIntOf,a,b]
 have bl:=IE (J:=J) (β:=β) (h:=h) (w:=w) h1 I
 have bh:=IE (J:=J) (β:=β) (h:=h) (w:=w) h3 C
 have bm:=IE (J:=J) (β:=β) (h:=h) (w:=w) h5 D
 rcases bm with⟨rfl,rfl,rfl⟩|⟨km,rfl⟩
 ·refine⟨l.toNat,v.toNat,cap,h7,by omega,by omega,by omega,by omega,fun _=>rfl,by simp,?_,?_,?_⟩
  ·intro B i G
   rcases bh with⟨_,rfl,_⟩|⟨kh,rfl⟩
   ·simp at G
   ·simp at G;omega
  ·intro hn
   rcases bh with⟨_,_,rfl⟩|⟨kh,rfl⟩
   ·simp
   ·subst hn;simp[Tz]at C
  ·rcases bh with⟨_,rfl,rfl⟩|⟨kh,rfl⟩<;>rcases bl with⟨_,rfl,rfl⟩|⟨kl,rfl⟩
   ·simp[Instr.sliceBounds]
   ·simp[Instr.sliceBounds,run _ l n _ c1 (by omega)]
   ·simp[Instr.sliceBounds,run _ v cap _ (by omega) (by omega)]
   ·simp[Instr.sliceBounds,run _ v cap _ (by omega) (by omega),run _ l v.toNat _ c1 (by omega)]
 ·rcases bh with⟨rfl,rfl,rfl⟩|⟨kh,rfl⟩
  ·have:mx.isSome=true:=by
    cases mx with
    |none=>simp[Tz]at D
    |some _=>rfl
   have:=Y this;simp at this
  ·refine⟨l.toNat,v.toNat,m.toNat,h7,by omega,by omega,by omega,by omega,?_,?_,?_,?_,?_⟩
   ·intro hn;subst hn;simp[Tz]at D
   ·intro B i G;simp at G;omega
   ·intro B i G;simp at G;omega
   ·intro hn;subst hn;simp[Tz]at C
   ·rcases bl with⟨_,rfl,rfl⟩|⟨kl,rfl⟩
    ·simp[Instr.sliceBounds,run _ m cap _ (by omega) (by omega),run _ v m.toNat _ (by omega) (by omega)]
    ·simp[Instr.sliceBounds,run _ m cap _ (by omega) (by omega),run _ v m.toNat _ (by omega) (by omega),run _ l v.toNat _ c1 (by omega)]
def n7 {t:TypeId} {x:AV} {lo hi mx:Option AV} {vx:Value} {vlo vhi vmx:Option Value} {k:AV->O R} (S:SimH J β h w) (hl:Looks g h) (T:WE P g t x lo hi mx k=some r)
  (V:Rep J β h w x vx) (Y:Tz J β h w lo vlo) (C:Tz J β h w hi vhi) (G:Tz J β h w mx vmx) :
  ∃ v vc,k v=some r/\(Instr.sliceAt t vx vlo vhi vmx).run P w=.ok vc w/\Rep J β h w v vc:=by
 unfold WE at T
 split at T
 ·rename_i s hu
  obtain⟨hm,h1⟩:=sn T
  have hmn:mx=none:=by cases mx<;>simp_all
  subst hmn
  have hv:vmx=none:=by cases vmx<;>simp_all[Tz]
  subst hv
  rw[Rep]at V;subst V
  obtain⟨l,B,m,h2,h3,h4,_,_,h5,_,_,_,h6⟩:=Rw (P:=P) (isSlice:=false) h1 Y C (vmx:=none) (by simp[Tz]) (Ahl _)
  refine⟨_,_,h2,?_,by rw[Rep]⟩
  have hs:(⟨⟨s⟩⟩:ByteArray).size=s.length:=rfl
  have he:(⟨⟨s⟩⟩:ByteArray).extract l B=⟨⟨(s.drop l).take (B - l)⟩⟩:=by
   apply ByteArray.ext
   rw[ByteArray.data_extract]
   simp
  simp[Instr.sliceAt,Instr.slice,run_underlying hu,hs,h6,he]
 ·rename_i el hu
  rw[Rep]at V;subst V
  obtain⟨sz,hs,T⟩:=ub T
  obtain⟨l,B,m,h2,h3,h4,h5,h6,_,_,_,_,h7⟩:=Rw (P:=P) (isSlice:=true) T Y C G (Ahl _)
  have:l=0:=by omega
  have:B=0:=by omega
  have:m=0:=by omega
  subst l;subst B;subst m
  refine⟨_,.slice none 0 0,h2,?_,by rw[Rep]⟩
  simp[Instr.sliceAt,Instr.slice,run_underlying hu,h7,B0 hs]
 ·rename_i el c n sz tight org hu
  obtain⟨sz',hs,h1⟩:=ub T
  obtain⟨he,h2⟩:=uc h1
  have he':sz'=sz:=by simp at he;exact he.symm
  subst he'
  rw[Rep,RepC]at V
  obtain⟨hlen,A,cap,rfl,I,ht,hA⟩:=V
  obtain⟨l,B,m,h3,h4,h5,h6,h7,h8,h9,h10,h11,h12⟩:=Rw (P:=P) (isSlice:=true) h2 Y C G I
  refine⟨_,.slice (if m=l then A else A.map (·.add (l*sz'))) (B - l) (m - l),h3,?_,?_⟩
  ·simp[Instr.sliceAt,Instr.slice,run_underlying hu,h12,B0 hs]
  ·rw[Rep,RepC]
   refine⟨?_,_,_,rfl,by omega,?_,?_⟩
   ·simp;rw[hlen,<-Nat.sub_mul]
    exact Aia (Ahp _ (by omega))
   ·intro L
    unfold ux at L
    split at L
    ·have:=ht L
     have:=h8 rfl
     have:=h11 rfl
     omega
    ·rename_i ka a kb b
     cases vhi with
     |none=>simp[Tz]at C
     | some u1=>cases vmx with
      |none=>simp[Tz]at G
      |some u2 =>
       rw[Tz,Rep]at C G;subst C G
       have e1:=h10 _ _ rfl
       have e2:=h9 _ _ rfl
       simp at L
       omega
    ·simp at L
   ·by_cases hz:B - l=0
    ·exact .inl hz
    ·right
     rcases hA with hA|⟨a,rfl,hj,hc⟩
     ·omega
     ·refine⟨a.add (l*sz'),by rw[if_neg (by omega)];rfl,by rw[Qn];exact hj,(SC hc _).take _⟩
 ·rename_i el b off n hu
  obtain⟨sz,hs,h1⟩:=ub T
  obtain⟨y,hy,h2⟩:=ub h1
  obtain⟨he,h3⟩:=uc h2
  obtain⟨hb,hd⟩:=Cw hl hy
  have he':sz=y.sz:=by simpa using he
  rw[Rep]at V
  obtain⟨x,A,cap,⟨D,hmp⟩,rfl,I,hr⟩:=V
  rw[hb]at D;simp at D;subst D
  obtain⟨l,B,m,h4,h5,h6,h7,h8,_,_,_,_,h9⟩:=Rw (P:=P) (isSlice:=true) h3 Y C G I
  refine⟨_,.slice (if m=l then A else A.map (·.add (l*sz))) (B - l) (m - l),h4,?_,?_⟩
  ·simp[Instr.sliceAt,Instr.slice,run_underlying hu,h9,B0 hs]
  ·rw[Rep]
   refine⟨y,_,_,⟨hb,hmp⟩,rfl,by omega,?_⟩
   by_cases hz:m - l=0
   ·exact .inl hz
   ·right
    rcases hr with hr|⟨kk,o,rfl,hr⟩
    ·omega
    ·refine⟨kk,o,by rw[if_neg (by omega)];simp[Addr.add_mid,Ai1],?_⟩
     rcases hr with hr|⟨r1,r2,r3⟩
     ·simp[hd]at hr
     ·refine .inr ⟨r1,?_,?_⟩
      ·have:l*sz+(m - l)*y.sz<=cap*y.sz:=by
        rw[he',<-Ahv];exact Ahp _ (by omega)
       omega
      ·have:l*sz+(B - l)*y.sz<=n*y.sz:=by
        rw[he',<-Ahv];exact Ahp _ (by omega)
       omega
 ·rename_i n el b off hu
  obtain⟨sz,hs,h1⟩:=ub T
  obtain⟨y,hy,h2⟩:=ub h1
  obtain⟨he,h3⟩:=uc h2
  simp at he
  obtain⟨e1,e2,e3,e4,e5⟩:=he
  subst e3;subst e4;subst e5
  obtain⟨hb,hd⟩:=Cw hl hy
  have nlo:vlo=none:=by cases vlo<;>simp_all[Tz]
  have nhi:vhi=none:=by cases vhi<;>simp_all[Tz]
  have nmx:vmx=none:=by cases vmx<;>simp_all[Tz]
  subst nlo;subst nhi;subst nmx
  rw[Rep]at V
  obtain⟨x,kk,o,⟨D,hmp⟩,rfl,hr⟩:=V
  rw[hb]at D;simp at D;subst D
  refine⟨_,.slice (some ⟨kk,o+off,none⟩) n n,h3,?_,?_⟩
  ·have e1:(Addr.add ⟨kk,o+off,none⟩ 0)=⟨kk,o+off,none⟩:=rfl
   simp[Instr.sliceAt,Instr.sureAddr,run_underlying hu,Instr.sliceBounds,B0 hs,e1]
  ·rw[Rep]
   refine⟨y,_,_,⟨hb,hmp⟩,rfl,Ahl _,.inr ⟨kk,o,rfl,?_⟩⟩
   rcases hr with hr|hr
   ·exact .inl hr
   ·rcases S.blk b y hb hd hmp with⟨hn',_⟩|⟨k',o',cs,ty',fr,hβ',g1,g2,g3,_⟩
    ·rw[hr]at hn';simp at hn'
    ·rw[hr]at hβ';simp at hβ';obtain⟨rfl,rfl⟩:=hβ'
     refine .inr ⟨hr,?_,?_⟩
     ·rw[e1,show Ay w kk=cs.size by simp[Ay,g1]];omega
     ·rw[e1];omega
 ·simp at T
def tA{t:TypeId}{x v:AV}{vx:Value}{ty:TypeId}(k:Ac1 P t x=some v)(C:Rep J β h w x vx):
  ∃ vc,(Builtin.len_ #[t] ty #[vx]).run P w=.ok vc w/\Rep J β h w v vc:=by
 unfold Ac1 at k
 split at k
 ·rename_i B
  simp at k;subst k;rw[Rep]at C;subst C
  exact⟨.int .i64 0,by simp[Builtin.len_,run_underlying B,goInt],by rw[Rep]⟩
 ·rename_i n _ _ _ B
  simp at k;subst k;rw[Rep,RepC]at C
  obtain⟨_,A,cap,rfl,_⟩:=C
  exact⟨.int .i64 n,by simp[Builtin.len_,run_underlying B,goInt],by rw[Rep]⟩
 ·rename_i n B
  simp at k;subst k;rw[Rep]at C
  obtain⟨_,A,cap,_,rfl,_⟩:=C
  exact⟨.int .i64 n,by simp[Builtin.len_,run_underlying B,goInt],by rw[Rep]⟩
 ·rename_i s B
  simp at k;subst k;rw[Rep]at C;subst C
  refine⟨.int .i64 s.length,?_,by rw[Rep]⟩
  have hs:(⟨⟨s⟩⟩:ByteArray).size=s.length:=rfl
  simp[Builtin.len_,run_underlying B,goInt,hs]
 ·rename_i n _ B
  simp at k;subst k
  exact⟨.int .i64 n,by simp[Builtin.len_,run_underlying B,goInt],by rw[Rep]⟩
 ·simp at k
def SE{J:Nat->Prop}:∀{x:AV}{u:Value},RepC J w x u->u.oneCell'=true
|.int ..,_,hr=>by rw[RepC]at hr;subst hr;rfl
|.bool _,_,hr=>by rw[RepC]at hr;subst hr;rfl
|.str _,_,hr=>by rw[RepC]at hr;subst hr;rfl
|.nsl,_,hr=>by rw[RepC]at hr;subst hr;rfl
|.imm ..,_,hr=>by rw[RepC]at hr;obtain⟨_,A,cap,rfl,_⟩:=hr;rfl
|.iptr ..,_,hr=>by rw[RepC]at hr;obtain⟨a,rfl,_⟩:=hr;rfl
|.nilptr,_,hr=>by rw[RepC]at hr;subst hr;rfl
|.nilfn,_,hr=>by rw[RepC]at hr;subst hr;rfl
|.fn _ [],_,hr=>by rw[RepC]at hr;subst hr;rfl
|.fn _ (_::_),_,hr=>by simp[RepC]at hr
|.pagg ..,_,hr=>by simp[RepC]at hr
|.agg _,_,hr=>by simp[RepC]at hr
|.tup _,_,hr=>by simp[RepC]at hr
|.own ..,_,hr=>by simp[RepC]at hr
|.optr ..,_,hr=>by simp[RepC]at hr
|.undef,_,hr=>by simp[RepC]at hr
|.omap _,_,hr=>by simp[RepC]at hr
def RepCs.one{J:Nat->Prop}{c:LA}{us:List Value}(A:RepCs J w c (fun j=>us[j]?) 0)(D:us.length=c.length):∀ u∈us,u.oneCell'=true:=by
 intro u B
 obtain⟨j,C,rfl⟩:=Ai0 B
 have v:j<c.length:=by omega
 obtain⟨G,k,hr⟩:=A.at (Ahk v)
 simp[Ahk C]at k
 rw[k];exact SE hr
structure Yield(P:Program)(w:World)(sz:Nat)(vx:Value)(n:Nat)(us:List Value):Prop where
 len:∀ w':World,(Builtin.lenOf vx).run P w'=.ok n w'
 cells:∀(w':World)(m:Nat),(∀ a,w'.cell? a=w.cell? a)->m<=n->(Builtin.firstCells sz m vx).run P w'=.ok (us.take (m*sz)).toArray w'
 length:us.length=n*sz
def aE{sz:Nat}{x:AV}{vx:Value}{q:LA×Nat×Bool}(S:SimH J β h w)(hl:Looks g h)(D:lG g sz x=some q)(G:Rep J β h w x vx):
  ∃ us:List Value,Yield P w sz vx q.2.1 us/\q.1.length=us.length/\RepCs (J q.2.2) w q.1 (fun j=>us[j]?) 0:=by
 have ofSlice:∀(a:Addr)(n cap:Nat)(us:List Value),us.length=n*sz->(∀ j u,us[j]?=some u->w.cell? (a.add j)=some u)->Yield P w sz (.slice (some a) n cap) n us:=fun a n cap us B hu =>
  ⟨fun _=>rfl,fun w' m C hm=>by
   have hle:m*sz<=n*sz:=Ahp _ hm
   refine run_firstCells_some (P:=P) w' sz m a n cap (us.take (m*sz)) (by simp;omega) (fun j v Y=>?_)
   rw[C]
   rw[Ajd]at Y
   split at Y
   ·exact hu j v Y
   ·simp at Y,B⟩
 have ofEmpty:∀(A:Option Addr)(cap:Nat),Yield P w sz (.slice A 0 cap) 0 []:=fun A cap =>
  ⟨fun _=>rfl,fun w' m C hm=>by
   have:m=0:=by omega
   subst this
   cases A with
   |none=>simp[run_firstCells_none]
   | some a=>have:=run_firstCells_some (P:=P) w' sz 0 a 0 cap [] (by simp) (fun j v Y=>by simp at Y);simpa using this,by simp⟩
 unfold lG at D
 split at D
 ·simp at D;subst D;rw[Rep]at G;subst G
  exact⟨[],ofEmpty _ _,rfl,by simp[RepCs]⟩
 ·rename_i c n sz' tight org
  obtain⟨C,L⟩:=uc D
  have he':sz'=sz:=by simp at C;exact C.symm
  subst he'
  simp at L;subst L
  rw[Rep,RepC]at G
  obtain⟨B,A,cap,rfl,hcap,ht,hA⟩:=G
  rcases hA with rfl|⟨a,rfl,hj,hc⟩
  ·have:c=[]:=by simpa using B
   subst this
   exact⟨[],ofEmpty _ _,rfl,by simp[RepCs]⟩
  ·obtain⟨us,I,h3,h4⟩:=hc.list
   exact⟨us,ofSlice a n cap us (by rw[I,B]) h3,I.symm,h4⟩
 ·rename_i b off n
  obtain⟨y,hy,L⟩:=ub D
  obtain⟨C,I⟩:=uc L
  obtain⟨hb,hd⟩:=Cw hl hy
  simp at C I
  obtain⟨hp,C⟩:=C
  subst I;subst C
  rw[Rep]at G
  obtain⟨x,A,cap,⟨T,hmp⟩,rfl,hcap,hr⟩:=G
  rw[hb]at T;simp at T;subst T
  rcases hr with hr|⟨kk,o,rfl,hr⟩
  ·have:n=0:=by omega
   subst this
   exact⟨[],ofEmpty _ _,by simp,by simp[RepCs]⟩
  ·rcases hr with hr|⟨r1,r2,r3⟩
   ·simp[hd]at hr
   ·rcases S.blk b y hb hd hmp with⟨hn,_⟩|⟨k',o',cs,ty,fr,V,g1,g2,g3,g4,g5,g6⟩
    ·rw[r1]at hn;simp at hn
    ·rw[r1]at V;simp at V;obtain⟨rfl,rfl⟩:=V
     obtain⟨us,I,h3,h4⟩:=(((g4.1 hp).drop off).take (n*y.sz)).list
     have B:us.length=n*y.sz:=by rw[I];simp;omega
     refine⟨us,ofSlice _ n cap us B (fun j u hj=>?_),I.symm,h4⟩
     have:=h3 j u hj
     rw[Addr.add_mid,M7 g1,Ai1];exact this
 ·rename_i s
  obtain⟨C,L⟩:=uc D
  simp at C L
  subst C;subst L
  rw[Rep]at G;subst G
  refine⟨s.map fun b=>.int .u8 (b.toNat:Int),⟨fun _=>rfl,fun w' m _ hm=>?_,by simp⟩,by simp,?_⟩
  ·simp[Builtin.firstCells]
  ·rw[Bn]
   intro j x hj
   simp at hj
   obtain⟨b,hb,rfl⟩:=hj
   exact⟨_,by simp[hb];rfl,by rw[RepC]⟩
 ·simp at D
def CU{C:TypeId}{sz:Nat}{x:AV}{vx:Value}{k:LA×Nat×Bool->O R}(S:SimH J β h w)(D:Looks g h)(B:PO P C g sz x k=some r)(G:Rep J β h w x vx):
  ∃(q:LA×Nat×Bool)(us:List Value),k q=some r/\Yield P w sz vx q.2.1 us/\q.1.length=us.length/\RepCs (J q.2.2) w q.1 (fun j=>us[j]?) 0:=by
 unfold PO at B
 obtain⟨q,hq,I⟩:=ub B
 obtain⟨us,Y,v,A⟩:=aE (P:=P) S D hq G
 obtain⟨o,L,T⟩:=N' I A
 exact⟨_,us,L,Y,v,T⟩
end
end Gx
namespace Gx
open Go
def HC{a b:Nat}(h:a≠b):beq a b=false:=by
 cases k:beq a b with
|false=>rfl
|true=>exact absurd (Aht k) h
def T8{a b:Nat}(h:beq a b=false):a≠b:=fun e=>by subst e;rw[Nat.beq_refl]at h;cases h
def Ag:∀(h:Aw)(b:Nat)(y:Blk)(c:Nat),Al (Ei h b y) c=if c=b then some y else Al h c
| [],b,y,c=>by
  by_cases e:c=b
  ·subst e;simp[Ei,Al]
  ·have:beq b c=false:=HC (fun e'=>e e'.symm)
   simp[Ei,Al,e,this]
| (i,x)::r,b,y,c=>by
  rw[Ei]
  cases A:beq i b with
  | true =>
   have k:i=b:=by simpa using A
   subst k
   by_cases e:c=i
   ·subst e;simp[Al]
   ·have:beq i c=false:=HC (fun e'=>e e'.symm)
    simp[Al,e,this]
  | false =>
   have k:i≠b:=T8 A
   cases C:Nat.blt b i with
   | true =>
    by_cases e:c=b
    ·subst e;simp[Al]
    ·have:beq b c=false:=HC (fun e'=>e e'.symm)
     simp[Al,e,this]
   | false =>
    simp only[cond_false]
    rw[Al]
    cases B:beq i c with
    |true =>
     have v:i=c:=by simpa using B
     subst v
     simp[Al,k]
    |false=>simp[Al,B,Ag r b y c]
def Ma:∀(h:Fq)(b:Nat)(y:AV)(c:Nat),E7 (PN h b y) c=if c=b then y else E7 h c
| [],b,y,c=>by
  by_cases e:c=b
  ·subst e;simp[PN,E7]
  ·have:beq b c=false:=HC (fun e'=>e e'.symm)
   simp[PN,E7,e,this]
| (i,x)::r,b,y,c=>by
  rw[PN]
  cases A:beq i b with
  | true =>
   have k:i=b:=by simpa using A
   subst k
   by_cases e:c=i
   ·subst e;simp[E7]
   ·have:beq i c=false:=HC (fun e'=>e e'.symm)
    simp[E7,e,this]
  | false =>
   have k:i≠b:=T8 A
   cases C:Nat.blt b i with
   | true =>
    by_cases e:c=b
    ·subst e;simp[E7]
    ·have:beq b c=false:=HC (fun e'=>e e'.symm)
     simp[E7,e,this]
   | false =>
    simp only[cond_false]
    rw[E7]
    cases B:beq i c with
    |true =>
     have v:i=c:=by simpa using B
     subst v
     simp[E7,k]
    |false=>simp[E7,B,Ma r b y c]
def qD(β:Bx)(h:Aw)(k:Nat):Prop:=∃ b x o,Al h b=some x/\x.dead=false/\x.sealed=false/\β b=some (k,o)
structure Step(J:Bool->Nat->Prop)(β:Bx)(h:Aw)(w:World)(J':Bool->Nat->Prop)(β':Bx)(h':Aw)(w':World):Prop where
 ext:Ext J β h w J' β' h' w'
 sim:SimH J' β' h' w'
 os:w'.os=w.os
 tape:w'.tape=w.tape
 output:w'.output=w.output
 size:w.heap.size<=w'.heap.size
 frame:∀ k,k<w.heap.size->¬ qD β h k->w'.heap[k]?=w.heap[k]?
 wr:∀ k,qD β' h' k->k<w.heap.size->qD β h k
 jup:∀ o k,J' o k->J o k\/qD β h k\/w.heap.size<=k
section
variable{J J' J'':Bool->Nat->Prop}{β β' β'':Bx}{h h' h'':Aw}{w w' w'':World}
def Ext.refl:Ext J β h w J β h w:=⟨fun _ _ k=>k,fun _ _ _=>rfl,fun b x v=>⟨x,⟨v,rfl⟩,by cases A:x.dead<;>simp⟩,fun _ _ _ _=>Ahl _⟩
def Ext.trans(A:Ext J β h w J' β' h' w')(B:Ext J' β' h' w' J'' β'' h'' w'')(hs:∀ b k o,β b=some (k,o)->Ay w k<=Ay w'' k):Ext J β h w J'' β'' h'' w'' where
 jsub o k C:=B.jsub o k (A.jsub o k C)
 keep o k C:=(B.keep o k (A.jsub o k C)).trans (A.keep o k C)
 blk b x I:=by
  obtain⟨x',⟨L,m1⟩,D⟩:=A.blk b x I
  obtain⟨x'',⟨T,m3⟩,v⟩:=B.blk b x' L
  refine⟨x'',⟨T,m3.trans m1⟩,?_⟩
  rcases v with v|⟨v,V,Y,h7⟩
  ·exact .inl v
  ·rcases D with D|⟨g1,g2,g3,g4⟩
   ·simp[v]at D
   ·exact .inr ⟨g1,V.trans g2,Y.trans g3,fun G=>(h7 (m1.trans G)).trans (g4 G)⟩
 size:=hs
def Step.refl(S:SimH J β h w):Step J β h w J β h w:=⟨Ext.refl,S,rfl,rfl,rfl,Ahl _,fun _ _ _=>rfl,fun _ k _=>k,fun _ _ v=>.inl v⟩
def Step.trans(A:Step J β h w J' β' h' w')(B:Step J' β' h' w' J'' β'' h'' w'')(hs:∀ b k o,β b=some (k,o)->Ay w k<=Ay w'' k):Step J β h w J'' β'' h'' w'' where
 ext:=A.ext.trans B.ext hs
 sim:=B.sim
 os:=B.os.trans A.os
 tape:=B.tape.trans A.tape
 output:=B.output.trans A.output
 size:=Aje A.size B.size
 frame k v D:=(B.frame k (Ah6 v A.size) (fun G=>D (A.wr k G v))).trans (A.frame k v D)
 wr k D v:=A.wr k (B.wr k D (Ah6 v A.size)) v
 jup o k I:=by
  rcases B.jup o k I with C|C|C
  ·exact A.jup o k C
  ·by_cases v:k<w.heap.size
   ·exact .inr (.inl (A.wr k C v))
   ·exact .inr (.inr (by omega))
  ·exact .inr (.inr (Aje A.size C))
def CellsRep.ext(E:Ext J β h w J' β' h' w'){x:Blk}{rd:Nat->Option Value}(v:CellsRep J β h w x rd):CellsRep J' β' h' w' x rd :=
 ⟨fun k=>RepCs.keep (E.jsub _) (E.keep _) (fun _=>rfl) (v.1 k),fun k j c A=>by
  obtain⟨u,B,C,D⟩:=v.2 k j c A
  exact⟨u,B,Rep.ext E C,D⟩⟩
def C9{k:Nat}{cs:Array Value}{ty:TypeId}{fr:Nat×Nat}(v:w.heap[k]?=some (.cells cs ty fr)):Ay w k=cs.size:=by simp[Ay,v]
def Uz{k:Nat}{o:Obj}(B:w.heap[k]?=some o):k<w.heap.size:=by
 rcases Amh k w.heap.size with v|A
 ·exact v
 ·rw[Ajc A]at B;cases B
def MapRep.keep{b:Nat}{x:Blk}(M:MapRep J β w b x)(A:β' b=β b)(B:∀ k o,β b=some (k,o)->w'.heap[k]?=w.heap[k]?)(C:∀ g k o,β b=some (k,o)->J' g k->J g k):MapRep J' β' w' b x:=by
 obtain⟨D,G,k,ob,v,I,L,T⟩:=M
 exact⟨D,G,k,ob,by rw[A];exact v,by rw[B k 0 v];exact I,L,fun g V=>T g (C g k 0 v V)⟩
def Step.drew(S:SimH J β h w):Step J β h w J β h w.drew where
 ext:=⟨fun _ _ v=>v,fun _ _ _=>rfl,fun b x A=>⟨x,⟨A,rfl⟩,by cases B:x.dead<;>simp⟩,fun _ _ _ _=>Ahl _⟩
 sim:=by
  have E:Ext J β h w J β h w.drew:=⟨fun _ _ v=>v,fun _ _ _=>rfl,fun b x A=>⟨x,⟨A,rfl⟩,by cases B:x.dead<;>simp⟩,fun _ _ _ _=>Ahl _⟩
  refine⟨S.jlt,S.jft,S.gl.ext E,fun b x A B C=>?_,fun b x A B C=>(S.mblk b x A B C).keep rfl (fun _ _ _=>rfl) (fun _ _ _ _ v=>v),S.sep⟩
  rcases S.blk b x A B C with D|⟨k,o,cs,ty,fr,D,G,I,L,T,V⟩
  ·exact .inl D
  ·exact .inr ⟨k,o,cs,ty,fr,D,G,I,L,T.ext E,V⟩
 os:=rfl
 tape:=rfl
 output:=rfl
 size:=Ahl _
 frame _ _ _:=rfl
 wr _ C _:=C
 jup _ _ v:=.inl v
def C2(w:World)(o:Obj){k:Nat}(v:k<w.heap.size):(w.alloc o).heap[k]?=w.heap[k]?:=by
 show(w.heap.push o)[k]?=_
 rw[Array.getElem?_push,if_neg (by omega)]
def Qp(S:SimH J β h w){b:Nat}{x:Blk}{k o:Nat}(C:Al h b=some x)(D:x.dead=false)(A:β b=some (k,o)):k<w.heap.size:=by
 cases G:x.mp with
|false =>
  rcases S.blk b x C D G with⟨hn,_⟩|⟨I,o',cs,ty,fr,v,B,_⟩
  ·rw[A]at hn;simp at hn
  ·rw[A]at v;simp at v;obtain⟨rfl,rfl⟩:=v;exact Uz B
|true =>
  obtain⟨_,_,I,ob,v,B,_⟩:=S.mblk b x C D G
  rw[A]at v;simp at v;obtain⟨rfl,_⟩:=v;exact Uz B
def Step.new(S:SimH J β h w){d:Nat}{x:Blk}{cs:Array Value}{ty:TypeId}{fr:Nat×Nat}(hn:Al h d=none)(hxd:x.dead=false)(hxs:x.sealed=false)
  (hfr:FrTy x.ty ty 0 cs.size fr) (hlen:x.cells.length<=cs.size) (hc:CellsRep J β h w x (fun j=>cs[j]?)) (hxm:x.mp=false:=by rfl) :
  Step J β h w J (fun b=>if b=d then some (w.heap.size,0)else β b) (Ei h d x) (w.alloc (.cells cs ty fr)):=by
 have ne:∀{b y},Al h b=some y->b≠d:=fun v e=>by subst e;rw[hn]at v;cases v
 have E:Ext J β h w J (fun b=>if b=d then some (w.heap.size,0)else β b) (Ei h d x) (w.alloc (.cells cs ty fr)):=by
  refine⟨fun _ _ B=>B,fun o k B=>C2 w _ (S.jlt o k B),fun b y v=>⟨y,⟨by rw[Ag,if_neg (ne v)];exact v,rfl⟩,?_⟩,fun b k o A=>?_⟩
  ·cases G:y.dead
   ·exact .inr ⟨rfl,by simp[ne v],rfl,fun _=>rfl⟩
   ·exact .inl rfl
  ·by_cases I:k<w.heap.size
   ·simp[Ay,C2 w _ I]
   ·simp[Ay,Ajc (Aju I)]
 have L:(w.alloc (.cells cs ty fr)).heap[w.heap.size]?=some (.cells cs ty fr):=by
  show(w.heap.push _)[_]?=_;simp
 have hsz:(w.alloc (.cells cs ty fr)).heap.size=w.heap.size+1:=by show(w.heap.push _).size=_;simp
 refine⟨E,⟨fun o k B=>by have:=S.jlt o k B;omega,S.jft,S.gl.ext E,fun b y v G V=>?_,fun b y v G V=>by
   rw[Ag]at v
   by_cases e:b=d
   ·rw[if_pos e]at v;simp at v;subst v;simp[hxm]at V
   ·rw[if_neg e]at v
    exact(S.mblk b y v G V).keep (by simp[e]) (fun k o A=>C2 w _ (Qp S v G A)) (fun _ _ _ _ B=>B),?_⟩,rfl,rfl,rfl,by omega,fun k I _=>C2 w _ I,?_,fun _ _ B=>.inl B⟩
 ·rw[Ag]at v
  by_cases e:b=d
  ·subst e;simp at v;subst v
   exact .inr ⟨w.heap.size,0,cs,ty,fr,by simp,L,hfr,by omega,by simpa using hc.ext E,fun _ g B=>by have:=S.jlt g _ B;omega,fun hs=>by simp[hxs]at hs⟩
  ·rw[if_neg e]at v
   rcases S.blk b y v G V with Y|⟨k,o,cs',ty',fr',Y,h2,h3,h4,h5,h6⟩
   ·exact .inl ⟨by simp[e,Y.1],Y.2⟩
   ·exact .inr ⟨k,o,cs',ty',fr',by simp[e,Y],by rw[C2 w _ (Uz h2)];exact h2,h3,h4,h5.ext E,h6⟩
 ·intro b b' y y' k o o' v C G T hs A D
  rw[Ag]at v C
  by_cases e:b=d<;>by_cases e':b'=d
  ·rw[e,e']
  ·rw[if_neg e']at C
   simp[e]at A;simp[e']at D
   have:=Qp S C T D;omega
  ·rw[if_neg e]at v
   simp[e']at D;simp[e]at A
   have:=Qp S v G A;omega
  ·rw[if_neg e]at v;rw[if_neg e']at C
   simp[e]at A;simp[e']at D
   exact S.sep b b' y y' k o o' v C G T hs A D
 ·rintro k ⟨b,y,o,v,G,hs,A⟩ I
  rw[Ag]at v
  by_cases e:b=d
  ·simp[e]at A;omega
  ·rw[if_neg e]at v;simp[e]at A
   exact⟨b,y,o,v,G,hs,A⟩
def Step.newNone(S:SimH J β h w){d:Nat}{x:Blk}(hn:Al h d=none)(hc:x.cells=[])(T:x.mp=false:=by rfl):
  Step J β h w J (fun b=>if b=d then none else β b) (Ei h d x) w:=by
 have ne:∀{b y},Al h b=some y->b≠d:=fun v e=>by subst e;rw[hn]at v;cases v
 have E:Ext J β h w J (fun b=>if b=d then none else β b) (Ei h d x) w:=by
  refine⟨fun _ _ G=>G,fun o k G=>rfl,fun b y v=>⟨y,⟨by rw[Ag,if_neg (ne v)];exact v,rfl⟩,?_⟩,fun b k o A=>Ahl _⟩
  cases B:y.dead
  ·exact .inr ⟨rfl,by simp[ne v],rfl,fun _=>rfl⟩
  ·exact .inl rfl
 refine⟨E,⟨S.jlt,S.jft,S.gl.ext E,fun b y v B I=>?_,fun b y v B I=>by
   rw[Ag]at v
   by_cases e:b=d
   ·rw[if_pos e]at v;simp at v;subst v;simp[T]at I
   ·rw[if_neg e]at v
    exact(S.mblk b y v B I).keep (by simp[e]) (fun k o A=>rfl) (fun _ _ _ _ G=>G),?_⟩,rfl,rfl,rfl,Ahl _,fun k hk _=>rfl,?_,fun _ _ G=>.inl G⟩
 ·rw[Ag]at v
  by_cases e:b=d
  ·subst e;simp at v;subst v
   exact .inl ⟨by simp,hc⟩
  ·rw[if_neg e]at v
   rcases S.blk b y v B I with L|⟨k,o,V,Y,fr',L,h2,h3,h4,h5,h6⟩
   ·exact .inl ⟨by simp[e,L.1],L.2⟩
   ·exact .inr ⟨k,o,V,Y,fr',by simp[e,L],h2,h3,h4,h5.ext E,h6⟩
 ·intro b b' y y' k o o' v C B hd' hs A D
  rw[Ag]at v C
  by_cases e:b=d
  ·simp[e]at A
  ·by_cases e':b'=d
   ·simp[e']at D
   ·rw[if_neg e]at v;rw[if_neg e']at C
    simp[e]at A;simp[e']at D
    exact S.sep b b' y y' k o o' v C B hd' hs A D
 ·rintro k ⟨b,y,o,v,B,hs,A⟩ hk
  rw[Ag]at v
  by_cases e:b=d
  ·simp[e]at A
  ·rw[if_neg e]at v;simp[e]at A
   exact⟨b,y,o,v,B,hs,A⟩
def Step.newObj(S:SimH J β h w){d:Nat}{x:Blk}{ob:Obj}(hn:Al h d=none)(hxd:x.dead=false)(hxs:x.sealed=false)(hxp:x.pure=true)(hxc:ObjIs x ob)(hxm:x.mp=true):
  Step J β h w J (fun b=>if b=d then some (w.heap.size,0)else β b) (Ei h d x) (w.alloc ob):=by
 have ne:∀{b y},Al h b=some y->b≠d:=fun v e=>by subst e;rw[hn]at v;cases v
 have E:Ext J β h w J (fun b=>if b=d then some (w.heap.size,0)else β b) (Ei h d x) (w.alloc ob):=by
  refine⟨fun _ _ B=>B,fun o k B=>C2 w _ (S.jlt o k B),fun b y v=>⟨y,⟨by rw[Ag,if_neg (ne v)];exact v,rfl⟩,?_⟩,fun b k o A=>?_⟩
  ·cases G:y.dead
   ·exact .inr ⟨rfl,by simp[ne v],rfl,fun _=>rfl⟩
   ·exact .inl rfl
  ·by_cases I:k<w.heap.size
   ·simp[Ay,C2 w _ I]
   ·simp[Ay,Ajc (Aju I)]
 have L:(w.alloc ob).heap[w.heap.size]?=some ob:=by
  show(w.heap.push _)[_]?=_;simp
 have hsz:(w.alloc ob).heap.size=w.heap.size+1:=by show(w.heap.push _).size=_;simp
 refine⟨E,⟨fun o k B=>by have:=S.jlt o k B;omega,S.jft,S.gl.ext E,fun b y v G V=>?_,fun b y v G V=>?_,?_⟩,rfl,rfl,rfl,by omega,fun k I _=>C2 w _ I,?_,fun _ _ B=>.inl B⟩
 ·rw[Ag]at v
  by_cases e:b=d
  ·rw[if_pos e]at v;simp at v;subst v;simp[hxm]at V
  ·rw[if_neg e]at v
   rcases S.blk b y v G V with Y|⟨k,o,cs',ty',fr',Y,h2,h3,h4,h5,h6⟩
   ·exact .inl ⟨by simp[e,Y.1],Y.2⟩
   ·exact .inr ⟨k,o,cs',ty',fr',by simp[e,Y],by rw[C2 w _ (Uz h2)];exact h2,h3,h4,h5.ext E,h6⟩
 ·rw[Ag]at v
  by_cases e:b=d
  ·rw[if_pos e]at v;simp at v;subst v
   exact⟨hxp,hxs,w.heap.size,ob,by simp[e],L,hxc,fun g B=>by have:=S.jlt g _ B;omega⟩
  ·rw[if_neg e]at v
   exact(S.mblk b y v G V).keep (by simp[e]) (fun k o A=>C2 w _ (Qp S v G A)) (fun _ _ _ _ B=>B)
 ·intro b b' y y' k o o' v C G T hs A D
  rw[Ag]at v C
  by_cases e:b=d<;>by_cases e':b'=d
  ·rw[e,e']
  ·rw[if_neg e']at C
   simp[e]at A;simp[e']at D
   have:=Qp S C T D;omega
  ·rw[if_neg e]at v
   simp[e']at D;simp[e]at A
   have:=Qp S v G A;omega
  ·rw[if_neg e]at v;rw[if_neg e']at C
   simp[e]at A;simp[e']at D
   exact S.sep b b' y y' k o o' v C G T hs A D
 ·rintro k ⟨b,y,o,v,G,hs,A⟩ I
  rw[Ag]at v
  by_cases e:b=d
  ·simp[e]at A;omega
  ·rw[if_neg e]at v;simp[e]at A
   exact⟨b,y,o,v,G,hs,A⟩
def Step.kill(S:SimH J β h w){d:Nat}{x y:Blk}(hx:Al h d=some x)(C:y.dead=true)(L:y.mp=x.mp:=by rfl):Step J β h w J β (Ei h d y) w:=by
 have E:Ext J β h w J β (Ei h d y) w:=by
  refine⟨fun _ _ D=>D,fun o k D=>rfl,fun b z v=>?_,fun b k o G=>Ahl _⟩
  by_cases e:b=d
  ·subst e;rw[hx]at v;simp at v;subst v;exact⟨y,⟨by rw[Ag,if_pos rfl],L⟩,.inl C⟩
  ·refine⟨z,⟨by rw[Ag,if_neg e];exact v,rfl⟩,?_⟩
   cases B:z.dead
   ·exact .inr ⟨rfl,rfl,rfl,fun _=>rfl⟩
   ·exact .inl rfl
 refine⟨E,⟨S.jlt,S.jft,S.gl.ext E,fun b z v B T=>?_,fun b z v B T=>by
   rw[Ag]at v
   by_cases e:b=d
   ·rw[if_pos e]at v;simp at v;subst v;simp[C]at B
   ·rw[if_neg e]at v
    exact(S.mblk b z v B T).keep rfl (fun k o G=>rfl) (fun _ _ _ _ D=>D),?_⟩,rfl,rfl,rfl,Ahl _,fun k hk _=>rfl,?_,fun _ _ D=>.inl D⟩
 ·rw[Ag]at v
  by_cases e:b=d
  ·rw[if_pos e]at v;simp at v;subst v;simp[C]at B
  ·rw[if_neg e]at v
   rcases S.blk b z v B T with V|⟨k,o,Y,ty',fr',V,h2,h3,h4,h5,h6⟩
   ·exact .inl V
   ·exact .inr ⟨k,o,Y,ty',fr',V,h2,h3,h4,h5.ext E,h6⟩
 ·intro b b' z z' k o o' v A B I hs G hβ'
  rw[Ag]at v A
  by_cases e:b=d
  ·rw[if_pos e]at v;simp at v;subst v;simp[C]at B
  ·by_cases e':b'=d
   ·rw[if_pos e']at A;simp at A;subst A;simp[C]at I
   ·rw[if_neg e]at v;rw[if_neg e']at A
    exact S.sep b b' z z' k o o' v A B I hs G hβ'
 ·rintro k ⟨b,z,o,v,B,hs,G⟩ hk
  rw[Ag]at v
  by_cases e:b=d
  ·rw[if_pos e]at v;simp at v;subst v;simp[C]at B
  ·rw[if_neg e]at v
   exact⟨b,z,o,v,B,hs,G⟩
def Step.giveUp(S:SimH J β h w){d k o:Nat}{x y:Blk}(hx:Al h d=some x)(hd:x.dead=false)(hs:x.sealed=false)(hβ:β d=some (k,o))(hxm:x.mp=false)(hy:y.dead=true)
  (other:∀ j,j≠k->w'.heap[j]?=w.heap[j]?) (size:w'.heap.size=w.heap.size) (os:w'.os=w.os) (tape:w'.tape=w.tape) (output:w'.output=w.output) (hsz:Ay w k<=Ay w' k) (hym:y.mp=x.mp:=by rfl) :
  Step J β h w J β (Ei h d y) w':=by
 have nj:∀ g j,J g j->j≠k:=fun g j C e=>by
  subst e
  rcases S.blk d x hx hd hxm with⟨D,_⟩|⟨k',o',cs0,ty0,fr0,G,h2,L,h4,h5,h6,h7⟩
  ·rw[hβ]at D;simp at D
  ·rw[hβ]at G;simp at G;obtain⟨rfl,rfl⟩:=G
   exact h6 hs g C
 have E:Ext J β h w J β (Ei h d y) w':=by
  refine⟨fun _ _ C=>C,fun o j C=>other j (nj o j C),fun b z v=>?_,fun b j oo v=>?_⟩
  ·by_cases e:b=d
   ·subst e;rw[hx]at v;simp at v;subst v;exact⟨y,⟨by rw[Ag,if_pos rfl],hym⟩,.inl hy⟩
   ·refine⟨z,⟨by rw[Ag,if_neg e];exact v,rfl⟩,?_⟩
    cases hd:z.dead
    ·exact .inr ⟨rfl,rfl,rfl,fun _=>rfl⟩
    ·exact .inl rfl
  ·by_cases e:j=k
   ·subst e;exact hsz
   ·simp[Ay,other j e]
 have live:∀{b z},Al (Ei h d y) b=some z->z.dead=false->b≠d/\Al h b=some z:=fun{b z} v A=>by
  rw[Ag]at v
  by_cases e:b=d
  ·rw[if_pos e]at v;simp at v;subst v;simp[hy]at A
  ·rw[if_neg e]at v;exact⟨e,v⟩
 have apart:∀{b z j oo},b≠d->Al h b=some z->z.dead=false->β b=some (j,oo)->j≠k:=fun{b z j oo} e v A B ej=>by
  subst ej;exact e (S.sep d b x z j o oo hx v hd A hs hβ B).symm
 refine⟨E,⟨fun g j C=>by rw[size];exact S.jlt g j C,S.jft,S.gl.ext E,fun b z v A T=>?_,fun b z v A T=>by
   obtain⟨e,v⟩:=live v A
   exact(S.mblk b z v A T).keep rfl (fun j oo B=>other j (apart e v A B)) (fun _ _ _ _ C=>C),fun b b' z z' j oo oo' v hb' A V I B Y=>?_⟩,os,tape,output,by rw[size];exact Ahl _,fun j C T=>other j (fun e=>by subst e;exact T ⟨d,x,o,hx,hd,hs,hβ⟩),?_,fun _ _ C=>.inl C⟩
 ·obtain⟨e,v⟩:=live v A
  rcases S.blk b z v A T with D|⟨j,oo,cs,ty,fr,D,h2,L⟩
  ·exact .inl D
  ·exact .inr ⟨j,oo,cs,ty,fr,D,by rw[other j (apart e v A D)];exact h2,L.1,L.2.1,L.2.2.1.ext E,L.2.2.2⟩
 ·exact S.sep b b' z z' j oo oo' (live v A).2 (live hb' V).2 A V I B Y
 ·rintro j ⟨b,z,oo,v,A,I,B⟩ _
  exact⟨b,z,oo,(live v A).2,A,I,B⟩
end
end Gx
namespace Gx
open Go
section
variable{J J' J'':Bool->Nat->Prop}{β β' β'':Bx}{h h' h'':Aw}{w w' w'':World}
def Step.shutB(S:SimH J β h w){d:Nat}{x:Blk}(V:Al h d=some x)(G:x.dead=false)(Y:x.mp=false):
  Step J β h w (fun o k=>J o k\/∃ o',β d=some (k,o')/\(x.taint=true->o=true)) β (Ei h d {x with sealed:=true}) w:=by
 have E:Ext J β h w (fun o k=>J o k\/∃ o',β d=some (k,o')/\(x.taint=true->o=true)) β (Ei h d {x with sealed:=true}) w:=by
  refine⟨fun _ _ B=>.inl B,fun o k B=>rfl,fun b z v=>?_,fun b k o A=>Ahl _⟩
  by_cases e:b=d
  ·subst e;rw[V]at v;simp at v;subst v
   exact⟨{x with sealed:=true},⟨by rw[Ag,if_pos rfl],rfl⟩,.inr ⟨G,rfl,rfl,fun _=>rfl⟩⟩
  ·refine⟨z,⟨by rw[Ag,if_neg e];exact v,rfl⟩,?_⟩
   cases G:z.dead
   ·exact .inr ⟨rfl,rfl,rfl,fun _=>rfl⟩
   ·exact .inl rfl
 refine⟨E,⟨?_,?_,S.gl.ext E,fun b z v D hm=>?_,fun b z v D hm=>by
   rw[Ag]at v
   by_cases e:b=d
   ·rw[if_pos e]at v;simp at v;subst v;simp[Y]at hm
   ·rw[if_neg e]at v
    have M:=S.mblk b z v D hm
    refine M.keep rfl (fun k o A=>rfl) (fun g k o A B=>?_)
    rcases B with B|⟨o',hβ',_⟩
    ·exact B
    ·exact absurd (S.sep b d z x k o o' v V D G M.2.1 A hβ') e,?_⟩,rfl,rfl,rfl,Ahl _,fun k hk _=>rfl,?_,?_⟩
 ·rintro o k (B|⟨o',A,_⟩)
  ·exact S.jlt o k B
  ·exact Qp S V G A
 ·rintro k (B|⟨o',A,ht⟩)
  ·exact .inl (S.jft k B)
  ·exact .inr ⟨o',A,fun _=>rfl⟩
 ·rw[Ag]at v
  by_cases e:b=d
  ·rw[if_pos e]at v;simp at v;subst v;subst e
   rcases S.blk b x V G Y with C|⟨k,o,I,L,T,C,h2,h3,h4,h5,h6,h7⟩
   ·exact .inl C
   ·exact .inr ⟨k,o,I,L,T,C,h2,h3,h4,h5.ext E,fun hs=>by simp at hs,fun _=>.inr ⟨o,C,id⟩⟩
  ·rw[if_neg e]at v
   rcases S.blk b z v D hm with C|⟨k,o,I,L,T,C,h2,h3,h4,h5,h6,h7⟩
   ·exact .inl C
   ·refine .inr ⟨k,o,I,L,T,C,h2,h3,h4,h5.ext E,fun hs g B=>?_,fun hs=>.inl (h7 hs)⟩
    rcases B with B|⟨o',A,_⟩
    ·exact h6 hs g B
    ·exact e (S.sep b d z x k o o' v V D G hs C A)
 ·intro b b' z z' k o o' v hb' hd1 hd2 hs A hβ'
  have get:∀{c y},Al (Ei h d {x with sealed:=true}) c=some y->y.dead=false->∃ y',Al h c=some y'/\y'.dead=false/\(y.sealed=false->y'.sealed=false):=by
   intro c y hc hyd
   rw[Ag]at hc
   by_cases e:c=d
   ·subst e;exact⟨x,V,G,fun hs=>by simp at hc;subst hc;simp at hs⟩
   ·rw[if_neg e]at hc;exact⟨y,hc,hyd,id⟩
  obtain⟨y1,g1,g2,g3⟩:=get v hd1
  obtain⟨y2,g4,g5,g6⟩:=get hb' hd2
  exact S.sep b b' y1 y2 k o o' g1 g4 g2 g5 (g3 hs) A hβ'
 ·rintro k ⟨b,z,o,v,D,hs,A⟩ hk
  rw[Ag]at v
  by_cases e:b=d
  ·rw[if_pos e]at v;simp at v;subst v;simp at hs
  ·rw[if_neg e]at v
   exact⟨b,z,o,v,D,hs,A⟩
 ·rintro o k (B|⟨o',A,ht⟩)
  ·exact .inl B
  ·cases hs:x.sealed with
   |false=>exact .inr (.inl ⟨d,x,o',V,G,hs,A⟩)
   | true =>
    left
    rcases S.blk d x V G Y with⟨C,_⟩|⟨k',o1,I,L,T,C,h2,h3,h4,h5,h6,h7⟩
    ·rw[A]at C;simp at C
    ·rw[A]at C;simp at C;obtain⟨rfl,rfl⟩:=C
     have:=h7 hs
     cases htt:x.taint with
     |true=>rw[htt]at this;rw[ht htt];exact this
     |false =>
      rw[htt]at this
      cases o
      ·exact this
      ·exact S.jft _ this
structure OnlyBlk(w w':World)(k:Nat)(cs cs':Array Value)(ty:TypeId)(fr:Nat×Nat):Prop where
 old:w.heap[k]?=some (.cells cs ty fr)
 new:w'.heap[k]?=some (.cells cs' ty fr)
 sz:cs'.size=cs.size
 other:∀ j,j≠k->w'.heap[j]?=w.heap[j]?
 size:w'.heap.size=w.heap.size
 os:w'.os=w.os
 tape:w'.tape=w.tape
 output:w'.output=w.output
def OnlyBlk.setCell{k i:Nat}{cs:Array Value}{ty:TypeId}{fr:Nat×Nat}(v:w.heap[k]?=some (.cells cs ty fr))(u:Value):
  OnlyBlk w (w.setCell ⟨k,i,none⟩ u) k cs (cs.setIfInBounds i u) ty fr:=by
 refine⟨v,?_,by simp,fun j A=>?_,by simp[World.setCell],rfl,rfl,rfl⟩
 ·simp[World.setCell,Ai6,v]
 ·simp only[World.setCell,Ai6];rw[if_neg (fun e=>A e.symm)]
def OnlyBlk.setCells{k:Nat}{ty:TypeId}{fr:Nat×Nat}:∀(us:List Value)(i:Nat)(w:World)(cs:Array Value),w.heap[k]?=some (.cells cs ty fr) ->
  ∃ v,OnlyBlk w (w.setCells k i us) k cs v ty fr/\∀ j,v[j]?=if i<=j/\j<i+us.length/\j<cs.size then us[j - i]? else cs[j]?
|[],i,w,cs,C=>⟨cs,⟨C,C,rfl,fun _ _=>rfl,rfl,rfl,rfl,rfl⟩,fun j=>by rw[if_neg (by simp;omega)]⟩
| u::us,i,w,cs,C=>by
  have A:=OnlyBlk.setCell (i:=i) C u
  obtain⟨v,B,hB⟩:=OnlyBlk.setCells us (i+1) (w.setCell ⟨k,i,none⟩ u) _ A.new
  refine⟨v,⟨C,B.new,B.sz.trans A.sz,fun j D=>(B.other j D).trans (A.other j D),B.size.trans A.size,B.os.trans A.os,B.tape.trans A.tape,B.output.trans A.output⟩,fun j=>?_⟩
  rw[hB j]
  simp only[Amz,Ah8]
  by_cases D:j=i
  ·subst D
   rw[if_neg (by omega)]
   by_cases hs:j<cs.size
   ·rw[if_pos (by omega)];simp[hs]
   ·rw[if_neg (by omega)];simp[hs]
  ·by_cases G:i+1<=j/\j<i+1+us.length/\j<cs.size
   ·rw[if_pos G,if_pos (by omega),show j - i=(j - (i+1))+1 by omega];simp
   ·rw[if_neg G,if_neg (by omega),Aly (by omega)]
def Step.set(S:SimH J β h w){d k o:Nat}{x x':Blk}{cs G:Array Value}{ty:TypeId}{fr:Nat×Nat}(I:Al h d=some x)(C:x.dead=false)(hs:x.sealed=false)(Y:β d=some (k,o))
  (O:OnlyBlk w w' k cs G ty fr) (hd':x'.dead=false) (hs':x'.sealed=false) (hz:x'.sz=x.sz) (hl:x'.cells.length=x.cells.length) (hc:CellsRep J β h w x' (fun j=>G[o+j]?)) (hxm:x.mp=false) (D:x'.mp=x.mp:=by rfl) (hty:x'.ty=x.ty:=by rfl) :
  Step J β h w J β (Ei h d x') w':=by
 obtain⟨k',o',cs0,ty0,fr0,L,h2,h3,h4,h5,h6,h7⟩:∃ k' o' cs0 ty0 fr0,β d=some (k',o')/\w.heap[k']?=some (.cells cs0 ty0 fr0) /\
   FrTy x.ty ty0 o' cs0.size fr0/\o'+x.cells.length<=cs0.size/\CellsRep J β h w x (fun j=>cs0[o'+j]?)/\(x.sealed=false->∀ g,¬ J g k')/\(x.sealed=true->J x.taint k'):=by
  rcases S.blk d x I C hxm with⟨h1,_⟩|h1
  ·rw[Y]at h1;simp at h1
  ·exact h1
 rw[Y]at L;simp at L;obtain⟨rfl,rfl⟩:=L
 rw[O.old]at h2;simp at h2;obtain⟨rfl,rfl,rfl⟩:=h2
 have nj:∀ g j,J g j->j≠k:=fun g j B e=>by subst e;exact h6 hs g B
 have E:Ext J β h w J β (Ei h d x') w':=by
  refine⟨fun _ _ B=>B,fun o j B=>O.other j (nj o j B),fun b z v=>?_,fun b j oo v=>?_⟩
  ·by_cases e:b=d
   ·subst e;rw[I]at v;simp at v;subst v
    exact⟨_,⟨by rw[Ag,if_pos rfl],D⟩,.inr ⟨C,rfl,hz,fun _=>hl⟩⟩
   ·refine⟨z,⟨by rw[Ag,if_neg e];exact v,rfl⟩,?_⟩
    cases C:z.dead
    ·exact .inr ⟨rfl,rfl,rfl,fun _=>rfl⟩
    ·exact .inl rfl
  ·by_cases e:j=k
   ·subst e;rw[C9 O.old,C9 O.new,O.sz];exact Ahl _
   ·simp[Ay,O.other j e]
 refine⟨E,⟨fun g j B=>by rw[O.size];exact S.jlt g j B,S.jft,S.gl.ext E,fun b z v A hm=>?_,fun b z v A hm=>by
   rw[Ag]at v
   by_cases e:b=d
   ·rw[if_pos e]at v;simp at v;subst v;simp[D,hxm]at hm
   ·rw[if_neg e]at v
    exact(S.mblk b z v A hm).keep rfl (fun T o2 V=>O.other T (fun e2=>by subst e2;exact e (S.sep d b x z T o o2 I v C A hs Y V).symm)) (fun _ _ _ _ B=>B),?_⟩,O.os,O.tape,O.output,by rw[O.size];exact Ahl _,fun j B hm=>?_,?_,fun _ _ B=>.inl B⟩
 ·rw[Ag]at v
  by_cases e:b=d
  ·rw[if_pos e]at v;simp at v;subst v;subst e
   refine .inr ⟨k,o,G,ty,fr,Y,O.new,?_,by rw[hl,O.sz];exact h4,hc.ext E,fun _=>h6 hs,fun hh=>by simp[hs']at hh⟩
   rw[O.sz,hty];exact h3
  ·rw[if_neg e]at v
   rcases S.blk b z v A hm with g1|⟨T,o2,cs2,ty2,fr2,g1,g2,g3,g4,g5,g6,g7⟩
   ·exact .inl g1
   ·have hne:T≠k:=fun e2=>by
     subst e2;exact e (S.sep d b x z T o o2 I v C A hs Y g1).symm
    exact .inr ⟨T,o2,cs2,ty2,fr2,g1,by rw[O.other T hne];exact g2,g3,g4,g5.ext E,g6,g7⟩
 ·intro b b' z z' kk oo oo' v hb' hd1 hd2 hs1 hβ1 V
  have get:∀{c y},Al (Ei h d x') c=some y->y.dead=false->∃ y',Al h c=some y'/\y'.dead=false/\(y.sealed=false->y'.sealed=false):=by
   intro c y hc hyd
   rw[Ag]at hc
   by_cases e:c=d
   ·subst e;exact⟨x,I,C,fun _=>hs⟩
   ·rw[if_neg e]at hc;exact⟨y,hc,hyd,id⟩
  obtain⟨y1,g1,g2,g3⟩:=get v hd1
  obtain⟨y2,g4,g5,g6⟩:=get hb' hd2
  exact S.sep b b' y1 y2 kk oo oo' g1 g4 g2 g5 (g3 hs1) hβ1 V
 ·exact O.other j (fun e=>hm (by subst e;exact⟨d,x,o,I,C,hs,Y⟩))
 ·rintro j ⟨b,z,oo,v,A,hsz,hβz⟩ B
  rw[Ag]at v
  by_cases e:b=d
  ·subst e;exact⟨b,x,oo,I,C,hs,hβz⟩
  ·rw[if_neg e]at v
   exact⟨b,z,oo,v,A,hsz,hβz⟩
def Step.setObj(S:SimH J β h w){d k:Nat}{x x':Blk}{ob L:Obj}(Y:Al h d=some x)(T:x.dead=false)(hm:x.mp=true)(hβ:β d=some (k,0))
  (old:w.heap[k]?=some ob) (new:w'.heap[k]?=some L) (other:∀ j,j≠k->w'.heap[j]?=w.heap[j]?) (size:w'.heap.size=w.heap.size) (os:w'.os=w.os) (tape:w'.tape=w.tape) (output:w'.output=w.output)
  (hc:ObjIs x' L) (hx'd:x'.dead=false) (hx's:x'.sealed=false) (hx'p:x'.pure=true) (hx'z:x'.sz=x.sz) (I:x'.mp=true):Step J β h w J β (Ei h d x') w':=by
 have M:=S.mblk d x Y T hm
 have nJ:∀ g,¬ J g k:=by
  obtain⟨_,_,k',_,C,_,_,D⟩:=M
  rw[hβ]at C;simp at C;subst C;exact D
 have nj:∀ g j,J g j->j≠k:=fun g j A e=>by subst e;exact nJ g A
 have E:Ext J β h w J β (Ei h d x') w':=by
  refine⟨fun _ _ A=>A,fun o j A=>other j (nj o j A),fun b z v=>?_,fun b j oo v=>?_⟩
  ·by_cases e:b=d
   ·subst e;rw[Y]at v;simp at v;subst v
    exact⟨_,⟨by rw[Ag,if_pos rfl],by rw[I,hm]⟩,.inr ⟨T,rfl,hx'z,fun h=>by simp[hm]at h⟩⟩
   ·refine⟨z,⟨by rw[Ag,if_neg e];exact v,rfl⟩,?_⟩
    cases T:z.dead
    ·exact .inr ⟨rfl,rfl,rfl,fun _=>rfl⟩
    ·exact .inl rfl
  ·by_cases e:j=k
   ·subst e
    have r0:∀ cs ty fr,ob≠.cells cs ty fr:=by
     obtain⟨_,_,k',ob0,C,D,h3,_⟩:=M
     rw[hβ]at C;simp at C;subst C
     rw[old]at D;simp at D;subst D
     exact fun _ _ _=>h3.row
    have z0:Ay w j=0:=by
     unfold Ay;rw[old]
     split
     ·rename_i e;simp at e;exact absurd e (r0 _ _ _)
     ·rfl
    rw[z0];exact Alr _
   ·simp[Ay,other j e]
 refine⟨E,⟨fun g j A=>by rw[size];exact S.jlt g j A,S.jft,S.gl.ext E,fun b z v B G=>?_,fun b z v B G=>?_,?_⟩,os,tape,output,by rw[size];exact Ahl _,fun j A hm=>?_,?_,fun _ _ A=>.inl A⟩
 ·rw[Ag]at v
  by_cases e:b=d
  ·rw[if_pos e]at v;simp at v;subst v;simp[I]at G
  ·rw[if_neg e]at v
   rcases S.blk b z v B G with g1|⟨k2,o2,cs2,ty2,fr2,g1,g2,g3,g4,g5,g6,g7⟩
   ·exact .inl g1
   ·have hne:k2≠k:=fun e2=>by
     subst e2;rw[old]at g2;simp at g2
     obtain⟨_,_,k',ob0,C,D,h3,_⟩:=M
     rw[hβ]at C;simp at C;subst C
     rw[old]at D;simp at D;subst D
     exact absurd g2 h3.row
    exact .inr ⟨k2,o2,cs2,ty2,fr2,g1,by rw[other k2 hne];exact g2,g3,g4,g5.ext E,g6,g7⟩
 ·rw[Ag]at v
  by_cases e:b=d
  ·rw[if_pos e]at v;simp at v;subst v;subst e
   exact⟨hx'p,hx's,k,L,hβ,new,hc,nJ⟩
  ·rw[if_neg e]at v
   exact(S.mblk b z v B G).keep rfl (fun k2 o2 V=>other k2 (fun e2=>by subst e2;exact e (S.sep d b x z k2 0 o2 Y v T B M.2.1 hβ V).symm)) (fun _ _ _ _ A=>A)
 ·intro b b' z z' kk oo oo' v hb' hd1 hd2 hs1 hβ1 V
  have get:∀{c y},Al (Ei h d x') c=some y->y.dead=false->∃ y',Al h c=some y'/\y'.dead=false/\(y.sealed=false->y'.sealed=false):=by
   intro c y hc hyd
   rw[Ag]at hc
   by_cases e:c=d
   ·subst e;exact⟨x,Y,T,fun _=>M.2.1⟩
   ·rw[if_neg e]at hc;exact⟨y,hc,hyd,id⟩
  obtain⟨y1,g1,g2,g3⟩:=get v hd1
  obtain⟨y2,g4,g5,g6⟩:=get hb' hd2
  exact S.sep b b' y1 y2 kk oo oo' g1 g4 g2 g5 (g3 hs1) hβ1 V
 ·exact other j (fun e=>hm (by subst e;exact⟨d,x,0,Y,T,M.2.1,hβ⟩))
 ·rintro j ⟨b,z,oo,v,B,hsz,hβz⟩ A
  rw[Ag]at v
  by_cases e:b=d
  ·subst e;exact⟨b,x,oo,Y,T,M.2.1,hβz⟩
  ·rw[if_neg e]at v
   exact⟨b,z,oo,v,B,hsz,hβz⟩
def Step.mark(S:SimH J β h w){d k o:Nat}{x:Blk}{cs:Array Value}{ty:TypeId}{fr D:Nat×Nat}(T:Al h d=some x)(V:x.dead=false)(hs:x.sealed=false)(Y:β d=some (k,o))
  (old:w.heap[k]?=some (.cells cs ty fr)) (new:w'.heap[k]?=some (.cells cs ty D)) (hf:FrOk cs.size D) (other:∀ j,j≠k->w'.heap[j]?=w.heap[j]?) (size:w'.heap.size=w.heap.size) (os:w'.os=w.os) (tape:w'.tape=w.tape) (output:w'.output=w.output) (L:x.mp=false) :
  Step J β h w J β h w':=by
 have nj:∀ g j,J g j->j≠k:=fun g j v e=>by
  subst e
  rcases S.blk d x T V L with⟨h1,_⟩|⟨k',o',cs0,ty0,fr0,G,h2,h3,h4,h5,h6,h7⟩
  ·rw[Y]at h1;simp at h1
  ·rw[Y]at G;simp at G;obtain⟨rfl,rfl⟩:=G
   exact h6 hs g v
 have E:Ext J β h w J β h w':=by
  refine⟨fun _ _ v=>v,fun o j v=>other j (nj o j v),fun b z A=>⟨z,⟨A,rfl⟩,?_⟩,fun b j oo A=>?_⟩
  ·cases V:z.dead
   ·exact .inr ⟨rfl,rfl,rfl,fun _=>rfl⟩
   ·exact .inl rfl
  ·by_cases e:j=k
   ·subst e;rw[C9 old,C9 new];exact Ahl _
   ·simp[Ay,other j e]
 refine⟨E,⟨fun g j v=>by rw[size];exact S.jlt g j v,S.jft,S.gl.ext E,fun b z A B C=>?_,fun b z A B C=>by
   refine(S.mblk b z A B C).keep rfl (fun I o2 hβ2=>other I (fun e2=>?_)) (fun _ _ _ _ v=>v)
   subst e2
   have:=S.sep d b x z I o o2 T A V B hs Y hβ2
   subst this
   rw[T] at A;simp at A;subst A;simp[L] at C,S.sep⟩,os,tape,output,by rw[size];exact Ahl _,fun j v C=>?_,fun _ C _=>C,fun _ _ v=>.inl v⟩
 ·rcases S.blk b z A B C with g1|⟨I,o2,cs2,ty2,fr2,g1,g2,g3,g4,g5,g6,g7⟩
  ·exact .inl g1
  ·by_cases e:I=k
   ·subst e
    rw[old]at g2;simp at g2;obtain⟨rfl,rfl,rfl⟩:=g2
    exact .inr ⟨I,o2,cs,ty,D,g1,new,⟨hf,g3.2⟩,g4,g5.ext E,g6,g7⟩
   ·exact .inr ⟨I,o2,cs2,ty2,fr2,g1,by rw[other I e];exact g2,g3,g4,g5.ext E,g6,g7⟩
 ·exact other j (fun e=>C (by subst e;exact⟨d,x,o,T,V,hs,Y⟩))
def Step.move(S:SimH J β h w){d d' k o o':Nat}{x x' y:Blk}{cs cs':Array Value}{ty:TypeId}{fr:Nat×Nat}(G:Al h d=some x)(T:x.dead=false)(hs:x.sealed=false)(V:β d=some (k,o))
  (hn:Al h d'=none) (hy:y.dead=true)
  (O:OnlyBlk w w' k cs cs' ty fr) (hd':x'.dead=false) (hs':x'.sealed=false) (hl:o'+x'.cells.length<=cs.size) (hc:CellsRep J β h w x' (fun j=>cs'[o'+j]?)) (hxm:x.mp=false) (hym:y.mp=x.mp:=by rfl) (hxm':x'.mp=false:=by rfl) (hty:TyOk x'.ty ty o' cs.size:=by exact TyOk.none) :
  Step J β h w J (fun b=>if b=d' then some (k,o')else β b) (Ei (Ei h d y) d' x') w':=by
 obtain⟨k',o1,cs0,ty0,fr0,hβ',h2,h3,h4,h5,h6,h7⟩:∃ k' o' cs0 ty0 fr0,β d=some (k',o')/\w.heap[k']?=some (.cells cs0 ty0 fr0) /\
   FrTy x.ty ty0 o' cs0.size fr0/\o'+x.cells.length<=cs0.size/\CellsRep J β h w x (fun j=>cs0[o'+j]?)/\(x.sealed=false->∀ g,¬ J g k')/\(x.sealed=true->J x.taint k'):=by
  rcases S.blk d x G T hxm with⟨h1,_⟩|h1
  ·rw[V]at h1;simp at h1
  ·exact h1
 rw[V]at hβ';simp at hβ';obtain⟨rfl,rfl⟩:=hβ'
 rw[O.old]at h2;simp at h2;obtain⟨rfl,rfl,rfl⟩:=h2
 have nj:∀ g j,J g j->j≠k:=fun g j C e=>by subst e;exact h6 hs g C
 have ndd:d≠d':=fun e=>by subst e;rw[hn]at G;cases G
 have ne:∀{b z},Al h b=some z->b≠d':=fun v e=>by subst e;rw[hn]at v;cases v
 have get:∀ b,Al (Ei (Ei h d y) d' x') b=if b=d' then some x' else if b=d then some y else Al h b:=fun b=>by rw[Ag,Ag]
 have E:Ext J β h w J (fun b=>if b=d' then some (k,o')else β b) (Ei (Ei h d y) d' x') w':=by
  refine⟨fun _ _ C=>C,fun o j C=>O.other j (nj o j C),fun b z v=>?_,fun b j oo v=>?_⟩
  ·by_cases e:b=d
   ·have hb0:=v;subst e;rw[G]at v;simp at v;subst v;exact⟨y,⟨by rw[get,if_neg (ne hb0),if_pos rfl],hym⟩,.inl hy⟩
   ·refine⟨z,⟨by rw[get,if_neg (ne v),if_neg e];exact v,rfl⟩,?_⟩
    cases T:z.dead
    ·exact .inr ⟨rfl,by simp[ne v],rfl,fun _=>rfl⟩
    ·exact .inl rfl
  ·by_cases e:j=k
   ·subst e;rw[C9 O.old,C9 O.new,O.sz];exact Ahl _
   ·simp[Ay,O.other j e]
 have live:∀{b z},Al (Ei (Ei h d y) d' x') b=some z->z.dead=false->(b=d'/\z=x')\/(b≠d'/\b≠d/\Al h b=some z):=by
  intro b z v hz
  rw[get]at v
  by_cases e:b=d'
  ·rw[if_pos e]at v;simp at v;exact .inl ⟨e,v.symm⟩
  ·rw[if_neg e]at v
   by_cases I:b=d
   ·rw[if_pos I]at v;simp at v;subst v;simp[hy]at hz
   ·rw[if_neg I]at v;exact .inr ⟨e,I,v⟩
 refine⟨E,⟨fun g j C=>by rw[O.size];exact S.jlt g j C,S.jft,S.gl.ext E,fun b z v A hm=>?_,fun b z v A hm=>by
   rcases live v A with⟨rfl,rfl⟩|⟨e1,I,v⟩
   ·simp[hxm']at hm
   ·exact(S.mblk b z v A hm).keep (by simp[e1]) (fun k2 o2 B=>O.other k2 (fun e=>by subst e;exact I (S.sep d b x z k2 o o2 G v T A hs V B).symm)) (fun _ _ _ _ C=>C),?_⟩,O.os,O.tape,O.output,by rw[O.size];exact Ahl _,fun j C hm=>?_,?_,fun _ _ C=>.inl C⟩
 ·rcases live v A with⟨rfl,rfl⟩|⟨e1,I,v⟩
  ·refine .inr ⟨k,o',cs',ty,fr,by simp,O.new,?_,by rw[O.sz];exact hl,hc.ext E,fun _=>h6 hs,fun hh=>by simp[hs']at hh⟩
   rw[O.sz];exact⟨h3.1,hty⟩
  ·rcases S.blk b z v A hm with g1|⟨k2,o2,cs2,ty2,fr2,g1,g2,g3,g4,g5,g6,g7⟩
   ·exact .inl ⟨by simp[e1,g1.1],g1.2⟩
   ·have hne:k2≠k:=fun e=>by
     subst e;exact I (S.sep d b x z k2 o o2 G v T A hs V g1).symm
    exact .inr ⟨k2,o2,cs2,ty2,fr2,by simp[e1,g1],by rw[O.other k2 hne];exact g2,g3,g4,g5.ext E,g6,g7⟩
 ·intro b b' z z' kk oo oo' v hb' hd1 hd2 hs1 D B
  rcases live v hd1 with⟨e0,_⟩|⟨e1,I,hbb⟩<;>rcases live hb' hd2 with⟨e0',_⟩|⟨e3,e4,Y⟩
  ·rw[e0,e0']
  ·simp[e0]at D;simp[e3]at B
   obtain⟨rfl,rfl⟩:=D
   exact absurd (S.sep d b' x z' k o oo' G Y T hd2 hs V B).symm e4
  ·simp[e0']at B;simp[e1]at D
   obtain⟨rfl,rfl⟩:=B
   exact absurd (S.sep d b x z k o oo G hbb T hd1 hs V D).symm I
  ·simp[e1]at D;simp[e3]at B
   exact S.sep b b' z z' kk oo oo' hbb Y hd1 hd2 hs1 D B
 ·exact O.other j (fun e=>hm (by subst e;exact⟨d,x,o,G,T,hs,V⟩))
 ·rintro j ⟨b,z,oo,v,A,hsz,L⟩ C
  rcases live v A with⟨rfl,rfl⟩|⟨e1,I,v⟩
  ·simp at L;obtain⟨rfl,rfl⟩:=L
   exact⟨d,x,o,G,T,hs,V⟩
  ·simp[e1]at L;exact⟨b,z,oo,v,A,hsz,L⟩
end
end Gx
namespace Gx
open Go
def By:∀(a b:Dc)(h:Aw),Am (a++b) h=Am b (Am a h)
|[],_,_=>rfl
|(_,some _)::r,b,h=>by simp only[Ail,Am];exact By r b _
|(_,none)::r,b,h=>by simp only[Ail,Am];exact By r b _
def LooksS(g:A2)(h:Aw):Prop:=∀ b x,g b=some x->∃ y,Al h b=some y/\{y with sealed:=true}={x with sealed:=true}
def Looks.s{g:A2}{h:Aw}(k:Looks g h):LooksS g h:=fun b x v=>⟨x,k b x v,rfl⟩
section
variable{R:Type}{r:R}{P:Program}{J J':Bool->Nat->Prop}{β:Bx}{h:Aw}{w:World}{g:A2}
def LooksS.shutB(v:LooksS g h){b:Nat}{x:Blk}(A:g b=some x):LooksS g (Ei h b {x with sealed:=true}):=by
 intro c y k
 rw[Ag]
 by_cases e:c=b
 ·subst e;rw[A]at k;simp at k;subst k
  exact⟨{x with sealed:=true},by simp,rfl⟩
 ·rw[if_neg e];exact v c y k
def vD(S:SimH J β h w){b off n:Nat}{y:Blk}{v:Value}(hb:Al h b=some y)(hd:y.dead=false)(hp:y.pure=true)(hr:Rep J β h w (.own b off n) v)
  (hJ:∀ k o,β b=some (k,o)->J' y.taint k) (G:∀ o k,J o k->J' o k) (t o:Bool):RepC (J' y.taint) w (.imm ((y.cells.drop off).take (n*y.sz)) n y.sz t o) v↔(t=true->∃ A cap,v=.slice A n cap/\cap=n):=by
 rw[Rep]at hr
 obtain⟨x,A,cap,⟨C,L⟩,rfl,B,hr⟩:=hr
 rw[hb]at C;simp at C;subst C
 rw[RepC]
 constructor
 ·rintro⟨_,A',cap',T,_,V,_⟩ Y
  exact⟨A',cap',T,V Y⟩
 ·intro V
  have I:t=true->cap=n:=fun Y=>by
   obtain⟨A',cap',T,hc⟩:=V Y
   simp at T;omega
  rcases hr with hr|⟨kk,oo,rfl,hr⟩
  ·have:n=0:=by omega
   subst this
   exact⟨by simp,A,cap,rfl,B,I,.inl rfl⟩
  ·rcases hr with hr|⟨r1,r2,r3⟩
   ·simp[hd]at hr
   ·rcases S.blk b y hb hd L with⟨hn,_⟩|⟨k',o',cs,ty,fr,D,g1,g2,g3,g4,g5,g6⟩
    ·rw[r1]at hn;simp at hn
    ·rw[r1]at D;simp at D;obtain⟨rfl,rfl⟩:=D
     refine⟨by simp;omega,_,cap,rfl,B,I,.inr ⟨_,rfl,hJ _ _ r1,?_⟩⟩
     have:=((g4.1 hp).drop off).take (n*y.sz)
     refine RepCs.keep (fun k hk=>G _ k hk) (fun _ _=>rfl) (fun j=>?_) this
     rw[Addr.add_mid,M7 g1,Ai1]
def yX{b off n:Nat}{y:Blk}{v:Value}(C:Al h b=some y)(hr:Rep J β h w (.own b off n) v):y.mp=false:=by
 rw[Rep]at hr
 obtain⟨x,A,cap,⟨k,B⟩,_⟩:=hr
 rw[C]at k;simp at k;subst k;exact B
def Aap{b off:Nat}{y:Blk}{v:Value}(C:Al h b=some y)(hr:Rep J β h w (.optr b off) v):y.mp=false:=by
 rw[Rep]at hr
 obtain⟨x,k,o,⟨A,B⟩,_⟩:=hr
 rw[C]at A;simp at A;subst A;exact B
def IF{v v':AV}{ups:Dc}{org:Bool}{vc:Value}(S:SimH J β h w)(L:LooksS g h)(D:NZ g v=some (v',ups,org))(G:Rep J β h w v vc):
    ∃ J',Step J β h w J' β (Am ups h) w/\RepC (J' org) w v' vc/\LooksS g (Am ups h):=by
  unfold NZ at D
  split at D
  · rename_i b off n
    obtain⟨x,C,h1⟩:=ub D
    obtain⟨hp,V⟩:=uc h1
    simp at V
    obtain⟨rfl,rfl,rfl⟩:=V
    unfold E1 at C
    obtain⟨x0,I,C⟩:=ub C
    obtain⟨Y,C⟩:=sn C
    simp at C;subst C
    obtain⟨y,T,B⟩:=L b _ I
    have e1:y.cells=x0.cells:=by have:=congrArg Blk.cells B;simpa using this
    have e2:y.sz=x0.sz:=by have:=congrArg Blk.sz B;simpa using this
    have e3:y.taint=x0.taint:=by have:=congrArg Blk.taint B;simpa using this
    have e4:y.dead=x0.dead:=by have:=congrArg Blk.dead B;simpa using this
    have e5:y.pure=x0.pure:=by have:=congrArg Blk.pure B;simpa using this
    have A:=Step.shutB S T (by rw[e4];exact Y) (yX T G)
    refine⟨_,by simp only[Am];rw[<-B];exact A,?_,by simp only[Am];exact L.shutB I⟩
    have:=(vD (J':=fun o k=>J o k\/∃ o',β b=some (k,o')/\(y.taint=true->o=true)) S T (by rw[e4];exact Y) (by rw[e5];exact hp) G (fun k o hβ=>.inr ⟨o,hβ,id⟩) (fun o k hj=>.inl hj) false x0.taint).2 (by simp)
    rw[e1,e2,e3]at this
    rw[e3]
    exact this
  all_goals first
    |(simp at D;done)
    | (simp at D; obtain ⟨rfl, rfl, rfl⟩ := D
       refine⟨J,Step.refl S,?_,L⟩
       first
         |(rw[Rep]at G;exact G)
         | skip)
  · cases v
    case imm=>rename_i hi _ _;exact absurd rfl (hi _ _ _ _ _)
    case iptr=>rename_i hi _;exact absurd rfl (hi _ _)
    case pagg=>rename_i hi;exact absurd rfl (hi _ _)
    all_goals first|(rw[Rep]at G;rw[RepC];exact G)|simp_all
def O1:∀{c c':LA}{ups:Dc}{org:Bool}{cs:List Value}{J:Bool->Nat->Prop}{h:Aw},SimH J β h w->LooksS g h->Wd g c=some (c',ups,org)->Reps J β h w c cs ->
  ∃ J',Step J β h w J' β (Am ups h) w/\RepCs (J' org) w c' (fun j=>cs[j]?) 0/\c'.length=cs.length/\LooksS g (Am ups h)
|[],c',ups,org,cs,J,h,S,L,D,G=>by
  simp[Wd]at D;obtain⟨rfl,rfl,rfl⟩:=D
  rw[Reps]at G;subst G
  exact⟨J,Step.refl S,by simp[RepCs],rfl,L⟩
| v::r,c',ups,org,cs,J,h,S,L,D,G=>by
  rw[Wd]at D
  obtain⟨⟨v1,u1,o1⟩,hp,h1⟩:=ub D
  obtain⟨⟨r2,u2,o2⟩,hq,h2⟩:=ub h1
  simp at h2
  obtain⟨rfl,rfl,rfl⟩:=h2
  rw[Reps]at G
  obtain⟨u,us,rfl,T,V⟩:=G
  obtain⟨J1,A,hA,Y⟩:=IF S L hp T
  obtain⟨J2,B,hB,I,hl2⟩:=O1 A.sim Y hq (Reps.ext A.ext V)
  refine⟨J2,by rw[By];exact A.trans B (fun _ _ _ _=>Ahl _),?_,by simp[I],by rw[By];exact hl2⟩
  have mono:∀{a b:Bool}(k:Nat),J2 a k->J2 (a||b) k:=fun{a b} k C=>by
   cases a
   ·cases b
    ·exact C
    ·exact B.sim.jft k C
   ·exact C
  have mono':∀{a b:Bool}(k:Nat),J2 b k->J2 (a||b) k:=fun{a b} k C=>by rw[Am6];exact mono k C
  rw[RepCs]
  refine⟨⟨u,by simp,?_⟩,?_⟩
  ·exact RepC.keep (J:=J1 o1) (fun k C=>mono k (B.ext.jsub _ k C)) (fun _ _=>rfl) hA
  ·have:=RepCs.keep (J':=J2 (o1||o2)) (w':=w) (fun k C=>mono' k C) (fun _ _=>rfl) (rd':=fun j=>us[j]?) (fun _=>rfl) hB
   rw[Bn]at this ⊢
   intro j x hj
   have h3:=this j x hj
   simp only[Ah0]at h3
   rw[show 1+j=j+1 by omega]
   simpa using h3
def FY{v:AV}{c':LA}{ups:Dc}{org:Bool}{vc:Value}(S:SimH J β h w)(G:LooksS g h)(B:Vz g v=some (c',ups,org))(C:Rep J β h w v vc):
  ∃ J',Step J β h w J' β (Am ups h) w/\RepCs (J' org) w c' (fun j=>vc.cells.toList[j]?) 0/\c'.length=vc.cells.toList.length/\LooksS g (Am ups h):=by
 unfold Vz at B
 split at B
 ·rename_i c org'
  simp at B;obtain⟨rfl,rfl,rfl⟩:=B
  rw[Rep]at C
  obtain⟨cs,rfl,T,D⟩:=C
  exact⟨J,Step.refl S,D,by simp[Value.cells,T],G⟩
 ·rename_i c
  rw[Rep]at C
  obtain⟨cs,rfl,D⟩:=C
  exact O1 S G B D
 ·rename_i v T D
  obtain⟨J',A,hA,k,I⟩:=O1 (cs:=[vc]) S G B (by rw[Reps];exact⟨vc,[],rfl,C,by rw[Reps]⟩)
  have h3:vc.oneCell'=true:=by
   have L:c'.length=1:=k
   cases V:c' with
   |nil=>simp[V]at L
   |cons x r =>
    obtain⟨u,Y,hr⟩:=hA.at (j:=0) (x:=x) (by simp[V])
    simp at Y;subst Y
    exact SE hr
  have h4:vc.cells=#[vc]:=by cases vc<;>simp_all[Value.cells,Value.oneCell']
  rw[h4]
  exact⟨J',A,hA,k,I⟩
end
end Gx
namespace Gx
open Go
def Bk:∀(ups:Dc)(h:Aw)(b:Nat),A0 ups b=false->Al (Am ups h) b=Al h b
|[],_,_,_=>rfl
| (i,some x)::r,h,b,hi=>by
  rw[A0]at hi
  cases k:beq i b with
  |true=>rw[k]at hi;simp at hi
  |false =>
   rw[k]at hi
   rw[Am,Bk r _ b hi,Ag,if_neg (fun e=>T8 k e.symm)]
| (i,none)::r,h,b,hi=>by
  rw[A0]at hi
  cases k:beq i b with
  |true=>rw[k]at hi;simp at hi
  |false =>
   rw[k]at hi
   rw[Am,Bk r _ b hi]
   split
   ·rw[Ag,if_neg (fun e=>T8 k e.symm)]
   ·rfl
def Qq{c vs:LA}{off:Nat}(A:off+vs.length<=c.length)(j:Nat):(C8 c off vs)[j]?=if off<=j/\j<off+vs.length then vs[j - off]? else c[j]?:=by
 unfold C8
 rw[Akc,Aiv]
 simp only[Ah3,Aia (show off<=c.length by omega)]
 by_cases k:j<off
 ·rw[if_pos k,if_neg (by omega),Ajd,if_pos k]
 ·rw[if_neg k,Aiv]
  by_cases v:j - off<vs.length
  ·rw[if_pos v,if_pos (by omega)]
  ·rw[if_neg v,if_neg (by omega),Ain];congr 1;omega
def J9{c vs:LA}{off:Nat}(k:off+vs.length<=c.length):(C8 c off vs).length=c.length:=by unfold C8;simp;omega
def CV{c vs:LA}{off:Nat}(k:off+vs.length<=c.length)(j:Nat):(setCells c off vs)[j]?=if off<=j/\j<off+vs.length then vs[j - off]? else c[j]?:=by
 unfold setCells
 split
 ·rename_i y
  simp at k
  rw[List.getElem?_set]
  by_cases e:off=j
  ·subst e;simp;omega
  ·rw[if_neg e,if_neg (by simp;omega)]
 ·exact Qq k j
def Nn{c vs:LA}{off:Nat}(k:off+vs.length<=c.length):(setCells c off vs).length=c.length:=by
 unfold setCells
 split
 ·simp
 ·exact J9 k
section
variable{R:Type}{r:R}{P:Program}{J J':Bool->Nat->Prop}{β:Bx}{h:Aw}{w w':World}{g:A2}
def Im{v:AV}{vc:Value}(hs:AC g v=true)(B:Rep J β h w v vc):vc.oneCell'=true:=by
 cases v<;>simp[AC]at hs
 case own=>rw[Rep]at B;obtain⟨x,A,cap,_,rfl,_⟩:=B;rfl
 case optr=>rw[Rep]at B;obtain⟨x,k,o,_,rfl,_⟩:=B;rfl
 case fn=>rw[Rep]at B;obtain⟨cs,rfl,_⟩:=B;rfl
 case imm=>rw[Rep,RepC]at B;obtain⟨_,A,cap,rfl,_⟩:=B;rfl
 case iptr=>rw[Rep,RepC]at B;obtain⟨a,rfl,_⟩:=B;rfl
 all_goals (rw[Rep]at B;subst B;rfl)
def O2:∀{c:LA},J8 g c=true->∀(j:Nat)(x:AV),c[j]?=some x->AC g x=true
|[],_,j,x,k=>by simp at k
|v::r,hs,j,x,k=>by
  rw[J8]at hs;simp at hs
  cases j with
  |zero=>simp at k;subst k;exact hs.1
  |succ j=>exact O2 hs.2 j x (by simpa using k)
def tB{k:Nat}{cs v:Array Value}{ty:TypeId}{fr:Nat×Nat}(O:OnlyBlk w w' k cs v ty fr):∀ j,Ay w j<=Ay w' j:=fun j=>by
 by_cases e:j=k
 ·subst e;rw[C9 O.old,C9 O.new,O.sz];exact Ahl _
 ·simp[Ay,O.other j e]
def IG{t:TypeId}{k o:Nat}{vc:Value}{cs:Array Value}{ty:TypeId}{fr:Nat×Nat}(B:w.heap[k]?=some (.cells cs ty fr))(C:FrOk cs.size fr)
  (hs:A8 P t=some vc.cells.toList.length) (D:o+vc.cells.toList.length<=cs.size) (G:∀ u∈vc.cells.toList,u.oneCell'=true) :
  (Instr.storeAt t (.pointer (some ⟨k,o,none⟩)) vc).run P w=.ok () (w.setCells k o vc.cells.toList):=by
 have v:=run_storeCells_cells (P:=P) k o vc.cells.toList 0 w (fun j I=>by
   rw[Aiq,M7 B];simp;omega)
  (fun j I=>by
   rw[Aiq];simp only[World.frozen?,B]
   have:=C.at (o+j) (by omega)
   cases fr;simp at this ⊢;omega) G
 simp only[Aiq]at v
 have A:=B0 hs w
 simp only[Akt]at A
 simp[Instr.storeAt,Instr.sureAddr,storeVar,A,v]
def IH{c:LA}{org:Bool}{cs:List Value}(V:RepCs (J org) w c (fun j=>cs[j]?) 0):∀{L:List (Nat×TypeId)}{A:LA}{k:LA->O R},FT P c org L A k=some r ->
  (∀(j:Nat) x,A[j]?=some x->∃ u,cs[j]?=some u/\Rep J β h w x u)->∃ l:LA,k l=some r/\∀(j:Nat) x,l[j]?=some x->∃ u,cs[j]?=some u/\Rep J β h w x u
|[],A,k,C,D=>⟨A,C,D⟩
| (off,t)::L,A,k,C,D=>by
  rw[FT]at C
  obtain⟨G,h1⟩:=uc C
  simp at G
  obtain⟨v,h2,h3⟩:=S8 (β:=β) (h:=h) h1 (V.drop off)
  refine IH V h2 (fun j x B=>?_)
  rw[Aiv]at B
  split at B
  ·exact D j x B
  ·have I:j=A.length:=by
    have:=(Ahx.1 B).1
    simp at this;omega
   subst I
   simp at B;subst B
   rcases h3 with⟨d,Y,hd,u,h4,h5⟩|⟨d,Y,hd,_⟩
   ·refine⟨u,?_,h5⟩
    rw[G.1]at h4;simpa using h4
   ·exfalso
    have T:=G.2
    unfold yN at T
    rw[Y]at T
    split at T<;>simp_all[TypeDesc.isRow]
def n8{t:TypeId}{p v:AV}{vp vv:Value}{k:AV->Dc->O R}(S:SimH J β h w)(hl:Looks g h)(hh:WF P g t p v k=some r)(hp:Rep J β h w p vp)(hv:Rep J β h w v vv):
  ∃ val ups,k val ups=some r/\∃ J' β' w',(Instr.storeAt t vp vv).run P w=.ok () w'/\Step J β h w J' β' (Am ups h) w'/\val=.undef:=by
 unfold WF at hh
 split at hh
 ·rename_i b off
  obtain⟨x,hx,h1⟩:=ub hh
  obtain⟨n,hn,h2⟩:=ub h1
  obtain⟨hs,h3⟩:=sn h2
  obtain⟨hb,hd⟩:=Cw hl hx
  have hmpx:=Aap hb hp
  cases hpu:x.pure with
  | true =>
   rw[hpu]at h3
   obtain⟨⟨c',u1,org⟩,hq,h4⟩:=ub h3
   obtain⟨G,h5⟩:=uc h4
   simp at G
   obtain⟨I,L,hc3⟩:=G
   obtain⟨J1,A,hA,V,_⟩:=FY S hl.s hq hv
   have hb1:Al (Am u1 h) b=some x:=by rw[Bk _ _ _ hc3];exact hb
   obtain⟨kk,o,cs,ty,fr,hβ,rfl,T,hf,hle,hcr,_,_⟩:=nZ A.sim hb1 hd (Rep.ext A.ext hp)
   obtain⟨cs',O,hO⟩:=OnlyBlk.setCells (k:=kk) vv.cells.toList (o+off) w cs T
   have hlen':off+c'.length<=x.cells.length:=by omega
   have hone:=RepCs.one hA V.symm
   have B:=Step.set (x':={ x with pure:=true,cells:=setCells x.cells off c',taint:=x.taint||org }) A.sim hb1 hd hs hβ O hd hs rfl (Nn hlen') (by
    refine⟨fun _=>?_,fun hh=>by simp at hh⟩
    have hold:=hcr.1 hpu
    rw[Bn]
    intro j y C
    simp only[CV hlen']at C
    simp only[Ah0]
    have mono:∀{a b:Bool}(k:Nat),J1 a k->J1 (a||b) k:=fun{a b} k T=>by
     cases a
     ·cases b
      ·exact T
      ·exact A.sim.jft k T
     ·exact T
    split at C
    ·rename_i hj'
     obtain⟨u,hu,hr⟩:=hA.at C
     refine⟨u,?_,RepC.keep (J:=J1 org) (fun k T=>by rw[Am6];exact mono k T) (fun _ _=>rfl) hr⟩
     rw[hO,if_pos (by omega),<-hu];congr 1;omega
    ·rename_i hj'
     obtain⟨u,hu,hr⟩:=hold.at C
     refine⟨u,?_,RepC.keep (J:=J1 x.taint) (fun k T=>mono k T) (fun _ _=>rfl) hr⟩
     rw[hO,if_neg (by omega)];exact hu)
   refine⟨_,_,h5,J1,β,_,IG T hf.1 (by rw[<-V,I];exact hn) (by omega) hone,?_,rfl⟩
   rw[By]
   exact A.trans (B hmpx) (fun _ k _ _=>tB O k)
  | false =>
   rw[hpu]at h3
   obtain⟨kk,o,cs,ty,fr,hβ,rfl,T,hf,hle,hcr,_,_⟩:=nZ S hb hd hp
   have go:∀(c:LA)(cells':LA),(∀(j:Nat)(y:AV),c[j]?=some y->∃ u,vv.cells.toList[j]?=some u/\Rep J β h w y u/\u.oneCell'=true)->c.length=vv.cells.toList.length->c.length=n->off+c.length<=x.cells.length ->
     cells'.length=x.cells.length->(∀ j:Nat,cells'[j]?=if off<=j/\j<off+c.length then c[j - off]? else x.cells[j]?) ->
     ∃ J' β' w',(Instr.storeAt t (.pointer (some ⟨kk,o+off,none⟩)) vv).run P w=.ok () w'/\Step J β h w J' β' (Am [(b,some {x with pure:=false,cells:=cells'})] h) w':=by
    intro c cells' G V hcn hoff hcl hget'
    obtain⟨cs',O,hO⟩:=OnlyBlk.setCells (k:=kk) vv.cells.toList (o+off) w cs T
    have B:=Step.set (x':={ x with pure:=false,cells:=cells' }) S hb hd hs hβ O hd hs rfl hcl (by
     refine⟨fun hh=>by simp at hh,fun _ j y C=>?_⟩
     simp only[hget']at C
     split at C
     ·rename_i hj'
      obtain⟨u,hu,hr,ho⟩:=G _ _ C
      refine⟨u,?_,hr,ho⟩
      show cs'[o+j]?=some u
      rw[hO,if_pos (by omega),<-hu];congr 1;omega
     ·rename_i hj'
      obtain⟨u,hu,hr⟩:=hcr.2 hpu j y C
      refine⟨u,?_,hr⟩
      show cs'[o+j]?=some u
      rw[hO,if_neg (by omega)];exact hu)
    refine⟨J,β,_,IG T hf.1 (by rw[hn,<-hcn,V]) (by omega) (fun u hu=>?_),B hmpx⟩
    obtain⟨j,C,rfl⟩:=Ai0 hu
    obtain⟨u',hu',_,ho⟩:=G j c[j] (Ahk (by omega))
    rw[Ahk C]at hu';simp only[Ajm]at hu';rw[hu'];exact ho
   simp only[cond_false]at h3
   split at h3
   ·rename_i c
    obtain⟨G,h5⟩:=uc h3
    simp at G
    obtain⟨I,L,hc3⟩:=G
    rw[Rep]at hv
    obtain⟨us,rfl,D⟩:=hv
    rw[Bu]at D
    obtain⟨J',β',w',g1,g2⟩:=go c (C8 x.cells off c) (fun j y C=>by
      have hlt:j<us.length:=by rw[D.1];exact(Ahx.1 C).1
      refine⟨us[j],by simp[Value.cells,Ahk hlt],D.2 j y _ C (Ahk hlt),Im (O2 I j y C) (D.2 j y _ C (Ahk hlt))⟩)
     (by simp[Value.cells,D.1]) L (by omega) (J9 (by omega)) (Qq (by omega))
    exact⟨_,_,h5,J',β',w',g1,g2,rfl⟩
   ·rename_i c org
    cases hwh:beq off 0&&(beq c.length n&&beq x.cells.length n)with
    | false =>
     rw[hwh,cond_false]at h3
     obtain⟨_,h3⟩:=sn h3
     rw[Rep]at hv
     obtain⟨us,rfl,D,hrc⟩:=hv
     obtain⟨l,h4,h6⟩:=IH (β:=β) (h:=h) hrc h3 (fun j x C=>by simp at C)
     obtain⟨G,h5⟩:=uc h4
     simp at G
     obtain⟨hc0,I,L,hc3⟩:=G
     obtain⟨J',β',w',g1,g2⟩:=go l (C8 x.cells off l) (fun j y C=>by
       obtain⟨u,hu,hr⟩:=h6 j y C
       exact⟨u,by simpa[Value.cells] using hu,hr,Im (O2 I j y C) hr⟩)
      (by simp[Value.cells];omega) L (by omega) (J9 (by omega)) (Qq (by omega))
     exact⟨_,_,h5,J',β',w',g1,g2,rfl⟩
    |true =>
    rw[hwh,cond_true]at h3
    have h5:=h3
    have G:=hwh
    simp at G
    obtain⟨rfl,L,hc3⟩:=G
    rw[Rep]at hv
    obtain⟨us,rfl,D,hrc⟩:=hv
    obtain⟨cs',O,hO⟩:=OnlyBlk.setCells (k:=kk) us (o+0) w cs T
    have B:=Step.set (x':={ x with pure:=true,taint:=org,cells:=c }) S hb hd hs hβ O hd hs rfl (by simp;omega) (by
     refine⟨fun _=>?_,fun hh=>by simp at hh⟩
     rw[Bn]
     intro j y C
     obtain⟨u,hu,hr⟩:=hrc.at C
     have hlt:j<us.length:=by rw[D];exact(Ahx.1 C).1
     refine⟨u,?_,hr⟩
     show cs'[o+(0+j)]?=some u
     rw[hO,if_pos (by omega),<-hu];congr 1;omega)
    exact⟨_,_,h5,J,β,_,IG (vc:=.agg ⟨us⟩) T hf.1 (by simp[Value.cells];rw[D,L];exact hn) (by simp[Value.cells];omega) (by simpa[Value.cells]using RepCs.one hrc D),B hmpx,rfl⟩
   ·rename_i hna
    obtain⟨G,h5⟩:=uc h3
    simp at G
    obtain⟨I,L,hc3⟩:=G
    have ho:=Im I hv
    have Y:vv.cells=#[vv]:=by cases vv<;>simp_all[Value.cells,Value.oneCell']
    obtain⟨J',β',w',g1,g2⟩:=go [v] (x.cells.set off v) (fun j y C=>by
      cases j with
      |zero=>simp at C;subst C;exact⟨vv,by simp[Y],hv,ho⟩
      |succ j=>simp at C) (by simp[Y]) (by simp;omega) (by simp;omega) (by simp) (fun j=>by
      have:=CV (c:=x.cells) (vs:=[v]) (off:=off) (by simp;omega) j
      simpa[setCells] using this)
    exact⟨_,_,h5,J',β',w',g1,g2,rfl⟩
 ·simp at hh
end
end Gx
namespace Gx
open Go
section
variable{R:Type}{r:R}{P:Program}{J J':Bool->Nat->Prop}{β:Bx}{h:Aw}{w w':World}{g:A2}
def lS{v v':AV}{ups:Dc}{org:Bool}(k:NZ g v=some (v',ups,org))(b:Nat)(C:A0 ups b=true):∃ x,g b=some x:=by
 unfold NZ at k
 split at k
 ·rename_i D off n
  obtain⟨x,A,I⟩:=ub k
  obtain⟨L,G⟩:=uc I
  simp at G
  obtain⟨rfl,rfl,rfl⟩:=G
  unfold E1 at A
  obtain⟨x0,B,A⟩:=ub A
  have:D=b:=by
   cases e:beq D b with
   |true=>exact Aht e
   |false=>simp[A0,e]at C
  subst this;exact⟨x0,B⟩
 all_goals first
  |(simp at k;done)
  |(simp at k;obtain⟨rfl,rfl,rfl⟩:=k;simp[A0]at C)
def Gt:∀(a b:Dc)(c:Nat),A0 (a++b) c=(A0 a c||A0 b c)
|[],_,_=>by simp[A0]
|(i,_)::r,b,c=>by
  rw[Ail,A0,A0,Gt r b c]
  cases beq i c<;>simp
def Wj:∀{c c':LA}{ups:Dc}{org:Bool},Wd g c=some (c',ups,org)->∀ b,A0 ups b=true->∃ x,g b=some x
|[],c',ups,org,k,b,A=>by simp[Wd]at k;obtain⟨rfl,rfl,rfl⟩:=k;simp[A0]at A
|v::r,c',ups,org,k,b,A=>by
  rw[Wd]at k
  obtain⟨⟨v1,u1,o1⟩,D,G⟩:=ub k
  obtain⟨⟨I,u2,o2⟩,hq,B⟩:=ub G
  simp at B
  obtain⟨rfl,rfl,rfl⟩:=B
  rw[Gt]at A
  cases C:A0 u1 b with
  |true=>exact lS D b C
  |false=>rw[C]at A;exact Wj hq b (by simpa using A)
def jh{v:AV}{c':LA}{ups:Dc}{org:Bool}(k:Vz g v=some (c',ups,org))(b:Nat)(A:A0 ups b=true):∃ x,g b=some x:=by
 unfold Vz at k
 split at k
 ·simp at k;obtain⟨rfl,rfl,rfl⟩:=k;simp[A0]at A
 ·exact Wj k b A
 ·exact Wj k b A
def vE{ups:Dc}{d:Nat}(k:Looks g h)(v:∀ b,A0 ups b=true->∃ x,g b=some x)(hn:Al h (nid d)=none):Al (Am ups h) (nid d)=none:=by
 rw[Bk]
 ·exact hn
 ·cases A:A0 ups (nid d)with
  |false=>rfl
  |true =>
   obtain⟨x,B⟩:=v _ A
   rw[k _ _ B]at hn;cases hn
def OpDone(J:Bool->Nat->Prop)(β:Bx)(h:Aw)(w:World)(ups:Dc)(val:AV)(vc:Value)(w':World):Prop:=∃ J' β',Step J β h w J' β' (Am ups h) w'/\Rep J' β' (Am ups h) w' val vc
def UpsFree(d:Nat)(h:Aw)(ups:Dc):Prop:=∀ b,A0 ups b=true->AF d b=true->Al h b=none
def UpsFree.nid {d:Nat} {h:Aw} {ups:Dc} (k:UpsFree d h ups) (hi:A0 ups (nid d)=true):Al h (nid d)=none:=k _ hi (by
 have v:ble (Gx.nid d) (Gx.nid d)=true:=by simp
 have A:Nat.blt (Gx.nid d) (Gx.nid d+16)=true:=by simp
 rw[AF,v,A];rfl)
def LZ{d:Nat}{x:Blk}{cs:Array Value}{ty:TypeId}(S:SimH J β h w)(hn:Al h (nid d)=none)(B:x.dead=false)(hs:x.sealed=false)(k:x.cells.length<=cs.size)(C:CellsRep J β h w x (fun j=>cs[j]?))(v:x.mp=false:=by rfl)(hty:TyOk x.ty ty 0 cs.size:=by exact TyOk.none):
  OpDone J β h w [(nid d,some x)] (.optr (nid d) 0) (.pointer (some ⟨w.heap.size,0,none⟩)) (w.alloc (.cells cs ty)):=by
 have A:=Step.new (ty:=ty) (fr:=(0,0)) S hn B hs ⟨.inl rfl,hty⟩ k C v
 refine⟨_,_,A,?_⟩
 rw[Rep]
 exact⟨x,w.heap.size,0,⟨by simp[Am,Ag],v⟩,rfl,.inr (by simp)⟩
def OpDone.after{ups ups':Dc}{val:AV}{vc:Value}{J1:Bool->Nat->Prop}{β1:Bx}{v:World}(A:Step J β h w J1 β1 (Am ups h) v)(B:OpDone J1 β1 (Am ups h) v ups' val vc w')
  (hs:∀ k,Ay w k<=Ay w' k):OpDone J β h w (ups++ups') val vc w':=by
 obtain⟨J2,β2,B1,B2⟩:=B
 exact⟨J2,β2,by rw[By];exact A.trans B1 (fun _ k _ _=>hs k),by rw[By];exact B2⟩
def Ny(w:World)(o:Obj):∀ k,Ay w k<=Ay (w.alloc o) k:=fun k=>by
 by_cases v:k<w.heap.size
 ·simp[Ay,C2 w _ v]
 ·simp[Ay,Ajc (Aju v)]
def CW{t:TypeId}{vc:Value}:(Instr.box t vc).run P w=.ok (.pointer (some ⟨w.heap.size,0,none⟩)) (w.alloc (.cells vc.cells t)):=by simp[Instr.box,newVar,newRow]
def n9{co:Bool}{t:TypeId}{v:AV}{vv:Value}{k:AV->O R}(B:WH P co t v k=some r)(C:Rep J β h w v vv):∃ v',k v'=some r/\Rep J β h w v' vv:=by
 unfold WH at B
 split at B
 ·rename_i c org
  rw[Rep]at C
  obtain⟨cs,rfl,h1,D⟩:=C
  obtain⟨l,G,I⟩:=IH (β:=β) (h:=h) D B (fun j x L=>by simp at L)
  obtain⟨T,V⟩:=uc G
  simp at T
  refine⟨_,V,?_⟩
  rw[Rep]
  refine⟨cs,rfl,Bu.2 ⟨by omega,fun j x u Y hu=>?_⟩⟩
  obtain⟨u',A,hr⟩:=I j x Y
  rw[hu]at A;simp at A;subst A;exact hr
 ·exact⟨_,B,C⟩
def wT{t q m:Nat}(h:nN P t=some (q,m)):t=q/\A8 P t=some m:=by
 have key:∀{o:Option Nat},o=A8 P t->(o.map fun n=>(t,n))=some (q,m)->t=q/\A8 P t=some m:=by
  intro o k h
  cases o with
  |none=>simp at h
  |some n=>simp at h;exact⟨h.1,by rw[<-k,h.2]⟩
 unfold nN at h
 split at h
 ·obtain⟨f,_,h⟩:=ub h
  split at h
  ·obtain⟨_,h⟩:=uc h;exact key rfl h
  ·obtain⟨g,_,h⟩:=ub h
   split at h
   ·obtain⟨_,h⟩:=uc h;exact key rfl h
   ·cases h
  ·cases h
 ·cases h
def fK{d:Nat}{t:TypeId}{v:AV}{vv:Value}{k:AV->Dc->O R}(S:SimH J β h w)(hl:Looks g h)(D:pp P g d t v k=some r)(T:Rep J β h w v vv):
  ∃ val ups,k val ups=some r/\(UpsFree d h ups->∃ vc w',(Instr.box t vv).run P w=.ok vc w'/\OpDone J β h w ups val vc w'):=by
 unfold pp at D
 split at D
 ·rename_i c org
  refine⟨_,_,D,fun hn=>⟨_,_,CW,?_⟩⟩
  replace hn:=hn.nid (by simp[Oz,A0])
  rw[Rep]at T
  obtain⟨cs,rfl,h1,G⟩:=T
  exact LZ S hn rfl rfl (by simp[Value.cells,h1]) ⟨fun _=>by simpa[Value.cells]using G,fun I=>by simp at I⟩
 ·rename_i c
  cases I:uw P t with
  | true =>
   rw[I]at D
   obtain⟨C,D⟩:=uc D
   simp only[Aho]at C
   obtain⟨C,L⟩:=C
   have L:=Aht L
   refine⟨_,_,D,fun hn=>⟨_,_,CW,?_⟩⟩
   replace hn:=hn.nid (by simp[A0])
   rw[Rep]at T
   obtain⟨cs,rfl,G⟩:=T
   rw[Bu]at G
   have hty:TyOk (nN P t) t 0 (Value.agg ⟨cs⟩).cells.size:=fun q m hq=>by
    obtain⟨e1,e2⟩:=wT hq
    refine⟨e1,rfl,.inr ?_⟩
    rw[e2]at L
    simp[Value.cells,G.1];simpa using L
   refine LZ S hn rfl rfl (by simp[Value.cells,G.1]) ⟨fun I=>by simp at I,fun _ j y V=>?_⟩ rfl hty
   have Y:j<cs.length:=by rw[G.1];exact(Ahx.1 V).1
   exact⟨cs[j],by simp[Value.cells,Y],G.2 j y _ V (Ahk Y),Im (O2 C j y V) (G.2 j y _ V (Ahk Y))⟩
  |false =>
   rw[I]at D
   obtain⟨⟨c',u1,o1⟩,hq,h1⟩:=ub D
   refine⟨_,_,h1,fun hn=>⟨_,_,CW,?_⟩⟩
   replace hn:=hn.nid (by simp[Gt,Oz,A0])
   rw[Rep]at T
   obtain⟨cs,rfl,G⟩:=T
   obtain⟨J1,A,hA,hlen,_⟩:=O1 S hl.s hq G
   refine OpDone.after A (LZ A.sim (vE hl (Wj hq) hn) rfl rfl (by simp[Value.cells,hlen]) ⟨fun _=>?_,fun I=>by simp at I⟩) (Ny _ _)
   simpa[Value.cells]using hA
 ·rename_i v h1 G
  obtain⟨C,D⟩:=uc D
  refine⟨_,_,D,fun hn=>⟨_,_,CW,?_⟩⟩
  replace hn:=hn.nid (by simp[Oz,A0])
  have ho:=Im C T
  have B:vv.cells=#[vv]:=by cases vv<;>simp_all[Value.cells,Value.oneCell']
  refine LZ S hn rfl rfl (by simp[B]) ⟨fun I=>by simp at I,fun _ j y V=>?_⟩
  cases j with
  |zero=>simp at V;subst V;exact⟨vv,by simp[B],T,ho⟩
  |succ j=>simp at V
end
end Gx
namespace Gx
open Go
def n_(z:LA):∀(l j:Nat),j<l*z.length->(D4 l z)[j]?=z[j%z.length]?:=by
 have flat:∀(l j:Nat),j<l*z.length->((replicate l z).flatten)[j]?=z[j%z.length]?:=by
  intro l
  induction l with
  |zero=>intro j k;simp at k
  | succ l B =>
   intro j k
   rw[Amf,List.flatten_cons,Aiv]
   by_cases A:j<z.length
   ·rw[if_pos A,Aig A]
   ·rw[if_neg A,B _ (by rw[Aob]at k;omega)]
    rw[Nat.mod_eq_sub_mod (a:=j) (by omega)]
 intro l j k
 unfold D4
 split
 ·rename_i v
  simp at k
  simp[k,Nat.mod_one]
 ·exact flat l j k
def E3(l:Nat)(z:LA):(D4 l z).length=l*z.length:=by
 unfold D4
 split
 ·simp
 ·simp
section
variable{R:Type}{r:R}{P:Program}{J J':Bool->Nat->Prop}{β:Bx}{h:Aw}{w w':World}{g:A2}
def CX{J:Nat->Prop}:∀{cs:List Value},A4 (Jo cs)=true->∀(j:Nat)(u:Value),cs[j]?=some u->∃ x,(Jo cs)[j]?=some x/\RepC J w x u
|[],_,j,u,k=>by simp at k
| v::r,A,j,u,k=>by
  have key:∃ x,WA v=x/\A4 (Jo r)=true/\RepC J w x v:=by
   rw[Jo]at A
   have hr:=CT (J:=fun _=>J) (β:=fun _=>none) (h:=[]) (w:=w) v
   cases B:WA v<;>rw[B]at A hr<;>simp[A4]at A<;>refine⟨_,rfl,A,?_⟩<;>(rw[Rep]at hr;rw[RepC];exact hr)
  obtain⟨x,B,C,hr⟩:=key
  cases j with
  |zero=>simp at k;subst k;exact⟨x,by simp[Jo,B],hr⟩
  |succ j =>
   obtain⟨y,D,G⟩:=CX (J:=J) (cs:=r) C j u (by simpa using k)
   exact⟨y,by simpa[Jo]using D,G⟩
def S9:∀ cs:List Value,(Jo cs).length=cs.length
|[]=>rfl
|v::r=>by simp[Jo,S9 r]
def Nz{t:TypeId}{z:LA}(A:NX P t=some z):∃ i v,P.info? t=some i/\i.zero=some v/\z=Jo v.cells.toList/\A4 z=true/\v.cells.size=i.size/\z.length=i.size:=by
 unfold NX at A
 obtain⟨i,hi,C⟩:=ub A
 obtain⟨v,D,G⟩:=ub C
 obtain⟨k,B⟩:=uc G
 simp at B k
 subst B
 exact⟨i,v,hi,D,rfl,k.1,by simpa using k.2,by rw[S9];simpa using k.2⟩
def CY{J:Nat->Prop}{v:Value}(L:A4 (Jo v.cells.toList)=true)(l n:Nat)(V:l*v.cells.size<=n):
  RepCs J w (D4 l (Jo v.cells.toList)) (fun j=>(madeCells v.cells n)[j]?) 0:=by
 rw[Bn]
 intro j x C
 have A:(Jo v.cells.toList).length=v.cells.size:=by rw[S9];simp
 have k:j<l*(Jo v.cells.toList).length:=by
  have:=(Ahx.1 C).1
  rwa [E3]at this
 rw[n_ _ _ _ k]at C
 rw[A]at C k
 have B:0<v.cells.size:=by
  rcases Aib v.cells.size with D|D
  ·rw[D]at k;simp at k
  ·exact D
 have I:j%v.cells.size<v.cells.size:=Ajf _ B
 obtain⟨y,G,T⟩:=CX (w:=w) (J:=J) L (j%v.cells.size) v.cells[j%v.cells.size] (by simp[I])
 rw[C]at G;simp at G;subst G
 refine⟨_,?_,T⟩
 have:j<n:=by omega
 simp[madeCells,this,getElem!_pos,I]
def SF{d n cap sz:Nat}{x:Blk}{cs:Array Value}{ty:TypeId}{fr:Nat×Nat}(S:SimH J β h w)(hn:Al h (nid d)=none)(L:x.dead=false)(hs:x.sealed=false)(G:x.sz=sz)
  (D:FrTy x.ty ty 0 cs.size fr) (k:x.cells.length=n*sz) (I:cap*sz<=cs.size) (v:n<=cap) (T:CellsRep J β h w x (fun j=>cs[j]?)) (B:x.mp=false:=by rfl) :
  OpDone J β h w [(nid d,some x)] (.own (nid d) 0 n) (.slice (some ⟨w.heap.size,0,none⟩) n cap) (w.alloc (.cells cs ty fr)):=by
 have V:n*sz<=cap*sz:=Ahp _ v
 have A:=Step.new (ty:=ty) (fr:=fr) S hn L hs D (by omega) T B
 refine⟨_,_,A,?_⟩
 rw[Rep]
 refine⟨x,_,cap,⟨by simp[Am,Ag],B⟩,rfl,v,.inr ⟨w.heap.size,0,rfl,.inr ⟨by simp,?_,by rw[G,k];omega⟩⟩⟩
 have C:(w.alloc (.cells cs ty fr)).heap[w.heap.size]?=some (.cells cs ty fr):=by show(w.heap.push _)[_]?=_;simp
 rw[C9 C,G];omega
def qE{d:Nat}{t:TypeId}{l c:AV}{vl vc:Value}{k:AV->Dc->O R}(S:SimH J β h w)(B:lI P d t l c k=some r)(I:Rep J β h w l vl)(L:Rep J β h w c vc):
  ∃ val ups,k val ups=some r/\(UpsFree d h ups->∃ u w',(Instr.makeSlice t vl vc).run P w=.ok u w'/\OpDone J β h w ups val u w'):=by
 unfold lI at B
 split at B
 ·rename_i V l c Y
  obtain⟨sz,hs,h1⟩:=ub B
  obtain⟨by_,T,h2⟩:=ub h1
  obtain⟨z,hz,h3⟩:=ub h2
  obtain⟨hq,h4⟩:=uc h3
  simp at hq
  obtain⟨q1,q2,q3,q4⟩:=hq
  rw[Rep]at I L;subst I L
  obtain⟨i,v,hi,hv,rfl,C,e1,e2⟩:=Nz hz
  have A:i.size=sz:=by simp[A8,hi]at hs;exact hs
  have D:i.bytes=by_:=by simp[nI,hi]at T;exact T
  have G:A0 (Oz d true false sz (D4 l.toNat (Jo v.cells.toList))) (nid d)=true:=by simp[Oz,A0]
  refine⟨_,_,h4,fun hn=>⟨_,_,run_make w t V i v Y hi hv _ _ l c q1 q2 (by rw[D,Int.mul_comm];omega) (by omega),?_⟩⟩
  refine SF (sz:=sz) S (hn.nid G) rfl rfl rfl FrTy.un0 ?_ (by rw[size_madeCells,A];exact Ahl _) (by omega) ⟨fun _=>?_,fun C=>by simp at C⟩
  ·show(D4 l.toNat (Jo v.cells.toList)).length=_
   rw[E3,e2,A]
  ·exact CY C _ _ (by rw[e1];exact Ahp _ (by omega))
 ·simp at B
def Yield.src{sz n:Nat}{tx:TypeId}{vx:Value}{us:List Value}(Y:Yield P w sz vx n us)(k:nR P tx=true)(A:∀ u∈us,u.oneCell'=true):Src P sz tx vx n us w:=by
 refine⟨?_,Y.len,?_,?_,Y.length,A⟩
 ·unfold nR at k
  split at k
  ·rename_i e v;exact .inl ⟨e,v⟩
  ·rename_i v;exact .inr v
  ·simp at k
 ·have:=Y.cells w n (fun _=>rfl) (Ahl _)
  rwa [<-Y.length,Aic]at this
 ·have:=Y.cells w.drew n (fun _=>rfl) (Ahl _)
  rwa [<-Y.length,Aic]at this
def na{J:Nat->Prop}{a b:LA}{us vs:List Value}(B:RepCs J w a (fun j=>us[j]?) 0)(C:RepCs J w b (fun j=>vs[j]?) 0)(D:a.length=us.length)(tail:List Value):
  RepCs J w (a++b) (fun j=>(us++vs++tail)[j]?) 0:=by
 rw[Bn]
 intro j x k
 rw[Aiv]at k
 simp only[Ah0]
 by_cases A:j<a.length
 ·rw[if_pos A]at k
  obtain⟨u,v,hr⟩:=B.at k
  refine⟨u,?_,hr⟩
  rw[Akc,Aiv,if_pos (by omega)];exact v
 ·rw[if_neg A]at k
  obtain⟨u,v,hr⟩:=C.at k
  refine⟨u,?_,hr⟩
  have G:j - a.length<vs.length:=(Ahx.1 v).1
  rw[Akc,Aiv,if_neg (by omega),Aiv,if_pos (by omega),<-D];exact v
def CZ(w:World)(k:Nat):Ay w.drew k=Ay w k:=rfl
def fL{d sz n1 n2 cap0:Nat}{t tx ty v:TypeId}{i:TypeInfo}{z vx:Value}{A:Option Addr}{olds news:List Value}{c1 B:LA}{o:Bool}(S:SimH J β h w)(hn:Al h (nid d)=none)
  (hu:P.underlying t=some (.slice v)) (hi:P.info? v=some i) (hz:i.zero=some z) (L:i.size=sz) (T:z.cells.size=sz)
  (C:∀ w':World,(∀ a,w'.cell? a=w.cell? a)->(Builtin.firstCells sz n1 (.slice A n1 cap0)).run P w'=.ok olds.toArray w') (D:olds.length=n1*sz)
  (Y:Yield P w sz vx n2 news) (ht:nR P tx=true) (ho:∀ u∈news,u.oneCell'=true)
  (h1:RepCs (J o) w c1 (fun j=>olds[j]?) 0) (G:c1.length=olds.length) (h2:RepCs (J o) w B (fun j=>news[j]?) 0) (V:B.length=news.length)
  (hg:cap0<n1+n2) (hb1:n1+n2<=140737488355328) (hb2:(n1+n2)*i.bytes<=140737488355328) {X:Option (Nat×Nat)} (hX:∀ q,X=some q->q=(v,0)) :
  ∃ u w',(Builtin.append_ #[t,tx] ty #[.slice A n1 cap0,vx]).run P w=.ok u w' /\
   OpDone J β h w [(nid d,some {dead:=false,sealed:=false,pure:=true,taint:=o,sz:=sz,cells:=c1++B,ty:=X})] (.own (nid d) 0 (n1+n2)) u w'/\(∀ k,Ay w k<=Ay w' k):=by
 subst L
 have run:=run_append_grow_src (P:=P) w t tx ty v i z hu hi hz A n1 cap0 olds (C w.drew (fun _=>rfl)) vx n2 news (Y.src ht ho) hg (by omega) (growslice_fits hg hb2)
 have I:n1+n2<=grownCap w (n1+n2) cap0 v:=by
  unfold grownCap;simp[Question.cut]
 refine⟨_,_,run,?_,?_⟩
 ·obtain⟨J',β',B1,B2⟩:=SF (d:=d) (n:=n1+n2) (cap:=grownCap w (n1+n2) cap0 v) (sz:=i.size) (ty:=v) (fr:=(0,0)) (x:={dead:=false,sealed:=false,pure:=true,taint:=o,sz:=i.size,cells:=c1++B,ty:=X})
   (cs:=(olds++news).toArray++Builtin.zeroCells z.cells (grownCap w (n1+n2) cap0 v - (n1+n2))) (Step.drew S).sim hn rfl rfl rfl ⟨.inl rfl,fun t m hm=>by have:=hX _ hm;simp at this;exact⟨this.1.symm,rfl,.inl this.2⟩⟩
   (by simp[G,V,D,Y.length,Ahv]) (by
    simp[Builtin.zeroCells,D,Y.length,T]
    rw[<-Ahv,<-Ahv];exact Ahp _ (by omega)) I
   ⟨fun _=>by
    have:=na h1 h2 G (Builtin.zeroCells z.cells (grownCap w (n1+n2) cap0 v - (n1+n2))).toList
    show RepCs (J o) w.drew (c1++B) _ 0
    refine RepCs.keep (J:=J o) (w:=w) (w':=w.drew) (fun _ hj=>hj) (fun _ _=>rfl) (fun j=>?_) this
    rw[<-Anc]
    simp,fun hp=>by simp at hp⟩
  exact⟨J',β',(Step.drew S).trans B1 (fun _ k _ _=>by rw[<-CZ];exact Ny _ _ k),B2⟩
 ·intro k;rw[<-CZ];exact Ny _ _ k
def L_{J:Bool->Nat->Prop}(A:∀ k,J false k->J true k)(a b:Bool)(k:Nat)(v:J a k):J (a||b) k:=by
 cases a
 ·cases b
  ·exact v
  ·exact A k v
 ·exact v
def fM{J:Bool->Nat->Prop}(v:∀ k,J false k->J true k)(a b:Bool)(k:Nat)(A:J b k):J (a||b) k:=by rw[Am6];exact L_ v b a k A
def qF{d sz:Nat}{x:Blk}{A:Option Addr}(S:SimH J β h w)(hn:Al h (nid d)=none)(v:x.cells=[])(k:x.mp=false:=by rfl):
  OpDone J β h w [(nid d,some x)] (.own (nid d) 0 0) (.slice A 0 0) w:=by
 refine⟨_,_,Step.newNone S hn v k,?_⟩
 rw[Rep]
 exact⟨x,A,0,⟨by simp[Am,Ag],k⟩,rfl,Ahl _,.inl rfl⟩
def qG{g:A2}{k tx:TypeId}{s:AV}{q:Nat×Nat}(h:ZZ P g k tx s=some q):q=(k,0):=by
 unfold ZZ at h
 split at h
 ·split at h
  ·simp at h;exact h.symm
  ·cases h
 ·obtain⟨x,_,h⟩:=ub h
  obtain⟨y,_,h⟩:=ub h
  obtain⟨_,h⟩:=uc h
  simp at h;exact h.symm
 ·cases h
def yY{g:A2}{A tx b off n o m:Nat}{ty:TypeId}{y:Blk}(B:E1 g b=some y)(C:TyOk y.ty ty o m):TyOk (ZZ P g A tx (.own b off n)) ty (o+off) m:=by
 intro t k h
 have e:=qG h
 simp at e;obtain⟨rfl,rfl⟩:=e
 unfold ZZ at h
 simp only[B,Ai3]at h
 obtain⟨q,hq,h⟩:=ub h
 obtain⟨v,_⟩:=uc h
 simp only[Aho]at v
 have c1:=Aht v.1
 have G:=Aht v.2.1
 have c3:=Aht v.2.2
 obtain⟨D,I,_⟩:=C q.1 q.2 hq
 exact⟨by rw[D,c1],by omega,.inl rfl⟩
def ji {d:Nat} {t tx ty:TypeId} {s x:AV} {vs vx:Value} {k:AV->Dc->O R} (S:SimH J β h w) (hl:Looks g h) (hh:LU P g d t tx s x k=some r) (hs:Rep J β h w s vs) (hx:Rep J β h w x vx) :
  ∃ val ups,k val ups=some r/\(UpsFree d h ups->∃ u w',(Builtin.append_ #[t,tx] ty #[vs,vx]).run P w=.ok u w'/\OpDone J β h w ups val u w'):=by
 unfold LU at hh
 split at hh
 ·rename_i el hu
  obtain⟨ht,h0⟩:=uc hh
  obtain⟨sz,hsz,h1⟩:=ub h0
  obtain⟨by_,hby,h2⟩:=ub h1
  obtain⟨zz,hz,h3⟩:=ub h2
  obtain⟨old,D,h4⟩:=ub h3
  obtain⟨new,us,h5,Y,I,hur⟩:=CU (P:=P) S hl h4 hx
  obtain⟨hq,h6⟩:=uc h5
  simp at hq
  obtain⟨q1,q2⟩:=hq
  obtain⟨i,z,hi,hiz,rfl,hp,e1,e2⟩:=Nz hz
  have C:i.size=sz:=by simp[A8,hi]at hsz;exact hsz
  have hb':i.bytes=by_:=by simp[nI,hi]at hby;exact hby
  have G:=RepCs.one hur I.symm
  have hur':RepCs (J (old.2.2.1||new.2.2)) w new.1 (fun j=>us[j]?) 0:=RepCs.keep (J:=J new.2.2) (w:=w) (fM S.jft _ _) (fun _ _=>rfl) (fun _=>rfl) hur
  refine⟨_,_,h6,fun hn=>?_⟩
  replace hn:=hn.nid (by simp[Gt,A0])
  have hX:∀ q,ZZ P g el tx s=some q->q=(el,0):=fun q=>qG
  have empty:∀(A:Option Addr),vs=.slice A 0 0->old.1=[]->old.2.1=0->old.2.2.2=[] ->
    ∃ u w',(Builtin.append_ #[t,tx] ty #[vs,vx]).run P w=.ok u w'/\OpDone J β h w (old.2.2.2++[(nid d,some {dead:=false,sealed:=false,pure:=true,taint:=old.2.2.1||new.2.2,sz,cells:=old.1++new.1,ty:=ZZ P g el tx s})]) (.own (nid d) 0 (old.2.1+new.2.1)) u w':=by
   intro A hA o1 o2 o3
   subst hA
   rw[o1,o2,o3]
   rcases Aib new.2.1 with h0|h0
   ·have hus:us=[]:=by have:=Y.length;rw[h0]at this;simpa using this
    subst hus
    have L:=Y.src ht G
    rw[h0]at L
    refine⟨_,_,run_append_nothing (P:=P) w t tx ty el i hu hi A 0 0 (Ahl _) vx (by rw[C];exact L),?_⟩
    rw[h0]
    have hnc:new.1=[]:=by simpa using I
    exact qF (sz:=sz) S hn (by simp[hnc])
   ·obtain⟨u,w',g1,g2,_⟩:=fL (ty:=ty) (c1:=[]) (olds:=[]) (n1:=0) (cap0:=0) (A:=A) S hn hu hi hiz C (by rw[e1,C]) (fun w' _=>by
      cases A with
      |none=>exact run_firstCells_none (P:=P) w' sz 0 0 0
      | some a=>exact run_firstCells_some (P:=P) w' sz 0 a 0 0 [] (by simp) (fun j v hv=>by simp at hv)) (by simp) Y ht G (by simp[RepCs]) rfl hur' I (by omega) (by rw[o2] at q1;omega) (by rw[o2,<-hb'] at q2;exact q2) hX
    exact⟨u,w',g1,g2⟩
  unfold uz at D
  split at D
  ·simp at D;subst D
   rw[Rep]at hs
   exact empty none hs rfl rfl rfl
  ·rename_i c n sz' org
   obtain⟨hz0,h7⟩:=uc D
   simp at hz0 h7;subst hz0;subst h7
   rw[Rep,RepC]at hs
   obtain⟨_,A,cap,hv,_,hcap,_⟩:=hs
   have:=hcap rfl;subst this
   exact empty A hv rfl rfl rfl
  ·rename_i b off n
   obtain⟨y,hy,h7⟩:=ub D
   obtain⟨hc,h8⟩:=uc h7
   simp at hc h8
   obtain⟨c1,c2,c3⟩:=hc
   subst h8;subst c3
   obtain⟨hb,hd⟩:=Cw hl hy
   simp only at *
   rw[Rep]at hs
   obtain⟨y',A,cap,⟨hy1,hmp⟩,rfl,hcap,hr⟩:=hs
   rw[hb]at hy1;simp at hy1;subst hy1
   have kill:=Step.kill (y:={y with dead:=true,pure:=true,cells:=[]}) S hb rfl
   have hkn:Al (Ei h b {y with dead:=true,pure:=true,cells:=[]}) (nid d)=none:=by
    rw[Ag,if_neg (fun e=>by rw[<-e,hn]at hb;cases hb)];exact hn
   have T:Am [(b,none)] h=Ei h b {y with dead:=true,pure:=true,cells:=[]}:=by simp[Am,hb]
   by_cases hc0:cap=0
   ·have hn0:n=0:=by omega
    subst hc0;subst hn0
    have S':=kill.sim
    rcases Aib new.2.1 with h0|h0
    ·have hus:us=[]:=by have:=Y.length;rw[h0]at this;simpa using this
     subst hus
     have L:=Y.src ht G
     rw[h0]at L
     refine⟨_,_,run_append_nothing (P:=P) w t tx ty el i hu hi A 0 0 (Ahl _) vx (by rw[C];exact L),?_⟩
     rw[h0]
     have hnc:new.1=[]:=by simpa using I
     refine OpDone.after (ups:=[(b,none)]) (by rw[T];exact kill) ?_ (fun _=>Ahl _)
     rw[T]
     exact qF (sz:=y.sz) S' hkn (by simp[hnc])
    ·obtain⟨u,w',g1,g2,g3⟩:=fL (ty:=ty) (c1:=[]) (olds:=[]) (n1:=0) (cap0:=0) (A:=A) S' hkn hu hi hiz C (by rw[e1,C]) (fun w' _=>by
       cases A with
       |none=>exact run_firstCells_none (P:=P) w' y.sz 0 0 0
       | some a=>exact run_firstCells_some (P:=P) w' y.sz 0 a 0 0 [] (by simp) (fun j v hv=>by simp at hv)) (by simp) Y ht G (by simp[RepCs]) rfl hur' I (by omega) (by omega) (by rw[<-hb'] at q2;exact q2) hX
     refine⟨u,w',g1,OpDone.after (ups:=[(b,none)]) (by rw[T];exact kill) ?_ g3⟩
     rw[T];simpa[Oz]using g2
   ·rcases hr with hr | ⟨kk,o,rfl,hr⟩
    ·exact absurd hr hc0
    ·rcases hr with hr|⟨r1,r2,r3⟩
     ·simp[hd]at hr
     ·rcases S.blk b y hb hd hmp with⟨hn',_⟩|⟨k',o',cs,ty',fr,hβ',g1,g2,g3,g4,g5,g6⟩
      ·rw[r1]at hn';simp at hn'
      ·rw[r1]at hβ';simp at hβ';obtain⟨rfl,rfl⟩:=hβ'
       have hbs:=C9 g1
       have hpure:=((g4.1 c1).drop off).take (n*y.sz)
       have hpl:((y.cells.drop off).take (n*y.sz)).length=n*y.sz:=by simp;omega
       by_cases V:n+new.2.1<=cap
       ·
        have hle:(n+new.2.1)*y.sz<=cap*y.sz:=Ahp _ V
        rw[Ahv]at hle
        have run:=run_append_room_src (P:=P) w t tx ty el i hu hi kk (o+off) n cap vx new.2.1 us (by rw[C];exact Y.src ht G) V (fun j hj=>by
          rw[C,M7 g1];have:=Y.length;simp;omega) (fun j hj=>by
          rw[C];simp only[World.frozen?,g1]
          have h9:=Y.length
          have:=g2.1.at (o+off+n*y.sz+j) (by omega)
          cases fr;simp at this ⊢;omega)
        rw[C]at run
        obtain⟨cs',O,hO⟩:=OnlyBlk.setCells (k:=kk) us (o+off+n*y.sz) w cs g1
        have h9:=Y.length
        have B:=Step.move (y:={y with dead:=true,pure:=true,cells:=[]}) (o':=o+off) (x':={dead:=false,sealed:=false,pure:=true,taint:=y.taint||new.2.2,sz:=y.sz,cells:=(y.cells.drop off).take (n*y.sz)++new.1,ty:=ZZ P g el tx (.own b off n)}) S hb hd c2 r1 hn rfl O rfl rfl
         (by rw[Ahy,hpl,I];omega) ⟨fun _=>by
          show RepCs (J (y.taint||new.2.2)) w ((y.cells.drop off).take (n*y.sz)++new.1) _ 0
          rw[Bn]
          intro j q hj
          rw[Aiv,hpl]at hj
          simp only[Ah0]
          by_cases hjn:j<n*y.sz
          ·rw[if_pos hjn]at hj
           obtain⟨v,hv,hvr⟩:=hpure.at hj
           refine⟨v,?_,RepC.keep (J:=J y.taint) (w:=w) (L_ S.jft _ _) (fun _ _=>rfl) hvr⟩
           rw[hO,if_neg (by omega),Ai1];exact hv
          ·rw[if_neg hjn]at hj
           obtain⟨v,hv,hvr⟩:=hur'.at hj
           refine⟨v,?_,hvr⟩
           have:j - n*y.sz<us.length:=(Ahx.1 hv).1
           rw[hO,if_pos (by omega),<-hv];congr 1;omega,fun hp=>by simp at hp⟩ hmp (hty:=yY (P:=P) (tx:=tx) (n:=n) hy g2.2)
        refine⟨_,_,run,J,(fun b=>if b=nid d then some (kk,o+off)else β b),?_,?_⟩
        ·rw[By,T];exact B
        ·rw[By,T,Rep]
         refine⟨_,_,cap,⟨by simp[Oz,Am,Ag];rfl,rfl⟩,rfl,V,.inr ⟨kk,o+off,rfl,.inr ⟨by simp,?_,?_⟩⟩⟩
         ·rw[C9 O.new,O.sz];simp;omega
         ·simp only[Ahy,hpl,I,h9,Ah0];rw[Ahv];exact Ahl _
       ·
        obtain⟨olds,l1,l2,l3⟩:=hpure.list
        obtain⟨u,w',g1',g2',g3'⟩:=fL (ty:=ty) (c1:=(y.cells.drop off).take (n*y.sz)) (olds:=olds) (n1:=n) (cap0:=cap) (A:=some ⟨kk,o+off,none⟩) kill.sim hkn hu hi hiz C (by rw[e1,C]) (fun w' he =>
          run_firstCells_some (P:=P) w' y.sz n _ n cap olds (by rw[l1,hpl]) (fun j v hv=>by
           rw[he,Addr.add_mid,M7 g1,Ai1];exact l2 j v hv)) (by rw[l1,hpl]) Y ht G
          (RepCs.keep (J:=J y.taint) (w:=w) (L_ S.jft _ _) (fun _ _=>rfl) (fun _=>rfl) l3) l1.symm hur' I (by omega) (by omega) (by rw[<-hb']at q2;exact q2) hX
        refine⟨u,w',g1',OpDone.after (ups:=[(b,none)]) (by rw[T];exact kill) ?_ g3'⟩
        rw[T];exact g2'
  ·simp at D
 ·simp at hh
end
end Gx
namespace Gx
open Go
section
variable{R:Type}{r:R}{P:Program}{J J':Bool->Nat->Prop}{β:Bx}{h:Aw}{w w':World}{g:A2}
def Step.retaint(S:SimH J β h w){d:Nat}{x:Blk}(hx:Al h d=some x)(V:x.dead=false)(hs:x.sealed=false)(hp:x.pure=true)(Y:x.mp=false)(o:Bool):
  Step J β h w J β (Ei h d {x with taint:=x.taint||o}) w:=by
 have E:Ext J β h w J β (Ei h d {x with taint:=x.taint||o}) w:=by
  refine⟨fun _ _ L=>L,fun o k L=>rfl,fun b z v=>?_,fun b k o T=>Ahl _⟩
  by_cases e:b=d
  ·subst e;rw[hx]at v;simp at v;subst v
   exact⟨{x with taint:=x.taint||o},⟨by rw[Ag,if_pos rfl],rfl⟩,.inr ⟨V,rfl,rfl,fun _=>rfl⟩⟩
  ·refine⟨z,⟨by rw[Ag,if_neg e];exact v,rfl⟩,?_⟩
   cases V:z.dead
   ·exact .inr ⟨rfl,rfl,rfl,fun _=>rfl⟩
   ·exact .inl rfl
 refine⟨E,⟨S.jlt,S.jft,S.gl.ext E,fun b z v A hm=>?_,fun b z v A hm=>by
   rw[Ag]at v
   by_cases e:b=d
   ·rw[if_pos e]at v;simp at v;subst v;simp[Y]at hm
   ·rw[if_neg e]at v
    exact(S.mblk b z v A hm).keep rfl (fun k o T=>rfl) (fun _ _ _ _ L=>L),?_⟩,rfl,rfl,rfl,Ahl _,fun k hk _=>rfl,?_,fun _ _ L=>.inl L⟩
 ·rw[Ag]at v
  by_cases e:b=d
  ·rw[if_pos e]at v;simp at v;subst v;subst e
   rcases S.blk b x hx V Y with B|⟨k,o',C,D,G,B,h2,h3,h4,h5,h6,h7⟩
   ·exact .inl B
   ·refine .inr ⟨k,o',C,D,G,B,h2,h3,h4,CellsRep.ext E ⟨fun _=>?_,fun hh=>?_⟩,fun _=>h6 hs,fun hh=>by simp[hs]at hh⟩
    ·exact RepCs.keep (J:=J x.taint) (w:=w) (L_ S.jft _ _) (fun _ _=>rfl) (fun _=>rfl) (h5.1 hp)
    ·simp[hp]at hh
  ·rw[if_neg e]at v
   rcases S.blk b z v A hm with B|⟨k,o,C,D,G,B,h2,h3,h4,h5,h6,h7⟩
   ·exact .inl B
   ·exact .inr ⟨k,o,C,D,G,B,h2,h3,h4,h5.ext E,h6,h7⟩
 ·intro b b' z z' k oo oo' v hb' hd1 hd2 I T hβ'
  have get:∀{c y},Al (Ei h d {x with taint:=x.taint||o}) c=some y->y.dead=false->∃ y',Al h c=some y'/\y'.dead=false/\(y.sealed=false->y'.sealed=false):=by
   intro c y hc hyd
   rw[Ag]at hc
   by_cases e:c=d
   ·subst e;exact⟨x,hx,V,fun _=>hs⟩
   ·rw[if_neg e]at hc;exact⟨y,hc,hyd,id⟩
  obtain⟨y1,g1,g2,g3⟩:=get v hd1
  obtain⟨y2,g4,g5,g6⟩:=get hb' hd2
  exact S.sep b b' y1 y2 k oo oo' g1 g4 g2 g5 (g3 I) T hβ'
 ·rintro k ⟨b,z,o,v,A,I,T⟩ hk
  rw[Ag]at v
  by_cases e:b=d
  ·subst e;exact⟨b,x,o,hx,V,hs,T⟩
  ·rw[if_neg e]at v
   exact⟨b,z,o,v,A,I,T⟩
def fN(c:LA)(off:Nat):C8 c off []=c:=by simp[C8]
def aF{B:IntKind}:∀(n:Nat)(c:LA)(k:LA->O R),PQ B n c k=some r->∃ vs,k vs=some r/\vs.length=n/\∀(j:Nat)(v:AV),vs[j]?=some v->(∃ i,v=.int B i)/\c[j]?=some v
|0,_,k,h=>⟨[],h,rfl,by simp⟩
| n+1,c,k,h=>by
  rw[PQ]at h
  obtain⟨x,G,h⟩:=ub h
  obtain⟨i,hi,h⟩:=ub h
  obtain⟨vs,I,L,T⟩:=aF n _ _ h
  refine⟨_,I,by simp[L],fun j v A=>?_⟩
  cases j with
  | zero =>
   simp at A;subst A
   refine⟨⟨_,rfl⟩,?_⟩
   rw[<-Aij,G]
   unfold NY at hi
   split at hi
   ·obtain⟨C,hn⟩:=uc hi
    simp[Ih]at C hn;subst C;subst hn;rfl
   ·cases hi
  |succ j =>
   simp at A
   obtain⟨V,D⟩:=T j v A
   refine⟨V,?_⟩
   rw[Ain]at D
   rw[<-D,Ako]
def nc {t tx ty el sz b off n:TypeId} {y:Blk} {q:LA×Nat×Bool} {us:List Value} {vs vx:Value} {k:AV->Dc->O R} (S:SimH J β h w) (hu:P.underlying t=some (.slice el)) (hsz:A8 P el=some sz) (hb:Al h b=some y) (hd:y.dead=false)
  (hh:WI P el sz b off n y q k=some r) (hs:Rep J β h w (.own b off n) vs) (Y:Yield P w sz vx q.2.1 us) (hul:q.1.length=us.length) (T:RepCs (J q.2.2) w q.1 (fun j=>us[j]?) 0) :
  ∃ val ups,k val ups=some r/\∃ u w',(Builtin.copy_ #[t,tx] ty #[vs,vx]).run P w=.ok u w'/\OpDone J β h w ups val u w':=by
 unfold WI at hh
 split at hh
 ·rename_i kd hk
  obtain⟨hc,h1⟩:=uc hh
  simp at hc
  obtain⟨c0,c1,c2,c3,c4,c5,c6⟩:=hc
  subst c0
  obtain⟨ws,h2,hw,hws⟩:=aF _ _ _ h1
  have V:=RepCs.one T hul.symm
  refine⟨_,_,h2,?_⟩
  rw[Rep]at hs
  obtain⟨y',A,cap,⟨C,hmp⟩,rfl,hcap,hr⟩:=hs
  rw[hb]at C;simp at C;subst C
  have hm:Nat.min q.2.1 n=n:=Nat.min_eq_right c5
  have v:=Y.cells w n (fun _=>rfl) c5
  have hlen:=Y.len w
  rcases hr with hr|⟨kk,o,rfl,hr⟩
  ·omega
  ·rcases hr with hr|⟨r1,r2,r3⟩
   ·simp[hd]at hr
   ·rcases S.blk b y hb hd hmp with⟨hn',_⟩|⟨k',o',cs,ty',fr,D,g1,g2,g3,g4,g5,g6⟩
    ·rw[r1]at hn';simp at hn'
    ·rw[r1]at D;simp at D;obtain⟨rfl,rfl⟩:=D
     have hul':=Y.length
     have htl:(us.take (n*1)).length=n:=by rw[Ah3];omega
     obtain⟨cs',O,hO⟩:=OnlyBlk.setCells (k:=kk) (us.take (n*1)) (o+off) w cs g1
     have G:=run_storeCells_cells (P:=P) kk (o+off) (us.take (n*1)) 0 w (fun j L=>by
       rw[Aiq,M7 g1];simp;omega)
      (fun j L=>by
       rw[Aiq];simp only[World.frozen?,g1]
       have:=g2.1.at (o+off+j) (by omega)
       cases fr;simp at this ⊢;omega) (fun u hu=>V u (Ak4 hu))
     simp only[Aiq]at G
     have B:=Step.set (x':={ y with cells:=C8 y.cells off ws }) S hb hd c3 r1 O hd c3 rfl (J9 (by omega)) ⟨fun hp=>by simp[c4] at hp,fun _=>by
      intro j x L
      rw[Qq (by omega),hw]at L
      split at L
      ·obtain⟨⟨i,rfl⟩,h5⟩:=hws _ _ L
       obtain⟨u,I,hr⟩:=T.at h5
       refine⟨u,?_,?_,?_⟩
       ·show cs'[o+j]?=some u
        rw[hO,if_pos (by omega),Ajd,if_pos (by omega),<-I];congr 1;omega
       ·rw[RepC]at hr;rw[Rep];exact hr
       ·rw[RepC]at hr;rw[hr];rfl
      ·obtain⟨u,I,hr⟩:=g4.2 c4 j x L
       refine⟨u,?_,hr⟩
       show cs'[o+j]?=some u
       rw[hO,if_neg (by omega)];exact I⟩ hmp
     refine⟨.int .i64 (n:Nat),_,?_,J,β,B,by rw[Rep]⟩
     simp only[Ah1]at G
     simp[Builtin.copy_,run_underlying hu,hlen,B0 hsz,hm,v,goInt,G]
 ·cases hh
def qH {t tx ty:TypeId} {s x:AV} {vs vx:Value} {k:AV->Dc->O R} (S:SimH J β h w) (hl:Looks g h) (hh:lJ P g t s x k=some r) (hs:Rep J β h w s vs) (hx:Rep J β h w x vx) :
  ∃ val ups,k val ups=some r/\∃ u w',(Builtin.copy_ #[t,tx] ty #[vs,vx]).run P w=.ok u w'/\OpDone J β h w ups val u w':=by
 unfold lJ at hh
 split at hh
 ·rename_i el b off n I
  obtain⟨sz,D,h1⟩:=ub hh
  obtain⟨y,hy,h2⟩:=ub h1
  obtain⟨new,us,h3,Y,L,G⟩:=CU (P:=P) S hl h2 hx
  obtain⟨hb,hd⟩:=Cw hl hy
  cases V:(y.pure&&(!y.sealed&&beq sz y.sz))with
  |false=>rw[V]at h3;exact nc S I D hb hd h3 hs Y L G
  |true =>
  rw[V]at h3
  have h4:=h3
  simp only[cond_true]at h4
  have hc:=V
  simp at hc
  obtain⟨c1,c2,c3⟩:=hc
  subst c3
  have hone:=RepCs.one G L.symm
  refine⟨_,_,h4,?_⟩
  rw[Rep]at hs
  obtain⟨y',A,cap,⟨hy1,hmp⟩,rfl,hcap,hr⟩:=hs
  rw[hb]at hy1;simp at hy1;subst hy1
  have hm:Nat.min new.2.1 n<=new.2.1:=Nat.min_le_left _ _
  have v:=Y.cells w (Nat.min new.2.1 n) (fun _=>rfl) hm
  have C:=Y.len w
  by_cases hn0:Nat.min new.2.1 n*y.sz=0
  ·
   refine⟨.int .i64 (Nat.min new.2.1 n:Nat),w,?_,J,β,?_,by rw[Rep]⟩
   ·have e:us.take (Nat.min new.2.1 n*y.sz)=[]:=by rw[hn0];rfl
    rw[e]at v
    cases A with
    |none=>simp[Builtin.copy_,run_underlying I,C,B0 D,v,goInt]
    |some a=>simp[Builtin.copy_,run_underlying I,C,B0 D,v,goInt,storeCells]
   ·have e:(new.1.take (min new.2.1 n*y.sz))=[]:=by
     have:min new.2.1 n*y.sz=0:=hn0
     rw[this];rfl
    have T:=Step.retaint S hb hd c2 c1 hmp new.2.2
    simp only[Am]
    rw[e,fN]
    exact T
  ·rcases hr with hr|⟨kk,o,rfl,hr⟩
   ·have:n=0:=by omega
    subst this;simp at hn0
   ·rcases hr with hr|⟨r1,r2,r3⟩
    ·simp[hd]at hr
    ·rcases S.blk b y hb hd hmp with⟨hn',_⟩|⟨k',o',cs,ty',fr,hβ',g1,g2,g3,g4,g5,g6⟩
     ·rw[r1]at hn';simp at hn'
     ·rw[r1]at hβ';simp at hβ';obtain⟨rfl,rfl⟩:=hβ'
      have hle1:Nat.min new.2.1 n*y.sz<=new.2.1*y.sz:=Ahp _ hm
      have hle2:Nat.min new.2.1 n*y.sz<=n*y.sz:=Ahp _ (Nat.min_le_right _ _)
      have hul':=Y.length
      have htl:(us.take (Nat.min new.2.1 n*y.sz)).length=Nat.min new.2.1 n*y.sz:=by rw[Ah3];omega
      have htl':(new.1.take (Nat.min new.2.1 n*y.sz)).length=Nat.min new.2.1 n*y.sz:=by rw[Ah3];omega
      obtain⟨cs',O,hO⟩:=OnlyBlk.setCells (k:=kk) (us.take (Nat.min new.2.1 n*y.sz)) (o+off) w cs g1
      have hst:=run_storeCells_cells (P:=P) kk (o+off) (us.take (Nat.min new.2.1 n*y.sz)) 0 w (fun j hj=>by
        rw[Aiq,M7 g1];simp;omega)
       (fun j hj=>by
        rw[Aiq];simp only[World.frozen?,g1]
        have:=g2.1.at (o+off+j) (by omega)
        cases fr;simp at this ⊢;omega) (fun u I=>hone u (Ak4 I))
      simp only[Aiq]at hst
      have B:=Step.set (x':={ y with cells:=C8 y.cells off (new.1.take (Nat.min new.2.1 n*y.sz)),taint:=y.taint||new.2.2 }) S hb hd c2 r1 O hd c2 rfl (J9 (by omega)) ⟨fun _=>by
       show RepCs (J (y.taint||new.2.2)) w (C8 y.cells off (new.1.take (Nat.min new.2.1 n*y.sz))) _ 0
       rw[Bn]
       intro j q hj
       rw[Qq (by omega),htl']at hj
       simp only[Ah0]
       split at hj
       ·obtain⟨u,hu',hr⟩:=(G.take _).at hj
        refine⟨u,?_,RepC.keep (J:=J new.2.2) (w:=w) (fM S.jft _ _) (fun _ _=>rfl) hr⟩
        rw[hO,if_pos (by omega),Ajd,if_pos (by omega),<-hu'];congr 1;omega
       ·obtain⟨u,hu',hr⟩:=(g4.1 c1).at hj
        refine⟨u,?_,RepC.keep (J:=J y.taint) (w:=w) (L_ S.jft _ _) (fun _ _=>rfl) hr⟩
        rw[hO,if_neg (by omega)];exact hu',fun hp=>by simp[c1] at hp⟩ hmp
      refine⟨.int .i64 (Nat.min new.2.1 n:Nat),_,?_,J,β,B,by rw[Rep]⟩
      simp[Builtin.copy_,run_underlying I,C,B0 D,v,goInt,hst]
 ·rename_i el I
  obtain⟨sz,D,h1⟩:=ub hh
  obtain⟨new,us,h2,Y,L,G⟩:=CU (P:=P) S hl h1 hx
  rw[Rep]at hs;subst hs
  have C:=Y.len w
  have v:=Y.cells w 0 (fun _=>rfl) (Alr _)
  simp at v
  refine⟨_,_,h2,.int .i64 0,w,?_,J,β,Step.refl S,by rw[Rep]⟩
  have hm:∀ m:Nat,Nat.min m 0=0:=fun m=>Nat.min_eq_right (Alr _)
  simp[Builtin.copy_,run_underlying I,C,B0 D,hm,v,goInt]
 ·simp at hh
def nf {t ty:TypeId} {s:AV} {vs:Value} {k:AV->Dc->O R} (S:SimH J β h w) (hl:Looks g h) (hh:WJ P g t s k=some r) (hs:Rep J β h w s vs) :
  ∃ val ups,k val ups=some r/\∃ u w',(Builtin.clear_ #[t] ty #[vs]).run P w=.ok u w'/\OpDone J β h w ups val u w':=by
 unfold WJ at hh
 split at hh
 ·rename_i el b off n Y
  obtain⟨sz,hsz,h1⟩:=ub hh
  obtain⟨z,hz,h2⟩:=ub h1
  obtain⟨y,hy,h3⟩:=ub h2
  obtain⟨hc,h4⟩:=uc h3
  simp at hc
  obtain⟨c1,c2,c3⟩:=hc
  subst c3
  obtain⟨hb,hd⟩:=Cw hl hy
  obtain⟨i,v,hi,hv,rfl,hp,e1,e2⟩:=Nz hz
  have hs':i.size=y.sz:=by simp[A8,hi]at hsz;exact hsz
  have hzv:∀ w,(zeroValue el).run P w=.ok v w:=fun w=>by simp[zeroValue,typeInfo,hi,hv]
  have C:=E3 n (Jo v.cells.toList)
  rw[e2,hs']at C
  have hzc:Builtin.zeroCells v.cells n=madeCells v.cells (n*v.cells.size):=rfl
  have hul:(Builtin.zeroCells v.cells n).toList.length=n*y.sz:=by rw[hzc,Akt,size_madeCells,e1,hs']
  have hur:RepCs (J y.taint) w (D4 n (Jo v.cells.toList)) (fun j=>(Builtin.zeroCells v.cells n).toList[j]?) 0:=by
   have:=CY (J:=J y.taint) (w:=w) hp n (n*v.cells.size) (Ahl _)
   rw[<-hzc]at this
   simpa using this
  have hone:=RepCs.one hur (by rw[hul,C])
  refine⟨_,_,h4,?_⟩
  rw[Rep]at hs
  obtain⟨y',A,cap,⟨G,I⟩,rfl,hcap,hr⟩:=hs
  rw[hb]at G;simp at G;subst G
  by_cases D:n*y.sz=0
  ·have e0:(Builtin.zeroCells v.cells n).toList=[]:=Al7 (by rw[hul,D])
   refine⟨.tuple #[],w,?_,J,β,?_,by rw[Rep];exact⟨[],rfl,by rw[Reps]⟩⟩
   ·cases n with
    |zero=>cases A<;>simp[Builtin.clear_,run_underlying Y]
    |succ n =>
     cases A with
     |none=>simp[Builtin.clear_,run_underlying Y]
     |some a=>simp[Builtin.clear_,run_underlying Y,hzv,e0,storeCells]
   ·have e:D4 n (Jo v.cells.toList)=[]:=Al7 (by rw[C,D])
    have T:=Step.retaint S hb hd c2 c1 I false
    simp only[Am]
    rw[e,fN]
    simpa using T
  ·rcases hr with hr|⟨kk,o,rfl,hr⟩
   ·have:n=0:=by omega
    subst this;simp at D
   ·rcases hr with hr|⟨r1,r2,r3⟩
    ·simp[hd]at hr
    ·rcases S.blk b y hb hd I with⟨hn',_⟩|⟨k',o',cs,ty',fr,L,g1,g2,g3,g4,g5,g6⟩
     ·rw[r1]at hn';simp at hn'
     ·rw[r1]at L;simp at L;obtain⟨rfl,rfl⟩:=L
      obtain⟨cs',O,hO⟩:=OnlyBlk.setCells (k:=kk) (Builtin.zeroCells v.cells n).toList (o+off) w cs g1
      have hst:=run_storeCells_cells (P:=P) kk (o+off) (Builtin.zeroCells v.cells n).toList 0 w (fun j hj=>by
        rw[Aiq,M7 g1];simp;omega)
       (fun j hj=>by
        rw[Aiq];simp only[World.frozen?,g1]
        have:=g2.1.at (o+off+j) (by omega)
        cases fr;simp at this ⊢;omega) (fun u Y=>hone u Y)
      simp only[Aiq]at hst
      have B:=Step.set (x':={ y with cells:=C8 y.cells off (D4 n (Jo v.cells.toList)) }) S hb hd c2 r1 O hd c2 rfl (J9 (by omega)) ⟨fun _=>by
       show RepCs (J y.taint) w (C8 y.cells off (D4 n (Jo v.cells.toList))) _ 0
       rw[Bn]
       intro j q hj
       rw[Qq (by omega),C]at hj
       simp only[Ah0]
       split at hj
       ·obtain⟨u,V,hr⟩:=hur.at hj
        refine⟨u,?_,hr⟩
        rw[hO,if_pos (by omega),<-V];congr 1;omega
       ·obtain⟨u,V,hr⟩:=(g4.1 c1).at hj
        refine⟨u,?_,hr⟩
        rw[hO,if_neg (by omega)];exact V,fun hp=>by simp[c1] at hp⟩ I
      refine⟨.tuple #[],_,?_,J,β,B,by rw[Rep];exact⟨[],rfl,by rw[Reps]⟩⟩
      cases n with
      |zero=>simp at D
      |succ n=>simp[Builtin.clear_,run_underlying Y,hzv,hst]
 ·simp at hh
def OD:∀{c:LA}{s:Lu}{us:List Value}{J:Nat->Prop},RW c=some s->RepCs J w c (fun j=>us[j]?) 0->c.length=us.length ->
  ∃ ns:List Int,us=ns.map (Value.int .u8)/\s=ns.map (fun n=>UInt8.ofNat n.toNat)
|[],s,us,J,C,G,I=>by
  simp[RW]at C;subst C
  have:us=[]:=by cases us<;>simp_all
  exact⟨[],by simp[this],rfl⟩
| x::r,s,us,J,C,G,I=>by
  rw[RW]at C
  obtain⟨b,k,h1⟩:=ub C
  obtain⟨l,L,V⟩:=ub h1
  simp at V;subst V
  cases us with
  |nil=>simp at I
  | cons u us =>
   rw[RepCs]at G
   obtain⟨⟨u',D,hr⟩,A⟩:=G
   simp at D;subst D
   unfold yL at k
   split at k
   ·rename_i n
    simp at k;subst k
    rw[RepC]at hr;subst hr
    have B:RepCs J w r (fun j=>us[j]?) 0:=by
     rw[Bn]at A ⊢
     intro j y hj
     obtain⟨v,Y,T⟩:=A j y hj
     refine⟨v,?_,T⟩
     rw[show 0+1+j=j+1 by omega]at Y
     simpa using Y
    obtain⟨ns,h3,h4⟩:=OD L B (by simpa using I)
    exact⟨n::ns,by simp[h3],by simp[h4]⟩
   ·simp at k
def yZ:∀(ns:List Int)(s:Lu),(ns.foldl (fun r n=>r.push (UInt8.ofNat n.toNat)) (⟨⟨s⟩⟩:ByteArray))=⟨⟨s++ns.map fun n=>UInt8.ofNat n.toNat⟩⟩
|[],s=>by simp
| n::r,s=>by
  rw[Alf]
  have:(⟨⟨s⟩⟩:ByteArray).push (UInt8.ofNat n.toNat)=⟨⟨s++[UInt8.ofNat n.toNat]⟩⟩:=by
   simp[ByteArray.push]
  rw[this,yZ r];simp
def qI {d:Nat} {src dst:TypeId} {x:AV} {vx:Value} {k:AV->Dc->O R} (S:SimH J β h w) (hl:Looks g h) (v:lK P g d src dst x k=some r) (B:Rep J β h w x vx) :
  ∃ val ups,k val ups=some r/\(UpsFree d h ups->∃ u w',(convert src dst vx).run P w=.ok u w'/\OpDone J β h w ups val u w'):=by
 unfold lK at v
 split at v
 ·rename_i kd I
  split at v
  ·rename_i kd' n
   rw[Rep]at B;subst B
   obtain⟨T,h1⟩:=uc v
   obtain⟨s,hs⟩:=Am0.1 T
   refine⟨_,_,h1,fun _=>⟨.int kd (kd.wrap n),w,?_,J,β,Step.refl S,by rw[Rep]⟩⟩
   cases s<;>simp[convert,run_underlying hs,run_underlying I,Conv.intToInt]
  ·simp at v
 ·rename_i I
  split at v
  ·rename_i hs
   split at v
   ·rename_i s
    rw[Rep]at B;subst B
    refine⟨_,_,v,fun _=>⟨.string ⟨⟨s⟩⟩,w,?_,J,β,Step.refl S,by rw[Rep]⟩⟩
    simp[convert,run_underlying hs,run_underlying I]
   ·simp at v
  ·rename_i G hs
   split at v
   ·rename_i he
    split at v
    ·simp at v
    ·rename_i hns
     obtain⟨q,hq,h1⟩:=ub v
     obtain⟨s,hs',h2⟩:=ub h1
     obtain⟨us,Y,hul,hur⟩:=aE (P:=P) S hl hq B
     obtain⟨ns,e1,e2⟩:=OD hs' hur hul
     refine⟨_,_,h2,fun _=>⟨.string ⟨⟨s⟩⟩,w,?_,J,β,Step.refl S,by rw[Rep]⟩⟩
     have hv:∃ A n cap,vx=.slice A n cap:=by
      unfold lG at hq
      split at hq
      ·rw[Rep]at B;exact⟨_,_,_,B⟩
      ·rw[Rep,RepC]at B;obtain⟨_,A,cap,rfl,_⟩:=B;exact⟨_,_,_,rfl⟩
      ·rw[Rep]at B;obtain⟨_,A,cap,_,rfl,_⟩:=B;exact⟨_,_,_,rfl⟩
      ·exact absurd rfl (hns _)
      ·simp at hq
     obtain⟨A,n,cap,rfl⟩:=hv
     have hn:q.2.1=n:=by have:=Y.len w;simpa[Builtin.lenOf]using this.symm
     have hc:=Y.cells w n (fun _=>rfl) (by omega)
     have hyl:=Y.length
     rw[hn]at hyl
     rw[show us.take (n*1)=us by rw[<-hyl,Aic]]at hc
     have V:(convert src dst (.slice A n cap)).run P w=(Conv.bytesToString (.slice A n cap)).run P w:=by
      cases A<;>simp[convert,run_underlying hs,run_underlying I,run_underlying he]
     rw[V]
     cases A with
     |none =>
      rw[run_firstCells_none]at hc
      injection hc with hc1 _
      have hus:us=[]:=by simpa using hc1.symm
      rw[hus]at e1
      have hns':ns=[]:=by simpa using e1.symm
      rw[hns']at e2
      simp at e2;subst e2
      simp[Conv.bytesToString];rfl
     |some a =>
      simp only[Builtin.firstCells,Ah1]at hc
      rw[e1]at hc
      rw[run_bytesToString w a n cap ns hc,e2]
      have:=yZ ns []
      simp at this
      rw[<-this];rfl
   ·simp at v
  ·simp at v
 ·rename_i G I
  split at v
  ·rename_i e' b off n hs he
   obtain⟨C,h1⟩:=uc v
   simp only[Aho]at C
   obtain⟨C,hn1⟩:=C
   have hn1:1<=n:=by simpa using hn1
   have C:=Aht C
   subst C
   have hee:e'=G:=by rw[hs]at I;simpa using I
   subst hee
   obtain⟨x,D,h2⟩:=ub h1
   obtain⟨hsl,h3⟩:=sn h2
   obtain⟨D,hd⟩:=Cw hl D
   refine⟨_,_,h3,fun _=>?_⟩
   have hx':=B
   rw[Rep]at B
   obtain⟨x0,A,cap,⟨hx0,hmp⟩,rfl,hle,hr⟩:=B
   rw[D]at hx0;simp at hx0;subst hx0
   rcases hr with hr|⟨k1,o1,rfl,hr⟩
   ·omega
   ·rcases hr with hr|⟨hβ,_,_⟩
    ·simp[hd]at hr
    ·rcases S.blk b x D hd hmp with⟨h4,_⟩|⟨k2,o2,cs,ty,fr,h4,h5,h6,h7,h8,h9,h10⟩
     ·rw[hβ]at h4;simp at h4
     ·rw[hβ]at h4;simp at h4;obtain⟨rfl,rfl⟩:=h4
      have hsh:w.shape? k1=some (ty,cs.size):=by simp[World.shape?,h5]
      have hnew:∃ fr',(w.freeze ⟨k1,cs.size,none⟩ 1).heap[k1]?=some (.cells cs ty fr')/\FrOk cs.size fr':=by
       obtain⟨lo,hi⟩:=fr
       refine⟨if lo==hi then(cs.size,cs.size+1)else(min lo cs.size,max hi (cs.size+1)),?_,?_⟩
       ·simp[World.freeze,Ai6,h5]
       ·by_cases e:lo=hi
        ·simp[e,FrOk]
        ·have h11:cs.size<=lo:=by rcases h6 with h6|h6;exact absurd h6 e;exact h6
         simp[e,FrOk];omega
      obtain⟨fr',hf1,hf2⟩:=hnew
      have A:=Step.mark S D hd hsl hβ h5 hf1 hf2 (fun j L=>by
       simp only[World.freeze]
       rw[if_neg (by decide)]
       show(w.heap.modify k1 _)[j]?=_
       rw[Ai6,if_neg (fun e=>L e.symm)]) (by simp[World.freeze]) rfl rfl rfl hmp
      refine⟨_,w.freeze ⟨k1,cs.size,none⟩ 1,?_,J,β,A,Rep.ext A.ext hx'⟩
      simp[convert,run_underlying hs,run_underlying he,markStringish,hsh]
  ·rename_i s hs he
   rw[Rep]at B;subst B
   refine⟨_,_,v,fun hn=>⟨_,_,run_bytes_of_string (P:=P) w src dst G ⟨⟨s⟩⟩ hs I he,?_⟩⟩
   replace hn:=hn.nid (by simp[Oz,A0])
   have hsz:(⟨⟨s⟩⟩:ByteArray).size=s.length:=rfl
   have hcap:s.length<=grownCap w s.length 0 G:=by unfold grownCap;simp[Question.cut]
   rw[hsz]
   obtain⟨J',β',B1,B2⟩:=SF (d:=d) (n:=s.length) (cap:=grownCap w s.length 0 G) (sz:=1) (ty:=G) (fr:=((bytesRow ⟨⟨s⟩⟩ (grownCap w s.length 0 G)).size,(bytesRow ⟨⟨s⟩⟩ (grownCap w s.length 0 G)).size+1))
    (x:={dead:=false,sealed:=false,pure:=true,taint:=false,sz:=1,cells:=s.map fun b=>.int .u8 (b.toNat:Int)})
    (cs:=bytesRow ⟨⟨s⟩⟩ (grownCap w s.length 0 G)) (Step.drew S).sim hn rfl rfl rfl (FrOk.un (.inr (Ahl _))) (by simp) (by simp[bytesRow,hsz];omega) hcap
    ⟨fun _=>by
     show RepCs (J false) w.drew (s.map fun b=>.int .u8 (b.toNat:Int)) _ 0
     rw[Bn]
     intro j q L
     rw[Akd]at L
     cases hb:s[j]? with
     |none=>rw[hb]at L;simp at L
     |some b =>
      rw[hb]at L;simp at L;subst L
      refine⟨.int .u8 (b.toNat:Int),?_,by rw[RepC]⟩
      have hlt:j<s.length:=(Ahx.1 hb).1
      simp only[Ah0,bytesRow]
      rw[Aki (by simp;exact hlt)]
      simp[hb],fun hp=>by simp at hp⟩
   exact⟨J',β',(Step.drew S).trans B1 (fun _ k _ _=>by rw[<-CZ];exact Ny _ _ k),B2⟩
  ·simp at v
 ·simp at v
def fO{t:TypeId}{n:Nat}(h:A8 P t=some n):∃ j,P.info? t=some j/\j.size=n:=by
 unfold A8 at h
 cases hq:P.info? t with
|none=>rw[hq]at h;cases h
|some j=>rw[hq]at h;simp at h;exact⟨j,rfl,h⟩
def ng{d:Nat}{src dst:TypeId}{x:AV}{vx:Value}{k:AV->Dc->O R}(S:SimH J β h w)(Y:Looks g h)(v:WK P g d src dst x k=some r)(D:Rep J β h w x vx):
  ∃ val ups,k val ups=some r/\(UpsFree d h ups->∃ u w',(convert src dst vx).run P w=.ok u w'/\OpDone J β h w ups val u w'):=by
 unfold WK at v
 split at v
 ·rename_i hd
  split at v
  ·rename_i t b off hs
   obtain⟨n,hn,v⟩:=ub v
   obtain⟨y,hy,v⟩:=ub v
   obtain⟨L,v⟩:=uc v
   simp at L
   obtain⟨C,A⟩:=Cw Y hy
   have G:=D
   rw[Rep]at D
   obtain⟨x1,k1,o1,⟨I,gm⟩,rfl,B⟩:=D
   rw[C]at I;simp at I;subst I
   rcases B with B|B
   ·rw[B]at A;cases A
   obtain⟨j,hj,T⟩:=fO hn
   rcases S.blk b y C A gm with⟨e1,V⟩|⟨k2,o2,cs,ty,fr,e1,V,e3,e4,e5⟩
   ·rw[B]at e1;cases e1
   ·rw[B]at e1;simp at e1;obtain⟨rfl,rfl⟩:=e1
    refine⟨_,_,v,fun _=>⟨_,w,Lib.run_to_unsafe w ⟨k1,o1+off,none⟩ hs hd hj (by rw[T];exact fun e=>by rw[e]at L;simp at L) (e:=ty) (cells:=cs.size) (by simp[World.shape?,V]) (by show o1+off<_;omega),J,β,Step.refl S,G⟩⟩
  ·cases v
 ·rename_i u hd
  split at v
  ·rename_i b off hs
   obtain⟨n,hn,v⟩:=ub v
   obtain⟨y,hy,v⟩:=ub v
   obtain⟨q,hq,v⟩:=ub v
   obtain⟨L,v⟩:=uc v
   simp at L
   obtain⟨C,A⟩:=Cw Y hy
   have G:=D
   rw[Rep]at D
   obtain⟨x1,k1,o1,⟨I,gm⟩,rfl,B⟩:=D
   rw[C]at I;simp at I;subst I
   rcases B with B|B
   ·rw[B]at A;cases A
   obtain⟨j,hj,T⟩:=fO hn
   rcases S.blk b y C A gm with⟨e1,V⟩|⟨k2,o2,cs,ty,fr,e1,V,e3,e4,e5⟩
   ·rw[B]at e1;cases e1
   ·rw[B]at e1;simp at e1;obtain⟨rfl,rfl⟩:=e1
    obtain⟨rfl,rfl,e6⟩:=e3.2 q.1 q.2 hq
    have e6:cs.size=q.2:=by omega
    refine⟨_,_,v,fun _=>⟨_,w,Lib.run_from_unsafe w ⟨k1,0+off,none⟩ hs hd hj (e:=q.1) (cells:=cs.size) (by simp[World.shape?,V]) (by show liesAt P P.depth q.1 (cs.size/_) (0+off) u 1=true;rw[e6,Ah0];exact L.2.2),J,β,Step.refl S,G⟩⟩
  ·cases v
 ·exact qI S Y v D
def tC{fn : Func}(k : fn.name = "internal/abi.NoEscape"): Extern.find fn = some Extern.AbiNoEscape.same := by
 have l1 : Extern.allGenericRows.lookup "internal/abi.NoEscape" = none := by kernel_rfl
 have l2 : Extern.allTypedRows.lookup "internal/abi.NoEscape" = none := by kernel_rfl
 have l3 : Extern.allRows.lookup "internal/abi.NoEscape" = some Extern.AbiNoEscape.same := by kernel_rfl
 unfold Extern.find
 simp only[k,l1,l2,l3]
 rfl
def fP{fn : Func}(k : fn.name = "internal/abi.NoEscape")(v : fn.origin = ""): Extern.findNext fn = none := by
 have l1 : Extern.allNextRows.lookup "internal/abi.NoEscape" = none := by kernel_rfl
 have l2 : Extern.allNextRows.lookup "" = none := by kernel_rfl
 unfold Extern.findNext
 simp only[k,v,l1,l2]
 rfl
def wU{f:Nat}(h:yT P f=true)(x:Value)(w:World):(callFunc f #[x]).run P w=.ok (.value x) w:=by
 unfold yT at h
 split at h
 ·rename_i fn v
  simp only[Aho]at h
  obtain⟨A,hn,k⟩:=h
  have hn : fn.name = "internal/abi.NoEscape" := by simpa using hn
  have k : fn.origin = "" := by simpa using k
  rw[run_callFunc_extern v (by rw[hn];decide) A (fP hn k) (tC hn)]
  rfl
 ·cases h
def tD{x:AV}{b:UInt8}(h:nS x=some b):x=.int .u8 (b.toNat:Int):=by
 unfold nS at h
 split at h
 ·rename_i n
  obtain⟨v,k⟩:=uc h
  simp at k;subst k
  have:=of_decide_eq_true v
  rw[this]
 ·cases h
def II:∀{c:LA}{s:Lu},H_ c=some s->c=s.map fun b=>.int .u8 (b.toNat:Int)
|[],s,h=>by simp[H_]at h;subst h;rfl
|x::r,s,h=>by
  rw[H_]at h
  obtain⟨b,k,h⟩:=ub h
  obtain⟨l,v,h⟩:=ub h
  simp at h;subst h
  rw[tD k,II v];rfl
def WS{d:Nat}{ts:Array TypeId}{ty:TypeId}{x:AV}{vx:Value}{k:AV->Dc->O R}(S:SimH J β h w)(L:Looks g h)(v:Qk g x k=some r)(G:Rep J β h w x vx):
  ∃ val ups,k val ups=some r/\(UpsFree d h ups->∃ u w',(Builtin.unsafeSliceData_ ts ty #[vx]).run P w=.ok u w'/\OpDone J β h w ups val u w'):=by
 unfold Qk at v
 split at v
 ·rw[Rep]at G;subst G
  exact⟨_,_,v,fun _=>⟨.pointer none,w,rfl,J,β,Step.refl S,by rw[Rep]⟩⟩
 ·rename_i b off n
  obtain⟨y,T,v⟩:=ub v
  obtain⟨hn,v⟩:=uc v
  have hn:0<n:=by simpa using hn
  obtain⟨C,D⟩:=Cw L T
  rw[Rep]at G
  obtain⟨z,A,cap,⟨I,gm⟩,rfl,Y,B⟩:=G
  rw[C]at I;simp at I;subst I
  rcases B with B|⟨V,o1,rfl,B⟩
  ·omega
  rcases B with B|⟨B,_⟩
  ·rw[B]at D;cases D
  refine⟨_,_,v,fun _=>⟨_,w,Lib.run_unsafeSliceData_row w ts ty _ n cap (by omega),J,β,Step.refl S,?_⟩⟩
  rw[Rep]
  exact⟨y,V,o1,⟨C,gm⟩,rfl,.inr B⟩
 ·cases v
def WT{d:Nat}{t it ty:TypeId}{x n:AV}{vx vn:Value}{k:AV->Dc->O R}(S:SimH J β h w)(hl:Looks g h)(v:Ql P g t x n k=some r)(hx:Rep J β h w x vx)(hv:Rep J β h w n vn):
  ∃ val ups,k val ups=some r/\(UpsFree d h ups->∃ u w',(Builtin.unsafeString_ #[t,it] ty #[vx,vn]).run P w=.ok u w'/\OpDone J β h w ups val u w'):=by
 unfold Ql at v
 split at v
 ·rename_i n
  obtain⟨hn,v⟩:=uc v
  have hn:n=0:=by simpa using hn
  subst hn
  simp only[Rep]at hx hv;subst hx hv
  exact⟨_,_,v,fun _=>⟨_,w,Lib.run_unsafeString_none w t it ty none,J,β,Step.refl S,by rw[Rep];rfl⟩⟩
 ·rename_i b off n
  obtain⟨y,hy,v⟩:=ub v
  obtain⟨q,hq,v⟩:=ub v
  split at v
  ·rename_i e he
   obtain⟨hc,v⟩:=uc v
   obtain⟨s,hs,hk⟩:=ub v
   simp only[Aho,Amt,decide_eq_true_eq]at hc
   obtain⟨c1,c2,c3,c4,c5,c6,c7,c8⟩:=hc
   have c1:=Aht c1
   have c2:=Aht c2
   have c5:=Aht c5
   obtain⟨B,C⟩:=Cw hl hy
   simp only[Rep]at hx hv;subst hv
   obtain⟨z,T,o1,⟨g1,gm⟩,rfl,G⟩:=hx
   rw[B]at g1;simp at g1;subst g1
   rcases G with G|G
   ·rw[G]at C;cases C
   rcases S.blk b y B C gm with⟨e1,L⟩|⟨k2,o2,cs,ty2,fr,e1,L,e3,e4,e5,e6⟩
   ·rw[G]at e1;cases e1
   rw[G]at e1;simp at e1;obtain⟨rfl,rfl⟩:=e1
   obtain⟨rfl,rfl,_⟩:=e3.2 q.1 q.2 hq
   subst c5
   have hsl:s.length=n.toNat:=by
    have:=congrArg List.length (II hs)
    simp at this;omega
   have hsn:(n:Int)=(s.length:Int):=by omega
   subst hsn
   refine⟨_,_,hk,fun _=>⟨.string ⟨s.toArray⟩,w.freeze ⟨T,0,none⟩ s.length,?_,J,β,?_,by rw[Rep]⟩⟩
   ·refine Lib.run_unsafeString_row w t it ty q.1 (by rw[c1];exact he) (by rw[c1];exact c2) T cs.size (by simp[World.shape?,L]) s (by intro e;subst e;simp at c6) (by omega) (by omega) fun j x hj=>?_
    have hjl:j<s.length:=(Ahx.1 hj).1
    have I:y.cells[j]?=some (.int .u8 (x.toNat:Int)):=by
     have h2:(y.cells.take (s.length:Int).toNat)[j]?=some (.int .u8 (x.toNat:Int)):=by rw[II hs];simp[hj]
     rw[Ajd]at h2
     split at h2
     ·exact h2
     ·cases h2
    obtain⟨u,D,V⟩:=Bn.1 (e5.1 c3) j _ I
    rw[RepC]at V;subst V
    have D:cs[j]?=some (.int .u8 (x.toNat:Int)):=by simpa using D
    by_cases ej:j=0
    ·subst ej;simp[World.cell?,Addr.add,L,D]
    ·simp[World.cell?,Addr.add,L,ej,D]
   ·have ap:Am [(b,none)] h=Ei h b {y with dead:=true,pure:=true,cells:=[]}:=by simp[Am,B]
    rw[ap]
    have A:s.length≠0:=by omega
    refine Step.giveUp S B C c4 G gm rfl (fun j hj=>?_) (by simp[World.freeze,A]) (by simp[World.freeze,A]) (by simp[World.freeze,A]) (by simp[World.freeze,A]) ?_
    ·simp only[World.freeze]
     rw[if_neg A]
     show(w.heap.modify T _)[j]?=_
     rw[Ai6,if_neg (fun e=>hj e.symm)]
    ·obtain⟨lo,hi⟩:=fr
     have Y:∃ fr',(w.freeze ⟨T,0,none⟩ s.length).heap[T]?=some (.cells cs q.1 fr'):=⟨_,by simp[World.freeze,A,Ai6,L];rfl⟩
     obtain⟨fr',hf⟩:=Y
     rw[C9 L,C9 hf];exact Ahl _
  ·cases v
 ·cases v
end
end Gx
namespace Gx
open Go
def AI(CR:AV->Value->Prop)(c:LA)(cs:List Value):Prop:=c.length=cs.length/\∀(j:Nat)(x:AV)(u:Value),c[j]?=some x->cs[j]?=some u->CR x u
def PartsRel(CR:AV->Value->Prop):List (Nat×LA)->List (Nat×Value)->Prop
|[],vs=>vs=[]
|(i,c)::r,vs=>∃ v vs',vs=(i,v)::vs'/\AI CR c v.cells.toList/\PartsRel CR r vs'
def vF:∀(vs:List Value)(n off:Nat)(cells:Array Value)(j:Nat),
  ((vs.zipIdx n).foldl (fun(cs:Array Value)(p:Value×Nat)=>cs.setIfInBounds (off+p.2) p.1) cells)[j]?=if off+n<=j/\j<off+n+vs.length/\j<cells.size then vs[j - (off+n)]? else cells[j]?
|[],n,off,cells,j=>by simp;omega
| v::r,n,off,cells,j=>by
  rw[List.zipIdx_cons,Alf,vF r (n+1) off]
  simp only[Amz,Ah8]
  by_cases A:j=off+n
  ·subst A
   rw[if_neg (by omega)]
   by_cases k:off+n<cells.size
   ·rw[if_pos (by omega)];simp[k]
   ·rw[if_neg (by omega)];simp[k]
  ·by_cases k:off+(n+1)<=j/\j<off+(n+1)+r.length/\j<cells.size
   ·rw[if_pos k,if_pos (by omega),show j - (off+n)=(j - (off+(n+1)))+1 by omega];simp
   ·rw[if_neg k,if_neg (by omega),Aly (by omega)]
def SG:∀(vs:List Value)(n off:Nat)(cells:Array Value),((vs.zipIdx n).foldl (fun(cs:Array Value)(p:Value×Nat)=>cs.setIfInBounds (off+p.2) p.1) cells).size=cells.size
|[],_,_,_=>rfl
|v::r,n,off,cells=>by rw[List.zipIdx_cons,Alf,SG r];simp
def Wk{CR:AV->Value->Prop}{place:Nat->Option (Nat×Nat)}:∀{parts:List (Nat×LA)}{vparts:List (Nat×Value)}{c c':LA}{cs:Array Value},PartsRel CR parts vparts->AI CR c cs.toList ->
  Mw place parts c=some c'->∃ k,Instr.fill place cs vparts=some k/\AI CR c' k.toList
|[],vparts,c,c',cs,C,I,D=>by
  rw[PartsRel]at C;subst C
  simp[Mw]at D;subst D
  exact⟨cs,rfl,I⟩
| (i,vs)::r,vparts,c,c',cs,C,I,D=>by
  rw[PartsRel]at C
  obtain⟨v,vs',rfl,V,hr⟩:=C
  rw[Mw]at D
  obtain⟨p,T,h1⟩:=ub D
  obtain⟨Y,h2⟩:=uc h1
  simp at Y
  obtain⟨b1,b2⟩:=Y
  have e1:vs.length=v.cells.size:=by have:=V.1;simpa using this
  have e2:c.length=cs.size:=by have:=I.1;simpa using this
  have G:p.1+vs.length<=c.length:=by omega
  have key:AI CR (setCells c p.1 vs) (v.cells.zipIdx.foldl (fun(cs:Array Value)(q:Value×Nat)=>cs.setIfInBounds (p.1+q.2) q.1) cs).toList:=by
   have A:v.cells.zipIdx.foldl (fun(cs:Array Value)(q:Value×Nat)=>cs.setIfInBounds (p.1+q.2) q.1) cs=(v.cells.toList.zipIdx 0).foldl (fun(cs:Array Value)(q:Value×Nat)=>cs.setIfInBounds (p.1+q.2) q.1) cs:=by
    rw[<-Array.foldl_toList];simp
   rw[A]
   refine⟨by rw[Nn G,e2];exact(SG _ 0 _ _).symm,fun j x u L B=>?_⟩
   rw[CV G]at L
   rw[Anc,vF]at B
   simp only[Aiq,Akt]at B
   split at L
   ·rename_i hj
    rw[if_pos (by omega)]at B
    exact V.2 _ x u L B
   ·rename_i hj
    rw[if_neg (by omega)]at B
    exact I.2 j x u L (by simpa using B)
  obtain⟨k,g1,g2⟩:=Wk hr key h2
  refine⟨k,?_,g2⟩
  rw[Instr.fill,T]
  have:¬ (v.cells.size≠p.2||p.1+v.cells.size>cs.size)=true:=by simp;omega
  simp only[this]
  exact g1
section
variable{R:Type}{r:R}{P:Program}{J J':Bool->Nat->Prop}{β:Bx}{h:Aw}{w w':World}{g:A2}
def RepParts(J:Bool->Nat->Prop)(β:Bx)(h:Aw)(w:World):List (Nat×AV)->List (Nat×Value)->Prop
|[],vs=>vs=[]
|(i,x)::r,vs=>∃ v vs',vs=(i,v)::vs'/\Rep J β h w x v/\RepParts J β h w r vs'
def RepParts.ext{β':Bx}{h':Aw}(E:Ext J β h w J' β' h' w'):∀{ps:List (Nat×AV)}{vs:List (Nat×Value)},RepParts J β h w ps vs->RepParts J' β' h' w' ps vs
|[],_,hr=>hr
|(i,x)::r,vs,hr=>by
  rw[RepParts]at hr ⊢
  obtain⟨v,k,e,A,B⟩:=hr
  exact⟨v,k,e,Rep.ext E A,RepParts.ext E B⟩
def PartsRel.mono{CR CR':AV->Value->Prop}(A:∀ x u,CR x u->CR' x u):∀{ps:List (Nat×LA)}{vs:List (Nat×Value)},PartsRel CR ps vs->PartsRel CR' ps vs
|[],_,hr=>hr
|(i,c)::r,vs,hr=>by
  rw[PartsRel]at hr ⊢
  obtain⟨v,k,e,B,C⟩:=hr
  exact⟨v,k,e,⟨B.1,fun j x u D G=>A _ _ (B.2 j x u D G)⟩,PartsRel.mono A C⟩
def Rx{J:Nat->Prop}{c:LA}{us:List Value}(v:RepCs J w c (fun j=>us[j]?) 0)(A:c.length=us.length):AI (RepC J w) c us :=
 ⟨A,fun j x u B C=>by
  obtain⟨D,k,hr⟩:=v.at B
  rw[C] at k;simp at k;subst k;exact hr⟩
def Zl{J:Nat->Prop}{c:LA}{us:List Value}(k:AI (RepC J w) c us):RepCs J w c (fun j=>us[j]?) 0:=by
 rw[Bn]
 intro j x v
 have:j<us.length:=by rw[<-k.1];exact(Ahx.1 v).1
 exact⟨us[j],by simp[this],k.2 j x _ v (Ahk this)⟩
def T0:∀{ps:List (Nat×AV)}{vs:List (Nat×Value)}{q:List (Nat×LA)}{ups:Dc}{org:Bool}{J:Bool->Nat->Prop}{h:Aw},SimH J β h w->LooksS g h->V0 g ps=some (q,ups,org)->RepParts J β h w ps vs ->
  ∃ J',Step J β h w J' β (Am ups h) w/\PartsRel (RepC (J' org) w) q vs/\LooksS g (Am ups h)/\∀ b,A0 ups b=true->∃ x,g b=some x
|[],vs,q,ups,org,J,h,S,L,C,D=>by
  simp[V0]at C;obtain⟨rfl,rfl,rfl⟩:=C
  rw[RepParts]at D
  exact⟨J,Step.refl S,by rw[PartsRel];exact D,L,fun b G=>by simp[A0]at G⟩
| (i,x)::r,vs,q,ups,org,J,h,S,L,C,D=>by
  rw[V0]at C
  obtain⟨⟨c1,u1,o1⟩,hp,h1⟩:=ub C
  obtain⟨⟨q2,u2,o2⟩,hq,h2⟩:=ub h1
  simp at h2
  obtain⟨rfl,rfl,rfl⟩:=h2
  rw[RepParts]at D
  obtain⟨v,T,rfl,V,Y⟩:=D
  obtain⟨J1,A,hA,I,hl1⟩:=FY S L hp V
  obtain⟨J2,B,hB,hl2,hu2⟩:=T0 A.sim hl1 hq (RepParts.ext A.ext Y)
  refine⟨J2,by rw[By];exact A.trans B (fun _ _ _ _=>Ahl _),?_,by rw[By];exact hl2,fun b G=>?_⟩
  ·rw[PartsRel]
   refine⟨v,T,rfl,Rx (RepCs.keep (J:=J1 o1) (w:=w) (fun k hk=>L_ B.sim.jft _ _ k (B.ext.jsub _ k hk)) (fun _ _=>rfl) (fun _=>rfl) hA) I,?_⟩
   exact PartsRel.mono (fun x u hx=>RepC.keep (J:=J2 o2) (w:=w) (fun k hk=>fM B.sim.jft _ _ k hk) (fun _ _=>rfl) hx) hB
  ·rw[Gt]at G
   cases h3:A0 u1 b with
   |true=>exact jh hp b h3
   |false=>rw[h3]at G;exact hu2 b (by simpa using G)
def Ta{place:Nat->Option (Nat×Nat)}{k:LA->O R}:∀(ps:List (Nat×LA))(c:LA),ZX place ps c k=(Mw place ps c).bind k
|[],c=>rfl
|(i,vs)::r,c=>by
  rw[ZX,Mw,Ahj]
  congr 1;funext p
  rw[Ta r]
  cases (beq vs.length p.2&&ble (p.1+p.2) c.length)<;>rfl
def SH{d len:Nat}{t:TypeId}{ps:List (Nat×AV)}{vs:List (Nat×Value)}{k:AV->Dc->O R}(S:SimH J β h w)(hl:Looks g h)(T:Oe P g d t len ps k=some r)(hv:RepParts J β h w ps vs):
  ∃ val ups,k val ups=some r/\(UpsFree d h ups->∃ u w',(Instr.buildSlice t len vs.toArray).run P w=.ok u w'/\OpDone J β h w ups val u w'):=by
 unfold Oe at T
 split at T
 ·rename_i el hu
  obtain⟨sz,v,h1⟩:=ub T
  obtain⟨zz,hz,h2⟩:=ub h1
  obtain⟨⟨q,u1,o1⟩,hq,h3⟩:=ub h2
  obtain⟨hb,h4⟩:=uc h3
  rw[Ta]at h4
  obtain⟨cells,hc,h5⟩:=ub h4
  simp at hb
  obtain⟨i,z,hi,V,rfl,Y,e1,e2⟩:=Nz hz
  have B:i.size=sz:=by simp[A8,hi]at v;exact v
  refine⟨_,_,h5,fun hn=>?_⟩
  replace hn:=hn.nid (by simp[Gt,Oz,A0])
  obtain⟨J1,A,hA,_,G⟩:=T0 S hl.s hq hv
  have hz0:=CY (w:=w) (J:=J1 o1) Y len (len*sz) (by rw[e1,B];exact Ahl _)
  have hz1:AI (RepC (J1 o1) w) (D4 len (Jo z.cells.toList)) (madeCells z.cells (len*sz)).toList:=by
   refine Rx (RepCs.keep (J:=J1 o1) (w:=w) (fun _ hk=>hk) (fun _ _=>rfl) (fun j=>by simp) hz0) ?_
   rw[E3,e2,B,Akt,size_madeCells]
  obtain⟨C,f1,f2⟩:=Wk hA hz1 hc
  have I:cells.length=len*sz:=by
   have:∀{ps:List (Nat×LA)}{c c':LA},Mw (fun i=>some (i*sz,sz)) ps c=some c'->c'.length=c.length:=by
    intro ps
    induction ps with
    |nil=>intro c c' L;simp[Mw]at L;rw[L]
    |cons p r ih =>
     intro c c' L
     obtain⟨i,vs⟩:=p
     rw[Mw]at L
     obtain⟨p,hpl,g1⟩:=ub L
     obtain⟨gb,g2⟩:=uc g1
     simp at gb
     rw[ih g2,Nn (by omega)]
   rw[this hc,E3,e2,B]
  have hcs:C.size=len*sz:=by have:=f2.1;simp at this;omega
  refine⟨.slice (some ⟨w.heap.size,0,none⟩) len len,w.alloc (.cells C el),?_,?_⟩
  ·have D:Instr.fill (fun i=>some (i*sz,sz)) ((Array.range (len*sz)).map (z.cells[·%z.cells.size]!)) vs=some C:=f1
   have hnb:¬ (16777216<len*sz):=by omega
   by_cases h0:len*sz=0
   ·have hme:∀(a:Array Value),(Array.range (len*sz)).map (a[·%a.size]!)=#[]:=fun a=>by rw[h0];simp[Array.range_zero']
    rw[hme]at D
    simp[Instr.buildSlice,run_underlying hu,B0 v,h0,Array.range_zero',D,newRow]
   ·simp[Instr.buildSlice,run_underlying hu,B0 v,hnb,h0,zeroValue,typeInfo,hi,V,D,newRow]
  ·refine OpDone.after A (SF (sz:=sz) (fr:=(0,0)) A.sim (vE hl G hn) rfl rfl rfl FrTy.un0 I (by omega) (Ahl _) ⟨fun _=>?_,fun Y=>by simp at Y⟩) (Ny _ _)
   have:=Zl f2
   exact RepCs.keep (J:=J1 o1) (w:=w) (fun _ hk=>hk) (fun _ _=>rfl) (fun j=>by simp) this
 ·simp at T
def PS{t:TypeId}{ps:List (Nat×AV)}{k:AV->O R}:nQ P t ps k=(nP P t ps).bind k:=by
 unfold nQ nP
 rw[Ahj]
 congr 1;funext place
 cases (ps.all fun p=>HZ p.2)with
|false=>rfl
| true =>
  simp only[cond_true]
  cases (ps.any fun p=>CM p.2)with
  | true =>
   simp only[cond_true]
   cases (ps.any fun p=>fC p.2)with
   |true =>
    simp only[cond_true]
    rw[Ahj]
    congr 1;funext z
    rw[Ta]
    cases Mw place (Ij ps) z<;>rfl
   |false =>
    simp only[cond_false]
    rw[Ahj]
    congr 1;funext z
    rw[Ta]
    cases Mw place (Eu ps) z<;>rfl
  |false =>
   simp only[cond_false]
   rw[Ahj]
   congr 1;funext z
   rw[Ta]
   cases Mw place (Eu ps) z<;>rfl
def y5{x:AV}{u:Value}(hr:RepC (fun _=>False) w x u):Rep J β h w x u:=by
 have k:∀ o:Bool,RepC (J o) w x u:=fun o=>RepC.keep (J:=fun _=>False) (w:=w) (fun _ v=>v.elim) (fun _ _=>rfl) hr
 cases x
 case imm c n sz t org=>rw[Rep];exact k org
 case iptr c org=>rw[Rep];exact k org
 case fn f c =>
  cases c with
  |nil=>rw[RepC]at hr;subst hr;rw[Rep];exact⟨[],by simp,by rw[Reps]⟩
  |cons a l=>simp[RepC]at hr
 all_goals first|(rw[RepC]at hr;rw[Rep];exact hr)|simp[RepC]at hr
def WU{d len:Nat}{t:TypeId}{ps:List (Nat×AV)}{vs:List (Nat×Value)}{k:AV->Dc->O R}(S:SimH J β h w)(hh:Qj P g d t len ps k=some r)(L:RepParts J β h w ps vs):
  ∃ val ups,k val ups=some r/\(UpsFree d h ups->∃ u w',(Instr.buildSlice t len vs.toArray).run P w=.ok u w'/\OpDone J β h w ups val u w'):=by
 unfold Qj at hh
 split at hh
 ·rename_i el I
  obtain⟨sz,C,h1⟩:=ub hh
  obtain⟨zz,hz,h2⟩:=ub h1
  obtain⟨hb,h4⟩:=uc h2
  obtain⟨cells,hc,h5⟩:=ub h4
  simp at hb
  obtain⟨rfl,hb,hst⟩:=hb
  obtain⟨i,z,hi,hiz,rfl,hp,e1,e2⟩:=Nz hz
  have T:i.size=1:=by simp[A8,hi]at C;exact C
  refine⟨_,_,h5,fun hn=>?_⟩
  replace hn:=hn.nid (by simp[Oz,A0])
  have hz0:=CY (w:=w) (J:=fun _=>False) hp len (len*1) (by rw[e1,T];exact Ahl _)
  have hz1:AI (fun x u=>Rep J β h w x u/\u.oneCell'=true) (D4 len (Jo z.cells.toList)) (madeCells z.cells (len*1)).toList:=by
   have hl:AI (RepC (fun _=>False) w) (D4 len (Jo z.cells.toList)) (madeCells z.cells (len*1)).toList:=by
    refine Rx (RepCs.keep (J:=fun _=>False) (w:=w) (fun _ hk=>hk) (fun _ _=>rfl) (fun j=>by simp) hz0) ?_
    rw[E3,e2,T,Akt,size_madeCells]
   exact⟨hl.1,fun j x u hx I=>⟨y5 (hl.2 j x u hx I),SE (hl.2 j x u hx I)⟩⟩
  have D:∀{ps:List (Nat×AV)}{vs:List (Nat×Value)},J8 g (ps.map (·.2))=true->RepParts J β h w ps vs->PartsRel (fun x u=>Rep J β h w x u/\u.oneCell'=true) (ps.map fun p=>(p.1,[p.2])) vs:=by
   intro ps
   induction ps with
   |nil=>intro vs _ L;rw[RepParts]at L;rw[An8,PartsRel];exact L
   |cons p r ih =>
    obtain⟨i,x⟩:=p
    intro vs hs L
    rw[RepParts]at L
    obtain⟨v,vs',rfl,h1,h2⟩:=L
    simp[J8]at hs
    rw[Ah9,PartsRel]
    refine⟨v,vs',rfl,?_,ih (by simpa using hs.2) h2⟩
    have ho:=Im hs.1 h1
    have G:v.cells=#[v]:=by cases v<;>simp_all[Value.cells,Value.oneCell']
    rw[G]
    refine⟨rfl,fun j y u hy I=>?_⟩
    cases j with
    |zero=>simp at hy I;subst hy I;exact⟨h1,ho⟩
    |succ j=>simp at hy
  obtain⟨A,f1,f2⟩:=Wk (D hst L) hz1 hc
  have V:cells.length=len*1:=by
   have:∀{ps:List (Nat×LA)}{c c':LA},Mw (fun i=>some (i*1,1)) ps c=some c'->c'.length=c.length:=by
    intro ps
    induction ps with
    |nil=>intro c c' Y;simp[Mw]at Y;rw[Y]
    |cons p r ih =>
     intro c c' Y
     obtain⟨i,vs⟩:=p
     rw[Mw]at Y
     obtain⟨p,hpl,g1⟩:=ub Y
     obtain⟨gb,g2⟩:=uc g1
     simp at gb
     rw[ih g2,Nn (by omega)]
   rw[this hc,E3,e2,T]
  have hcs:A.size=len*1:=by have:=f2.1;simp at this;omega
  refine⟨.slice (some ⟨w.heap.size,0,none⟩) len len,w.alloc (.cells A el),?_,?_⟩
  ·have B:Instr.fill (fun i=>some (i*1,1)) ((Array.range (len*1)).map (z.cells[·%z.cells.size]!)) vs=some A:=f1
   have hnb:¬ (16777216<len*1):=by omega
   by_cases h0:len*1=0
   ·have hme:∀(a:Array Value),(Array.range (len*1)).map (a[·%a.size]!)=#[]:=fun a=>by rw[h0];simp[Array.range_zero']
    rw[hme]at B
    simp only[Ah1]at h0
    simp[Instr.buildSlice,run_underlying I,B0 C,h0,Array.range_zero',newRow]
    simp at B
    simp[B]
   ·simp only[Ah1]at B h0 hnb
    simp[Instr.buildSlice,run_underlying I,B0 C,hnb,h0,zeroValue,typeInfo,hi,hiz,B,newRow]
  ·refine SF (sz:=1) (fr:=(0,0)) S hn rfl rfl rfl FrTy.un0 V (by omega) (Ahl _) ⟨fun hp=>by simp at hp,fun _ j y hj=>?_⟩
   have hlt:j<A.size:=by have:=(Ahx.1 hj).1;simp at this;omega
   have:=f2.2 j y A[j] hj (by simp[hlt])
   exact⟨A[j],by simp[hlt],this.1,this.2⟩
 ·simp at hh
def Ry{d:Nat}:∀{l:List (Nat×Nat)}{j:Nat}{c:LA}{cs:List Value}{β:Bx}{h:Aw},SimH J β h w->1<=j->j+l.length<=16->(∀ i,j<=i->i<16->A0 (E9 d l j c).2 (nid d+i)=true->Al h (nid d+i)=none)->Reps J β h w c cs ->
  ∃ β',Step J β h w J β' (Am (E9 d l j c).2 h) w/\Reps J β' (Am (E9 d l j c).2 h) w (E9 d l j c).1 cs
|[],j,c,cs,β,h,S,_,_,_,hr=>⟨β,Step.refl S,hr⟩
| (o,sz)::l,j,c,cs,β,h,S,hj,Y,D,hr=>by
  rw[E9]at D ⊢
  split
  ·rename_i G
   simp only[G]at D
   simp at Y
   have h1:Al h (nid d+j)=none:=D j (Ahl _) (by omega) (by simp[A0])
   have A:=Step.newNone S (d:=nid d+j) (x:=E8 sz) h1 rfl
   have k:=Reps.ext A.ext hr
   rw[Bu]at k
   have L:Reps J (fun b=>if b=nid d+j then none else β b) (Ei h (nid d+j) (E8 sz)) w (c.set o (.own (nid d+j) 0 0)) cs:=by
    rw[Bu]
    refine⟨by rw[k.1];simp,fun i y u I hu=>?_⟩
    by_cases hi:i=o
    ·subst hi
     have T:i<c.length:=(Ahx.1 G).1
     rw[List.getElem?_set_self T]at I;simp at I;subst I
     have h3:=k.2 i _ u G hu
     rw[Rep]at h3;subst h3
     rw[Rep]
     exact⟨E8 sz,none,0,⟨by simp[Ag],rfl⟩,rfl,Ahl _,.inl rfl⟩
    ·rw[List.getElem?_set_ne (by omega)]at I
     exact k.2 i y u I hu
   obtain⟨β',B,hB⟩:=Ry (d:=d) (l:=l) (j:=j+1) A.sim (by omega) (by omega) (fun i hi v C=>by
    have:=D i (by omega) v (by
     rw[A0]
     have:beq (nid d+j) (nid d+i)=false:=HC (by omega)
     rw[this];exact C)
    rw[Ag,if_neg (by omega)];exact this) L
   exact⟨β',by simp only[Am];exact A.trans B (fun _ _ _ _=>Ahl _),by simp only[Am];exact hB⟩
  ·rename_i G
   have e:E9 d ((o,sz)::l) j c=E9 d l (j+1) c:=by
    rw[E9]
    split
    ·rename_i V;exact absurd V (G ·)
    ·rfl
   simp at Y
   split at D
   ·rename_i V;exact absurd V (G ·)
   ·exact Ry S (by omega) (by omega) (fun i hi v C=>D i (by omega) v C) hr
def tE{t:TypeId}{co:Bool}{d:Nat}{v:AV}{vc:Value}{k:AV->Dc->O R}(S:SimH J β h w)(B:wL P t co d v k=some r)(C:Rep J β h w v vc):
  ∃ val ups,k val ups=some r/\(UpsFree d h ups->OpDone J β h w ups val vc w):=by
 unfold wL at B
 split at B
 ·rename_i c
  obtain⟨G,I⟩:=uc B
  refine⟨_,_,I,fun L=>?_⟩
  rw[Rep]at C
  obtain⟨cs,rfl,hr⟩:=C
  obtain⟨β',A,hA⟩:=Ry (d:=d) (l:=O0 P t) (j:=1) S (Ahl _) (by simp at G;omega) (fun i hi T D=>L _ D (by unfold AF;simp;omega)) hr
  exact⟨J,β',A,by rw[Rep];exact⟨cs,rfl,hA⟩⟩
 ·exact⟨_,_,B,fun _=>⟨J,β,Step.refl S,C⟩⟩
def aG{x:AV}{v:Value}(k:Rep J β h w x v)(I:CM x=false)(C:HZ x=true):AI (Rep J β h w) (cellsOf x) v.cells.toList:=by
 have one:v.cells=#[v]->cellsOf x=[x]->AI (Rep J β h w) (cellsOf x) v.cells.toList:=fun L B=>by
  rw[L,B]
  refine⟨rfl,fun j y u D G=>?_⟩
  cases j with
  |zero=>simp at D G;subst D G;exact k
  |succ j=>simp at D
 cases x
 case pagg=>simp[CM]at I
 case agg c =>
  rw[Rep]at k
  obtain⟨cs,rfl,B⟩:=k
  rw[Bu]at B
  exact⟨B.1.symm,B.2⟩
 case tup c=>simp[HZ]at C
 case undef=>simp[HZ]at C
 case omap=>simp[HZ]at C
 case own=>rw[Rep]at k;obtain⟨_,A,cap,_,rfl,_⟩:=k;exact one rfl rfl
 case optr=>rw[Rep]at k;obtain⟨_,kk,o,_,rfl,_⟩:=k;exact one rfl rfl
 case fn=>rw[Rep]at k;obtain⟨cs,rfl,_⟩:=k;exact one rfl rfl
 case imm=>rw[Rep,RepC]at k;obtain⟨_,A,cap,rfl,_⟩:=k;exact one rfl rfl
 case iptr=>rw[Rep,RepC]at k;obtain⟨a,rfl,_⟩:=k;exact one rfl rfl
 all_goals (rw[Rep]at k;subst k;exact one rfl rfl)
def lT{x:AV}{v:Value}(C:∀ k,J false k->J true k)(B:Rep J β h w x v)(hr:PP x=false){o:Bool}(D:nO x=true->o=true):RepC (J o) w x v:=by
 cases x<;>simp[PP]at hr
 case imm c n sz t org =>
  rw[Rep]at B
  refine RepC.keep (J:=J org) (w:=w) (fun k A=>?_) (fun _ _=>rfl) B
  cases org
  ·cases o
   ·exact A
   ·exact C k A
  ·rw[D rfl];exact A
 case iptr c org =>
  rw[Rep]at B
  refine RepC.keep (J:=J org) (w:=w) (fun k A=>?_) (fun _ _=>rfl) B
  cases org
  ·cases o
   ·exact A
   ·exact C k A
  ·rw[D rfl];exact A
 all_goals (rw[Rep]at B;rw[RepC];exact B)
def nh{x:AV}{v:Value}(G:∀ k,J false k->J true k)(C:Rep J β h w x v)(hr:fC x=false){o:Bool}(I:ZY x=true->o=true):AI (RepC (J o) w) (cellsOf x) v.cells.toList:=by
 have one:PP x=false->cellsOf x=[x]->ZY x=nO x->AI (RepC (J o) w) (cellsOf x) v.cells.toList:=fun h0 A L=>by
  have hc:=lT (o:=o) G C h0 (by rw[<-L];exact I)
  have T:v.cells=#[v]:=by have:=SE hc;cases v<;>simp_all[Value.cells,Value.oneCell']
  rw[T,A]
  refine⟨rfl,fun j y u B D=>?_⟩
  cases j with
  |zero=>simp at B D;subst B D;exact hc
  |succ j=>simp at B
 cases x
 case pagg c org =>
  rw[Rep]at C
  obtain⟨cs,rfl,T,A⟩:=C
  refine Rx (RepCs.keep (J:=J org) (w:=w) (fun k V=>?_) (fun _ _=>rfl) (fun j=>by simp[Value.cells]) A) (by simp[Value.cells,cellsOf,T])
  cases org
  ·cases o
   ·exact V
   ·exact G k V
  ·rw[I rfl];exact V
 case agg c =>
  rw[Rep]at C
  obtain⟨cs,rfl,A⟩:=C
  rw[Bu]at A
  refine⟨A.1.symm,fun j y u B D=>?_⟩
  simp only[fC,Amu]at hr
  have hm:y∈c:=Anm B
  have Y:PP y=false:=by simpa using hr y hm
  refine lT G (A.2 j y u B D) Y (fun L=>I ?_)
  rw[ZY,List.any_eq_true];exact⟨y,hm,L⟩
 all_goals first|exact one hr rfl rfl|simp[fC,PP]at hr
def wV{o:Bool}{x:AV}{v:Value}(hr:RepC (J o) w x v):Rep J β h w (pt o x) v:=by
 cases x
 case imm=>rw[pt,Rep];rw[RepC]at hr ⊢;exact hr
 case iptr=>rw[pt,Rep];rw[RepC]at hr ⊢;exact hr
 case fn f c =>
  cases c with
  |nil=>rw[RepC]at hr;subst hr;show Rep J β h w (.fn f []) _;rw[Rep];exact⟨[],by simp,by rw[Reps]⟩
  |cons a b=>simp[RepC]at hr
 all_goals first|(rw[RepC]at hr;unfold pt;rw[Rep];exact hr)|(simp[RepC]at hr)
def tF{x:AV}{v:Value}(B:Rep J β h w x v)(I:HZ x=true):AI (Rep J β h w) (fD x) v.cells.toList:=by
 cases C:CM x with
|false =>
  have:=aG B C I
  cases x<;>first|exact this|simp[CM]at C
| true =>
  cases x<;>simp[CM]at C
  rename_i c o
  rw[Rep]at B
  obtain⟨cs,rfl,L,T⟩:=B
  refine⟨by simp[fD,Value.cells,L],fun j y u A G=>?_⟩
  simp only[fD,Akd]at A
  cases D:c[j]? with
  |none=>rw[D]at A;simp at A
  |some x0 =>
   rw[D]at A;simp at A;subst A
   obtain⟨V,k,hr⟩:=T.at D
   simp[Value.cells]at G
   rw[G]at k;simp at k;subst k
   exact wV hr
def IJ{CR:AV->Value->Prop}:∀{ps:List (Nat×AV)}{vs:List (Nat×Value)},RepParts J β h w ps vs->(∀ p∈ps,∀ v,Rep J β h w p.2 v->AI CR (fD p.2) v.cells.toList)->PartsRel CR (Ij ps) vs
|[],vs,hr,_=>by rw[RepParts]at hr;rw[Ij,PartsRel];exact hr
|(i,x)::r,vs,hr,A=>by
  rw[RepParts]at hr
  obtain⟨v,k,rfl,B,C⟩:=hr
  rw[Ij,PartsRel]
  exact⟨v,k,rfl,A (i,x) (by simp) v B,IJ C (fun p D=>A p (by simp[D]))⟩
def Zm{CR:AV->Value->Prop}:∀{ps:List (Nat×AV)}{vs:List (Nat×Value)},RepParts J β h w ps vs->(∀ p∈ps,∀ v,Rep J β h w p.2 v->AI CR (cellsOf p.2) v.cells.toList)->PartsRel CR (Eu ps) vs
|[],vs,hr,_=>by rw[RepParts]at hr;rw[Eu,PartsRel];exact hr
|(i,x)::r,vs,hr,A=>by
  rw[RepParts]at hr
  obtain⟨v,k,rfl,B,C⟩:=hr
  rw[Eu,PartsRel]
  exact⟨v,k,rfl,A (i,x) (by simp) v B,Zm C (fun p D=>A p (by simp[D]))⟩
def SI{t:TypeId}{place:Nat->Option (Nat×Nat)}{i:TypeInfo}{z:Value}{vs:List (Nat×Value)}{cs:Array Value}(k:HY P t=some place)(hi:P.info? t=some i)(B:i.zero=some z)
  (C:Instr.fill place z.cells vs=some cs):P.built t vs=some cs:=by
 unfold HY at k
 unfold Program.built
 split at k
 ·rename_i n e A
  cases v:P.info? e with
  |none=>simp[v]at k
  |some ie=>simp[v]at k;subst k;simp only[hi,A,B,v];exact C
 ·rename_i fs A
  cases v:fs.toList.mapM fun f=>(P.info? f.type).map fun i=>(f.offset,i.size)with
  |none=>rw[v]at k;simp at k
  |some pl =>
   rw[v]at k;simp at k;subst k
   simp only[hi,A,B,v]
   simpa using C
 ·simp at k
def jj{t:TypeId}{ps:List (Nat×AV)}{vs:List (Nat×Value)}{k:AV->Dc->O R}(S:SimH J β h w)(V:Looks g h)(G:LQ P g t ps k=some r)(Y:RepParts J β h w ps vs):
  ∃ val ups u,k val ups=some r/\(Instr.build t vs.toArray).run P w=.ok u w/\OpDone J β h w ups val u w:=by
 unfold LQ at G
 obtain⟨place,v,h1⟩:=ub G
 obtain⟨zz,hz,h2⟩:=ub h1
 obtain⟨⟨q,u1,o1⟩,hq,I⟩:=ub h2
 rw[Ta]at I
 obtain⟨cells,hc,h4⟩:=ub I
 obtain⟨i,z,hi,B,rfl,hp,e1,e2⟩:=Nz hz
 obtain⟨J1,A,hA,_,L⟩:=T0 S V.s hq Y
 have C:AI (RepC (J1 o1) w) (Jo z.cells.toList) z.cells.toList:=by
  refine⟨S9 _,fun j x u hx hu=>?_⟩
  obtain⟨y,D,g2⟩:=CX (w:=w) (J:=J1 o1) hp j u hu
  rw[hx]at D;simp at D;subst D;exact g2
 obtain⟨cs,f1,T⟩:=Wk hA C hc
 refine⟨_,_,.agg cs,h4,run_build w t vs.toArray cs (SI v hi B (by simpa using f1)),J1,β,A,?_⟩
 rw[Rep]
 exact⟨cs.toList,rfl,T.1.symm,Zl T⟩
def ni{t:TypeId}{ps:List (Nat×AV)}{vs:List (Nat×Value)}{v:AV}(S:SimH J β h w)(hh:nP P t ps=some v)(hv:RepParts J β h w ps vs):
  ∃ u,(Instr.build t vs.toArray).run P w=.ok u w/\Rep J β h w v u:=by
 unfold nP at hh
 obtain⟨place,L,h1⟩:=ub hh
 obtain⟨hok,T⟩:=uc h1
 cases V:ps.any (fun p=>CM p.2)with
| true =>
  rw[V]at T
  cases Y:ps.any (fun p=>fC p.2)with
  | true =>
   rw[Y]at T
   obtain⟨zz,A,C⟩:=ub T
   unfold lH at A
   obtain⟨i,hi,A⟩:=ub A
   cases B:i.zero with
   |none=>rw[B]at A;simp at A
   | some z =>
    rw[B]at A;simp at A;subst A
    cases D:Mw place (Ij ps) (Jo z.cells.toList)with
    |none=>rw[D]at C;simp at C
    | some c =>
     rw[D]at C;simp at C;subst C
     have k:PartsRel (Rep J β h w) (Ij ps) vs:=IJ hv (fun p hm u hu=>tF hu (Aku.1 hok p hm))
     have G:AI (Rep J β h w) (Jo z.cells.toList) z.cells.toList:=by
      have:=LX (J:=J) (β:=β) (h:=h) (w:=w) z.cells.toList
      rw[Bu]at this
      exact⟨this.1.symm,this.2⟩
     obtain⟨cs,f1,I⟩:=Wk k G D
     refine⟨.agg cs,run_build w t vs.toArray cs (SI L hi B (by simpa using f1)),?_⟩
     rw[Rep]
     exact⟨cs.toList,rfl,Bu.2 ⟨I.1.symm,I.2⟩⟩
  |false =>
  rw[Y]at T
  have h3:=T
  obtain⟨zz,A,C⟩:=ub h3
  obtain⟨i,z,hi,B,rfl,hp,e1,e2⟩:=Nz A
  cases D:Mw place (Eu ps) (Jo z.cells.toList)with
  |none=>rw[D]at C;simp at C
  | some c =>
   rw[D]at C;simp at C;subst C
   have k:PartsRel (RepC (J (ps.any fun p=>ZY p.2)) w) (Eu ps) vs:=Zm hv (fun p hm u hu=>nh S.jft hu (by
     have:=Amu.1 Y p hm;simpa using this) (fun ho=>by rw[List.any_eq_true];exact⟨p,hm,ho⟩))
   have G:AI (RepC (J (ps.any fun p=>ZY p.2)) w) (Jo z.cells.toList) z.cells.toList:=by
    refine⟨S9 _,fun j x u hx hu=>?_⟩
    obtain⟨y,g1,g2⟩:=CX (w:=w) (J:=J (ps.any fun p=>ZY p.2)) hp j u hu
    rw[hx]at g1;simp at g1;subst g1;exact g2
   obtain⟨cs,f1,I⟩:=Wk k G D
   refine⟨.agg cs,run_build w t vs.toArray cs (SI L hi B (by simpa using f1)),?_⟩
   rw[Rep]
   exact⟨cs.toList,rfl,I.1.symm,Zl I⟩
| false =>
  rw[V]at T
  obtain⟨zz,A,C⟩:=ub T
  unfold lH at A
  obtain⟨i,hi,A⟩:=ub A
  cases B:i.zero with
  |none=>rw[B]at A;simp at A
  | some z =>
   rw[B]at A;simp at A;subst A
   cases D:Mw place (Eu ps) (Jo z.cells.toList)with
   |none=>rw[D]at C;simp at C
   | some c =>
    rw[D]at C;simp at C;subst C
    have k:PartsRel (Rep J β h w) (Eu ps) vs:=Zm hv (fun p hm u hu=>aG hu (by
      have:=Amu.1 V p hm;simpa using this) (Aku.1 hok p hm))
    have G:AI (Rep J β h w) (Jo z.cells.toList) z.cells.toList:=by
     have:=LX (J:=J) (β:=β) (h:=h) (w:=w) z.cells.toList
     rw[Bu]at this
     exact⟨this.1.symm,this.2⟩
    obtain⟨cs,f1,I⟩:=Wk k G D
    refine⟨.agg cs,run_build w t vs.toArray cs (SI L hi B (by simpa using f1)),?_⟩
    rw[Rep]
    exact⟨cs.toList,rfl,Bu.2 ⟨I.1.symm,I.2⟩⟩
end
end Gx
namespace Gx
open Go
section
variable{R:Type}{r:R}{P:Program}{J:Bool->Nat->Prop}{β:Bx}{h:Aw}{w:World}
def PRd(n:Nat)(x:LA)(rd:Nat->Option Value):Prop:=∀ j q,j<n->x[j]?=some q ->
 (∀ k m,q=.int k m->rd j=some (.int k m))/\(∀ b,q=.bool b->rd j=some (.bool b))/\(∀ s,q=.str s->rd j=some (.string ⟨⟨s⟩⟩))
def PRd.drop{n m o:Nat}{x:LA}{xs:Array Value}{ox sz:Nat}(C:PRd sz x (fun j=>xs[ox+j]?))(L:o+m<=sz)(hn:n=m):PRd n (x.drop o) (fun j=>(xs.extract ox (ox+sz))[o+j]?):=by
 subst hn
 intro j q T hq
 rw[Ain]at hq
 have A:=C (o+j) q (by omega) hq
 have e:∀ v,xs[ox+(o+j)]?=some v->(xs.extract ox (ox+sz))[o+j]?=some v:=by
  intro v B
  have D:=(Aja.1 B).1
  rw[Array.getElem?_extract,if_pos (by omega)];exact B
 exact⟨fun k m G=>e _ (A.1 k m G),fun b I=>e _ (A.2.1 b I),fun s hs=>e _ (A.2.2 s hs)⟩
def V3{t:TypeId}{d:TypeDesc}{xs:Array Value}{ox:Nat}{v:Value}(k:P.underlying t=some d)(A:d.isRow=false)(B:xs[ox]?=some v):(part t xs ox).run P w=.ok v w:=by
 unfold part isAgg
 simp only[Sem.run_bind,run_underlying k,Result.andThen_ok]
 cases d<;>simp_all[TypeDesc.isRow]
def AJ{t:TypeId}{d:TypeDesc}{xs:Array Value}{ox s:Nat}(k:P.underlying t=some d)(v:d.isRow=true)(hs:A8 P t=some s):(part t xs ox).run P w=.ok (.agg (xs.extract ox (ox+s))) w:=by
 unfold part isAgg
 have:=B0 hs w
 simp only[Sem.run_bind,run_underlying k,Result.andThen_ok]
 cases d<;>simp_all[TypeDesc.isRow]
def tG(P:Program)(w:World)(D:Nat)(step:TypeId->LA->LA->(Bool->O R)->O R):Prop :=
 ∀(r:R)(t:TypeId)(s:Nat)(x y:LA)(k:Bool->O R)(xs ys:Array Value)(ox oy:Nat),A8 P t=some s->0<s->step t x y k=some r->PRd s x (fun j=>xs[ox+j]?)->PRd s y (fun j=>ys[oy+j]?) ->
  ∃ b a a',k b=some r/\(part t xs ox).run P w=.ok a w/\(part t ys oy).run P w=.ok a' w/\(Op.equalIn D t a a').run P w=.ok b w
def FZ{D:Nat}{step:TypeId->LA->LA->(Bool->O R)->O R}(hs:tG P w D step){x y:LA}{xs ys:Array Value}{ox oy sz:Nat}(I:PRd sz x (fun j=>xs[ox+j]?))(L:PRd sz y (fun j=>ys[oy+j]?)):
  ∀(fs:List Field){k:Bool->O R},fs.all (nK P sz)=true->AB step x y (fs.map fun f=>(f.offset,f.type)) k=some r ->
  ∃ b,k b=some r/\(Op.eqFields D (xs.extract ox (ox+sz)) (ys.extract oy (oy+sz)) fs).run P w=.ok b w
|[],k,_,C=>⟨true,by simpa[AB]using C,by simp[Op.eqFields]⟩
| f::fs,k,G,C=>by
  rw[Aji,Aho]at G
  obtain⟨B,G⟩:=G
  unfold nK at B
  cases v:A8 P f.type with
  |none=>rw[v]at B;simp at B
  |some s =>
   rw[v]at B
   simp only[Aho,Aj4]at B
   obtain⟨h1,T,V⟩:=B
   have A : f.name≠"_" := by simpa using V
   rw[Ah9,AB]at C
   obtain⟨b,a,a',Y,g2,g3,g4⟩:=hs r f.type s _ _ _ (xs.extract ox (ox+sz)) (ys.extract oy (oy+sz)) f.offset f.offset v (by omega) C (I.drop T rfl) (L.drop T rfl)
   obtain⟨c,e1,e2⟩:=FZ hs I L fs G Y
   refine⟨b&&c,e1,?_⟩
   rw[Op.eqFields,if_pos A]
   simp only[Sem.run_bind,g2,g3,g4,Result.andThen_ok]
   cases b with
   |false=>simp
   |true=>simpa using e2
def IK{D:Nat}{step:TypeId->LA->LA->(Bool->O R)->O R}(hs:tG P w D step){x y:LA}{xs ys:Array Value}{ox oy sz:Nat}{e:TypeId}{s:Nat}(v:A8 P e=some s)(A:0<s)(C:PRd sz x (fun j=>xs[ox+j]?))(G:PRd sz y (fun j=>ys[oy+j]?)):
  ∀(is:List Nat){k:Bool->O R},(∀ i∈is,i*s+s<=sz)->AB step x y (is.map fun i=>(i*s,e)) k=some r ->
  ∃ b,k b=some r/\(Op.eqItems D e s (xs.extract ox (ox+sz)) (ys.extract oy (oy+sz)) is).run P w=.ok b w
|[],k,_,B=>⟨true,by simpa[AB]using B,by simp[Op.eqItems]⟩
|i::is,k,I,B=>by
  have L:=I i (by simp)
  rw[Ah9,AB]at B
  obtain⟨b,a,a',T,V,Y,g4⟩:=hs r e s _ _ _ (xs.extract ox (ox+sz)) (ys.extract oy (oy+sz)) (i*s) (i*s) v A B (C.drop L rfl) (G.drop L rfl)
  obtain⟨c,e1,e2⟩:=IK hs v A C G is (fun j hj=>I j (by simp[hj])) T
  refine⟨b&&c,e1,?_⟩
  rw[Op.eqItems]
  simp only[Sem.run_bind,V,Y,g4,Result.andThen_ok]
  cases b with
  |false=>simp
  |true=>simpa using e2
def PT:∀(d D:Nat),d<=D->tG P w D (dK (R:=R) P d)
|0,D,_=>fun r t s x y k xs ys ox oy hs C A=>by simp[dK]at A
| d+1,D,hD=>fun r t s x y k xs ys ox oy hs C A hx hy=>by
  obtain⟨D,rfl⟩:∃ D',D=D'+1:=⟨D - 1,by omega⟩
  rw[dK]at A
  split at A
  ·rename_i kd B
   obtain⟨u,I,A⟩:=ub A
   obtain⟨a,T,A⟩:=ub A
   obtain⟨v,L,A⟩:=ub A
   obtain⟨b,V,A⟩:=ub A
   have ea:u=.int kd a:=by
    unfold NY at T;split at T
    ·obtain⟨hk,ha'⟩:=uc T;simp[Ih]at hk ha';subst hk ha';rfl
    ·simp at T
   have eb:v=.int kd b:=by
    unfold NY at V;split at V
    ·obtain⟨hk,hb'⟩:=uc V;simp[Ih]at hk hb';subst hk hb';rfl
    ·simp at V
   have px:=(hx 0 u C (by rw[<-Aij];exact I)).1 kd a ea
   have py:=(hy 0 v C (by rw[<-Aij];exact L)).1 kd b eb
   exact⟨_,_,_,A,V3 B rfl (by simpa using px),V3 B rfl (by simpa using py),run_equalIn_int w D t kd kd a b B⟩
  ·rename_i B
   obtain⟨u,I,A⟩:=ub A
   obtain⟨a,T,A⟩:=ub A
   obtain⟨v,L,A⟩:=ub A
   obtain⟨b,V,A⟩:=ub A
   have ea:u=.bool a:=by unfold asBool at T;split at T<;>simp_all
   have eb:v=.bool b:=by unfold asBool at V;split at V<;>simp_all
   have px:=(hx 0 u C (by rw[<-Aij];exact I)).2.1 a ea
   have py:=(hy 0 v C (by rw[<-Aij];exact L)).2.1 b eb
   exact⟨_,_,_,A,V3 B rfl (by simpa using px),V3 B rfl (by simpa using py),run_equalIn_bool' w D t a b B⟩
  ·rename_i B
   obtain⟨u,I,A⟩:=ub A
   obtain⟨a,T,A⟩:=ub A
   obtain⟨v,L,A⟩:=ub A
   obtain⟨b,V,A⟩:=ub A
   have ea:u=.str a:=by unfold ZU at T;split at T<;>simp_all
   have eb:v=.str b:=by unfold ZU at V;split at V<;>simp_all
   have px:=(hx 0 u C (by rw[<-Aij];exact I)).2.2 a ea
   have py:=(hy 0 v C (by rw[<-Aij];exact L)).2.2 b eb
   refine⟨_,_,_,A,V3 B rfl (by simpa using px),V3 B rfl (by simpa using py),?_⟩
   have:=run_equalIn_string w D t ⟨⟨a⟩⟩ ⟨⟨b⟩⟩ B
   rw[this]
   simp[ByteArray.toList_eq]
  ·rename_i fs B
   obtain⟨sz,G,A⟩:=ub A
   obtain⟨hc,hh2⟩:=sn A
   simp only[Bool.or_eq_false_iff,Bool.not_eq_false']at hc
   rw[hs]at G;simp at G;subst G
   obtain⟨b,h1,h2⟩:=FZ (PT d D (by omega)) hx hy fs.toList hc.2 hh2
   refine⟨b,_,_,h1,AJ B rfl hs,AJ B rfl hs,?_⟩
   have hfo:P.fieldsOf t=fs:=by simp[Program.fieldsOf,B]
   rw[run_equalIn_struct w D t _ _ (by rw[hfo];exact B) hc.1,hfo]
   exact h2
  ·rename_i n e B
   obtain⟨s',Y,A⟩:=ub A
   obtain⟨sz,G,A⟩:=ub A
   obtain⟨hc,hh2⟩:=uc A
   simp only[Aho,Aj4]at hc
   rw[hs]at G;simp at G;subst G
   obtain⟨b,h1,h2⟩:=IK (PT d D (by omega)) Y (by omega) hx hy (List.range n) (fun i hi=>by
    have:=List.mem_range.1 hi
    have h3:(i+1)*s'<=n*s':=Ahp _ this
    rw[Aob] at h3;omega) hh2
   refine⟨b,_,_,h1,AJ B rfl hs,AJ B rfl hs,?_⟩
   cases hi:P.info? e with
   |none=>simp[A8,hi]at Y
   |some i =>
    have hcell:P.cellsOf e=s':=by simp[A8,hi]at Y;simp[Program.cellsOf,hi,Y]
    rw[run_equalIn_array w D _ _ B hi,hcell]
    exact h2
  ·simp at A
def qJ{c:LA}{org:Bool}{v:Value}{a:LA}{x:AV}(C:nL x=some a)(hr:Rep J β h w x v):∃ cs:List Value,v=.agg ⟨cs⟩/\cs.length=a.length/\∀ n,PRd n a (fun j=>(⟨cs⟩:Array Value)[0+j]?):=by
 unfold nL at C
 split at C
 ·simp at C;subst C
  rw[Rep]at hr
  obtain⟨cs,I,D,V⟩:=hr
  refine⟨cs,I,D,fun n j q _ hq=>?_⟩
  rw[Bn]at V
  obtain⟨u,G,A⟩:=V j q hq
  simp only[Ah0]at G ⊢
  refine⟨fun k m L=>?_,fun b T=>?_,fun s hs=>?_⟩
  ·subst L;rw[RepC]at A;subst A;simpa using G
  ·subst T;rw[RepC]at A;subst A;simpa using G
  ·subst hs;rw[RepC]at A;subst A;simpa using G
 ·simp at C;subst C
  rw[Rep]at hr
  obtain⟨cs,I,D⟩:=hr
  rw[Bu]at D
  refine⟨cs,I,D.1,fun n j q _ hq=>?_⟩
  have B:j<cs.length:=by rw[D.1];exact(Ahx.1 hq).1
  have A:=D.2 j q cs[j] hq (Ahk B)
  simp only[Ah0]
  refine⟨fun k m L=>?_,fun b T=>?_,fun s hs=>?_⟩
  ·subst L;rw[Rep]at A;simp[B,A]
  ·subst T;rw[Rep]at A;simp[B,A]
  ·subst hs;rw[Rep]at A;simp[B,A]
 ·simp at C
def qK{op:BinOp}{t:TypeId}{x y:AV}{k:AV->O R}{vx vy:Value}(A:lF P t op x y k=some r)(L:Rep J β h w x vx)(T:Rep J β h w y vy)(ox oy:Operand):
  ∃ v vc,k v=some r/\(do eqGuard op t ox oy vx vy;binOp op t vx vy:Sem Value).run P w=.ok vc w/\Rep J β h w v vc:=by
 unfold lF at A
 split at A
 ·rename_i a b ha hb
  obtain⟨s,hs,A⟩:=ub A
  obtain⟨V,A⟩:=uc A
  simp only[Aho,Aj4,Amt]at V
  obtain⟨h1,Y,h3,C,h4⟩:=V
  have Y:=Aht Y
  have h3:=Aht h3
  obtain⟨cs,rfl,hl,px⟩:=qJ (c:=[]) (org:=false) ha L
  obtain⟨B,rfl,hl',py⟩:=qJ (c:=[]) (org:=false) hb T
  have hg:=run_eqGuard_agg w op t ox oy ⟨cs⟩ ⟨B⟩ h4
  have whole:∀(l:List Value),l.length=s->(⟨l⟩:Array Value).extract 0 (0+s)=⟨l⟩:=by
   intro l hl;subst hl;simp
  have key:∀{kk:Bool->O R},dK P 8 t a b kk=some r->∃ c,kk c=some r/\(Op.equal t (.agg ⟨cs⟩) (.agg ⟨B⟩)).run P w=.ok c w:=by
   intro kk hk
   obtain⟨c,u,u',e1,D,e3,e4⟩:=PT 8 10000 (by omega) r t s a b kk ⟨cs⟩ ⟨B⟩ 0 0 hs (by omega) hk (px s) (py s)
   refine⟨c,e1,?_⟩
   have I:∃ d,P.underlying t=some d/\d.isRow=true:=by
    unfold yM at C
    split at C
    ·rename_i fs G;exact⟨_,G,rfl⟩
    ·rename_i n e G;exact⟨_,G,rfl⟩
    ·simp at C
   obtain⟨d,G,hd⟩:=I
   rw[AJ G hd hs,whole cs (by omega)]at D
   rw[AJ G hd hs,whole B (by omega)]at e3
   simp only[Result.ok.injEq,and_true]at D e3
   subst D e3
   exact e4
  split at A
  ·obtain⟨c,e1,D⟩:=key A
   refine⟨_,.bool c,e1,?_,by rw[Rep]⟩
   simp only[Sem.run_bind,hg,Result.andThen_ok,binOp,D,Sem.run_pure]
  ·obtain⟨c,e1,D⟩:=key A
   refine⟨_,.bool (!c),e1,?_,by rw[Rep]⟩
   simp only[Sem.run_bind,hg,Result.andThen_ok,binOp,D,Sem.run_pure]
  ·simp at A
 ·exact sy A L T ox oy
def qL{t:TypeId}{x y:AV}{b:Bool}{vx vy:Value}{g:A2}(S:SimH J β h w)(hl:Looks g h)(v:yR g x y=some b)(G:sv P t=true)(A:Rep J β h w x vx)(B:Rep J β h w y vy):
  ∃ p q,vx=.pointer p/\vy=.pointer q/\(Op.equal t (.pointer p) (.pointer q)).run P w=.ok b w:=by
 unfold sv at G
 split at G
 ·rename_i e I
  split at G
  ·rename_i n hn
   have V:n≠0:=fun e=>by subst e;simp at G
   have I:=run_underlying (w:=w) I
   have hs:(Go.sizeOf e).run P w=.ok n w:=B0 hn w
   have nn:∀ q:Option Addr,(Op.equal t (.pointer none) (.pointer q)).run P w=.ok q.isNone w:=fun q=>by
    unfold Op.equal Op.maxDepth Op.equalIn;simp[I]
   have L:∀ a:Addr,(Op.equal t (.pointer (some a)) (.pointer none)).run P w=.ok false w:=fun q=>by
    unfold Op.equal Op.maxDepth Op.equalIn;simp[I]
   unfold yR at v
   split at v
   ·simp only[Rep]at A B;subst A B;simp at v;subst v;exact⟨_,_,rfl,rfl,nn none⟩
   ·simp only[Rep]at A B;obtain⟨_,k,o,_,rfl,_⟩:=B;subst A;simp at v;subst v;exact⟨_,_,rfl,rfl,nn (some _)⟩
   ·simp only[Rep]at A B;obtain⟨_,k,o,_,rfl,_⟩:=A;subst B;simp at v;subst v;exact⟨_,_,rfl,rfl,L _⟩
   ·simp only[Rep]at A B;rw[RepC]at B;obtain⟨a,rfl,_⟩:=B;subst A;simp at v;subst v;exact⟨_,_,rfl,rfl,nn (some _)⟩
   ·simp only[Rep]at A B;rw[RepC]at A;obtain⟨a,rfl,_⟩:=A;subst B;simp at v;subst v;exact⟨_,_,rfl,rfl,L _⟩
   ·rename_i b1 o1 b2 o2
    obtain⟨z,hz,v⟩:=ub v
    obtain⟨Y,v⟩:=uc v
    have Y:=Aht Y
    subst Y
    obtain⟨hz1,C⟩:=Cw hl hz
    rw[Rep]at A B
    obtain⟨x1,k1,p1,⟨g1,_⟩,rfl,T⟩:=A
    obtain⟨x2,k2,p2,⟨g2,_⟩,rfl,D⟩:=B
    rw[hz1]at g1 g2;simp at g1 g2;subst g1 g2
    rcases T with T|T
    ·rw[T]at C;cases C
    ·rcases D with D|D
     ·rw[D]at C;cases C
     ·rw[T]at D;simp at D;obtain⟨rfl,rfl⟩:=D
      refine⟨_,_,rfl,rfl,?_⟩
      simp at v
      unfold Op.equal Op.maxDepth Op.equalIn
      simp[I,hs,V,sameAddr]
      by_cases e:o1=o2
      ·subst e;simp at v;simp[v]
      ·rw[HC e]at v;subst v;simp;exact e
   ·cases v
  ·cases G
 ·cases G
def qM{g:A2}{op:BinOp}{t:TypeId}{x y:AV}{k:AV->O R}{vx vy:Value}(S:SimH J β h w)(G:Looks g h)(A:lN P g t op x y k=some r)(B:Rep J β h w x vx)(C:Rep J β h w y vy)(ox oy:Operand):
  ∃ v vc,k v=some r/\(do eqGuard op t ox oy vx vy;binOp op t vx vy:Sem Value).run P w=.ok vc w/\Rep J β h w v vc:=by
 unfold lN at A
 split at A
 ·rename_i b I
  obtain⟨L,A⟩:=uc A
  obtain⟨p,q,rfl,rfl,D⟩:=qL S G I L B C
  split at A
  ·refine⟨_,.bool b,A,?_,by rw[Rep]⟩
   simp[eqGuard,binOp,D]
  ·refine⟨_,.bool (!b),A,?_,by rw[Rep]⟩
   simp[eqGuard,binOp,D]
  ·cases A
 ·exact qK A B C ox oy
end
end Gx
namespace Gx
open Go Go.MapKept
section
variable{R:Type}{r:R}{P:Program}{J:Bool->Nat->Prop}{β:Bx}{h:Aw}{w:World}{g:A2}
def WV:∀(l:List Int)(n:Int),fE (l.map fun m=>.int .i64 m) n=true↔n∈l
|[],n=>by simp[fE]
|m::r,n=>by
  rw[Ah9,fE]
  by_cases e:n=m
  ·simp[e]
  ·simp[e,WV r n]
def qN{c:LA}{es:Array MapEntry}{l:List Int}(v:es.toList.map (fun e=>(e.key,e.val))=l.map (fun n=>((.int .i64 n:Value),(.bool true:Value)))){x:MapEntry}(A:x∈es.toList):∃ n,n∈l/\x.key=.int .i64 n/\x.val=.bool true:=by
 have:=Ans (f:=fun e:MapEntry=>(e.key,e.val)) A
 rw[v]at this
 obtain⟨n,hn,k⟩:=Aio.1 this
 simp at k
 exact⟨n,hn,k.1.symm,k.2.symm⟩
def y7{es:Array MapEntry}{l:List Int}(v:es.toList.map (fun e=>(e.key,e.val))=l.map (fun n=>((.int .i64 n:Value),(.bool true:Value)))){n:Int}(hn:n∈l):∃ x∈es.toList,x.key=.int .i64 n:=by
 have:=Ans (f:=fun n:Int=>((.int .i64 n:Value),(.bool true:Value))) hn
 rw[<-v]at this
 obtain⟨x,A,k⟩:=Aio.1 this
 simp at k
 exact⟨x,A,k.1⟩
def qO{c:LA}{es:Array MapEntry}(Y:Ac6 c es)(n:Int):
  (fE c n=false/\Instr.findNow (.int .i64) (.int .i64 n) es.toList 0=some none) \/
  (fE c n=true/\∃ j e,Instr.findNow (.int .i64) (.int .i64 n) es.toList 0=some (some (j,.bool true))/\es[j]?=some e/\e.key=.int .i64 n/\e.val=.bool true):=by
 obtain⟨l,rfl,G⟩:=Y
 have I:∀ x∈es.toList,IsKey (.int .i64) x.key:=fun x L=>by
  obtain⟨m,_,A,_⟩:=qN (c:=[]) G L
  rw[A];simp[IsKey]
 rcases findNow_spec (d:=.int .i64) (k:=.int .i64 n) (by simp[IsKey]) es.toList 0 I with⟨A,D⟩|⟨j,e,A,D,V⟩
 ·left
  refine⟨?_,A⟩
  cases hb:fE (l.map fun m=>.int .i64 m) n with
  |false=>rfl
  |true =>
   obtain⟨x,L,hk⟩:=y7 G ((WV l n).1 hb)
   exact absurd hk (D x L)
 ·right
  have B:e∈es.toList:=Anm D
  obtain⟨m,T,v,C⟩:=qN (c:=[]) G B
  rw[V]at v;simp at v;subst v
  refine⟨(WV l n).2 T,j,e,?_,by simpa using D,V,C⟩
  rw[A,C,Ah0]
def fQ{t:TypeId}(hs:nT P t=true):∃ kt et,P.underlying t=some (.map kt et)/\P.underlying kt=some (.int .i64)/\∀ w,(zeroValue et).run P w=.ok (.bool false) w:=by
 unfold nT at hs
 split at hs
 ·rename_i kt et D
  simp only[Aho]at hs
  obtain⟨A,B⟩:=hs
  refine⟨kt,et,D,?_,fun w=>?_⟩
  ·split at A
   ·assumption
   ·cases A
  ·split at B
   ·rename_i k
    unfold fA at k
    cases hi:P.info? et with
    |none=>rw[hi]at k;simp at k
    | some i =>
     rw[hi]at k
     cases v:i.zero with
     |none=>simp[v]at k
     | some z =>
      simp[v]at k
      have:z=.bool false:=by
       have C:=CT (J:=fun _ _=>False) (β:=fun _=>none) (h:=[]) (w:=w) z
       rw[k,Rep]at C;exact C
      subst this
      simp[zeroValue,typeInfo,hi,v]
   ·cases B
 ·cases hs
def y9{b:Nat}{x:Blk}{v:Value}(S:SimH J β h w)(C:Al h b=some x)(D:x.dead=false)(hr:Rep J β h w (.omap b) v):
  ∃ k ob,x.mp=true/\β b=some (k,0)/\v=Ad7 x.sz k/\w.heap[k]?=some ob/\ObjIs x ob/\x.sealed=false/\x.pure=true:=by
 rw[Rep]at hr
 obtain⟨y,k,⟨A,G⟩,hr⟩:=hr
 rw[C]at A;simp at A;subst A
 rcases hr with hr|⟨I,L⟩
 ·simp[D]at hr
 ·obtain⟨T,V,k',ob,B,Y,h5,_⟩:=S.mblk b x C D G
  rw[I]at B;simp at B;subst B
  exact⟨k,ob,G,I,L,Y,h5,V,T⟩
def vG{b:Nat}{x:Blk}{v:Value}(S:SimH J β h w)(C:Al h b=some x)(D:x.dead=false)(G:x.sz=0)(hr:Rep J β h w (.omap b) v):
  ∃ k es clk,x.mp=true/\β b=some (k,0)/\v=.map (some k)/\w.heap[k]?=some (.map es clk)/\Ac6 x.cells es/\x.sealed=false/\x.pure=true:=by
 obtain⟨k,ob,I,L,B,T,A,V,Y⟩:=y9 S C D hr
 rw[G]at B
 rcases A with⟨_,es,clk,rfl,A⟩|⟨A,_⟩
 ·exact⟨k,es,clk,I,L,B,T,A,V,Y⟩
 ·omega
def Aaq{b:Nat}{x:Blk}{v:Value}(S:SimH J β h w)(C:Al h b=some x)(D:x.dead=false)(G:x.sz=1)(hr:Rep J β h w (.omap b) v):
  ∃ k s pos,x.mp=true/\β b=some (k,0)/\v=.pointer (some ⟨k,0,none⟩)/\w.heap[k]?=some (.stringIter ⟨⟨s⟩⟩ pos)/\x.cells=[.str s,.int .i64 (pos:Int)]/\x.sealed=false/\x.pure=true:=by
 obtain⟨k,ob,I,L,B,T,A,V,Y⟩:=y9 S C D hr
 rw[G]at B
 rcases A with⟨A,_⟩|⟨_,s,pos,rfl,A⟩
 ·omega
 ·exact⟨k,s,pos,I,L,B,T,A,V,Y⟩
def F_{k pos:Nat}{s:ByteArray}(v:w.heap[k]?=some (.stringIter s pos)):(getObj k).run P w=.ok (.stringIter s pos) w:=by simp[getObj,Sem.run,v]
def dM{k pos:Nat}{s:ByteArray}(ob:Obj)(v:w.heap[k]?=some (.stringIter s pos)):(setObj k ob).run P w=.ok () {w with heap:=w.heap.setIfInBounds k ob}:=by simp[setObj,Sem.run,v]
def nk{d:Nat}{t:TypeId}{x:AV}{vx:Value}{k:AV->Dc->O R}(S:SimH J β h w)(v:WM P d t x k=some r)(B:Rep J β h w x vx):
  ∃ val ups,k val ups=some r/\(UpsFree d h ups->∃ vc w',(Instr.range t vx).run P w=.ok vc w'/\OpDone J β h w ups val vc w'):=by
 unfold WM at v
 split at v
 ·rename_i s C
  rw[Rep]at B;subst B
  refine⟨_,_,v,fun D=>⟨.pointer (some ⟨w.heap.size,0,none⟩),w.alloc (.stringIter ⟨⟨s⟩⟩ 0),?_,?_⟩⟩
  ·simp only[Instr.range,Sem.run_bind,run_underlying C,Result.andThen_ok,Sem.run_pure];rfl
  have A:=Step.newObj (x:={dead:=false,sealed:=false,pure:=true,taint:=false,sz:=1,cells:=[.str s,.int .i64 0],mp:=true}) (ob:=.stringIter ⟨⟨s⟩⟩ 0) S (D.nid (by simp[A0])) rfl rfl rfl (.inr ⟨rfl,s,0,rfl,rfl⟩) rfl
  refine⟨_,_,A,?_⟩
  rw[Rep]
  exact⟨{dead:=false,sealed:=false,pure:=true,taint:=false,sz:=1,cells:=[.str s,.int .i64 0],mp:=true},w.heap.size,⟨by simp[Am,Ag],rfl⟩,.inr ⟨by simp,rfl⟩⟩
 ·simp at v
def qP{d:Nat}{t:TypeId}{it:AV}{b:Bool}{vi:Value}{k:AV->Dc->O R}(S:SimH J β h w)(hl:Looks g h)(G:lM g it b k=some r)(hi:Rep J β h w it vi):
  ∃ val ups,k val ups=some r/\(UpsFree d h ups->∃ vc w',(Instr.next vi b t).run P w=.ok vc w'/\OpDone J β h w ups val vc w'):=by
 unfold lM at G
 split at G
 ·rename_i b0
  obtain⟨x,hx,h1⟩:=ub G
  obtain⟨hc,B⟩:=uc h1
  simp only[Aho]at hc
  obtain⟨C,I⟩:=hc
  have I:=Aht I
  obtain⟨hb,L⟩:=Cw hl hx
  obtain⟨kk,s,pos,_,hβ,rfl,D,T,V,Y⟩:=Aaq S hb L I hi
  rw[T]at B
  simp only at B
  have hlt:=Uz D
  cases v:decide ((pos:Int)<(s.length:Int))with
  | true =>
   rw[v]at B
   have v:pos<s.length:=by have:=of_decide_eq_true v;omega
   have A:pos<(⟨⟨s⟩⟩:ByteArray).size:=v
   refine⟨_,_,B,fun _=>⟨.tuple #[.bool true,goInt pos,.int .i32 ((wN s pos).1:Nat)],{w with heap:=w.heap.setIfInBounds kk (.stringIter ⟨⟨s⟩⟩ (pos+(wN s pos).2))},?_,J,β,?_,?_⟩⟩
   ·simp[Instr.next,F_ D,A,dM _ D,wN]
   ·show Step J β h w J β (Ei h b0 _) _
    refine Step.setObj (ob:=.stringIter ⟨⟨s⟩⟩ pos) S hb L C hβ D (by simp[hlt]) (fun j hj=>by simp[Al8,Ne.symm hj]) (by simp) rfl rfl rfl (.inr ⟨I,s,pos+(wN s pos).2,rfl,by simp⟩) L V Y rfl C
   ·rw[Rep]
    refine⟨_,rfl,?_⟩
    simp[Reps,Rep,goInt]
  | false =>
   rw[v]at B
   have v:¬ pos<s.length:=by have:=of_decide_eq_false v;omega
   have A:¬ pos<(⟨⟨s⟩⟩:ByteArray).size:=v
   refine⟨_,_,B,fun _=>⟨.tuple #[.bool false],w,?_,J,β,Step.refl S,?_⟩⟩
   ·simp[Instr.next,F_ D,A]
   ·rw[Rep]
    refine⟨_,rfl,?_⟩
    simp[Reps,Rep]
 ·simp at G
def fR{d:Nat}{t:TypeId}{k:AV->Dc->O R}(S:SimH J β h w)(v:We d none k=some r):
  ∃ val ups,k val ups=some r/\(UpsFree d h ups->∃ vc w',(Instr.makeMap t none).run P w=.ok vc w'/\OpDone J β h w ups val vc w'):=by
 unfold We at v
 refine⟨_,_,v,fun B=>⟨.map (some w.heap.size),w.alloc (.map #[] 0),rfl,?_⟩⟩
 have A:=Step.newObj (x:={dead:=false,sealed:=false,pure:=true,taint:=false,sz:=0,cells:=[],mp:=true}) (ob:=.map #[] 0) S (B.nid (by simp[A0])) rfl rfl rfl (.inl ⟨rfl,#[],0,rfl,[],rfl,by simp⟩) rfl
 refine⟨_,_,A,?_⟩
 rw[Rep]
 exact⟨{dead:=false,sealed:=false,pure:=true,taint:=false,sz:=0,cells:=[],mp:=true},w.heap.size,⟨by simp[Am,Ag],rfl⟩,.inr ⟨by simp,rfl⟩⟩
def qQ{t:TypeId}{m key:AV}{c:Bool}{vm vk:Value}{k:AV->O R}(S:SimH J β h w)(T:Looks g h)(D:lL P g t m key c k=some r)(V:Rep J β h w m vm)(B:Rep J β h w key vk):
  ∃ v vc,k v=some r/\(Instr.lookup t vm vk c).run P w=.ok vc w/\Rep J β h w v vc:=by
 unfold lL at D
 split at D
 ·rename_i b n
  obtain⟨hs,Y⟩:=uc D
  obtain⟨x,hx,h2⟩:=ub Y
  obtain⟨A,h3⟩:=uc h2
  simp only[Aho]at A
  obtain⟨A,G⟩:=A
  have G:=Aht G
  obtain⟨hb,hd⟩:=Cw T hx
  rw[Rep]at B;subst B
  obtain⟨kk,es,clk,_,hβ,rfl,B,hr,_,_⟩:=vG S hb hd G V
  obtain⟨kt,et,u1,u2,u3⟩:=fQ hs
  refine⟨_,.bool (fE x.cells n),h3,?_,by rw[Rep]⟩
  have C:IsKey (.int .i64) (.int .i64 n):=by simp[IsKey]
  rcases qO hr n with⟨I,L⟩|⟨I,j,e,L,_,_,_⟩
  ·rw[I]
   simp[Instr.lookup,run_underlying u1,run_getObj_map B,run_checkKey u2 C,run_findKey u2 L,u3,Result.andThen]
  ·rw[I]
   simp[Instr.lookup,run_underlying u1,run_getObj_map B,run_checkKey u2 C,run_findKey u2 L,Result.andThen]
 ·simp at D
def nm{t:TypeId}{m key val:AV}{vm vk vv:Value}{k:AV->Dc->O R}(S:SimH J β h w)(hl:Looks g h)(V:WL P g t m key val k=some r)(hm:Rep J β h w m vm)(A:Rep J β h w key vk)(hv:Rep J β h w val vv):
  ∃ ups,k .undef ups=some r/\∃ J' β' w',(Instr.mapUpdate t vm vk vv).run P w=.ok () w'/\Step J β h w J' β' (Am ups h) w':=by
 unfold WL at V
 split at V
 ·rename_i b n
  obtain⟨hs,h1⟩:=uc V
  obtain⟨x,hx,h2⟩:=ub h1
  obtain⟨v,h3⟩:=uc h2
  simp only[Aho]at v
  obtain⟨v,G⟩:=v
  have G:=Aht G
  obtain⟨Y,I⟩:=Cw hl hx
  simp only[Rep]at A hv;subst A hv
  obtain⟨kk,es,clk,_,hβ,rfl,A,hr,L,T⟩:=vG S Y I G hm
  obtain⟨kt,et,u1,u2,u3⟩:=fQ hs
  have B:IsKey (.int .i64) (.int .i64 n):=by simp[IsKey]
  have hlt:=Uz A
  refine⟨_,h3,J,β,?_⟩
  rcases qO hr n with⟨g1,g2⟩|⟨g1,j,e,g2,g3,g4,g5⟩
  ·refine⟨{w with heap:=w.heap.setIfInBounds kk (.map (es.push {key:=.int .i64 n,val:=.bool true,born:=clk}) (clk+1))},?_,?_⟩
   ·simp[Instr.mapUpdate,run_underlying u1,run_getObj_map A,run_checkKey u2 B,run_findKey u2 g2,run_setObj_map _ A,Result.andThen]
   ·refine Step.setObj S Y I v hβ A (heap_set A).1 (fun j hj=>(heap_set A).2 j hj) (by simp) rfl rfl rfl (.inl ⟨G,_,_,rfl,?_⟩) I L T rfl v
    obtain⟨l,C,D⟩:=hr
    refine⟨l++[n],?_,?_⟩
    ·show yQ x.cells n=_
     unfold yQ;rw[g1,C];simp
    ·simp[D]
  ·refine⟨{w with heap:=w.heap.setIfInBounds kk (.map (es.modify j fun e=>{e with key:=.int .i64 n,val:=.bool true}) clk)},?_,?_⟩
   ·simp[Instr.mapUpdate,run_underlying u1,run_getObj_map A,run_checkKey u2 B,run_findKey u2 g2,g3,g4,run_keyThatStays B,run_setObj_map _ A,Result.andThen]
   ·refine Step.setObj S Y I v hβ A (heap_set A).1 (fun j hj=>(heap_set A).2 j hj) (by simp) rfl rfl rfl (.inl ⟨G,_,_,rfl,?_⟩) I L T rfl v
    obtain⟨l,C,D⟩:=hr
    refine⟨l,?_,?_⟩
    ·show yQ x.cells n=_
     unfold yQ;rw[g1,C];rfl
    ·have:es.modify j (fun e=>{e with key:=.int .i64 n,val:=.bool true})=es:=by
      apply Array.ext_getElem?
      intro i
      rw[Ai6]
      split
      ·rename_i hij;subst hij
       rw[g3];simp;rw[<-g4,<-g5]
      ·rfl
     rw[this];exact D
 ·simp at V
end
end Gx
