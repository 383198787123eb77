/- A part of the proof; each theorem says what it holds. -/
import GoSem.Step
import Derived.KernelRfl
import Derived.WalkKit
import Derived.Deep.MidRow
import Derived.Deep.AppendSrc
import Derived.Laws.IdiomStrings
import Derived.Deep.Upon
import Derived.Lib.Builder
import Derived.Laws.BytesString
import Derived.Laws.Tables
import Derived.Laws.StructEq
import Derived.ChangeKeysEq
set_option linter.unusedVariables false
set_option linter.defProp false
set_option linter.unusedSimpArgs false
open Nat (ble beq)
open List (take drop replicate)
open Go.IntKind (wrap)
namespace Gx
abbrev Lu:=List UInt8
def A2r:=@List.getElem?_eq_getElem
def A2s:=@Nat.le_refl
def A2t:=@List.take_of_length_le
def A2u:=@Int.toNat_natCast
def A2v:=@Option.bind_assoc
def A2w:=@Nat.mul_comm
def A2x:=@Nat.mul_le_mul_right
def A2y:=@Bool.and_eq_true
def A2z:=@List.getD_eq_getElem?_getD
def A20:=@Nat.mul_assoc
def A21:=@Nat.mul_add
def A22:=@Nat.zero_add
def A23:=@Nat.add_mul
def A24:=@List.getElem_mem
def A25:=@Nat.pow_succ
def A26:=@Nat.eq_of_beq_eq_true
def A27:=@List.mem_append
def A28:=@List.mem_cons
def A29:=@List.getElem?_eq_some_iff
def A3a:=@List.length_cons
def A3b:=@List.length_take
def A3c:=@Int.natAbs_natCast
def A3d:=@List.length_append
def A3e:=@Nat.lt_of_lt_of_le
def A3f:=@Nat.mul_le_mul_left
def A3g:=@Nat.mul_one
def A3h:=@Nat.min_eq_left
def A3i:=@Rat.intCast_sub
def A3j:=@Nat.eq_zero_or_pos
def A3k:=@Option.some.injEq
def A3l:=@List.take_length
def A3m:=@List.drop_zero
def A3n:=@Rat.intCast_le_intCast
def A3o:=@List.map_cons
def A3p:=@Nat.ble_eq
def A3q:=@List.getElem_append_left
def A3r:=@List.flatMap_cons
def A3s:=@Nat.mod_eq_of_lt
def A3t:=@Nat.pow_le_pow_right
def A3u:=@Int.sign_eq_neg_one_of_neg
def A3v:=@List.drop_eq_nil_of_le
def A3w:=@List.mem_map
def A3x:=@Nat.lt_of_le_of_lt
def A3y:=@Rat.intCast_add
def A3z:=@List.getElem?_drop
def A30:=@Nat.add_zero
def A31:=@List.getElem?_eq_none
def A32:=@Nat.pow_add
def A33:=@Nat.mul_lt_mul''
def A34:=@Option.bind_some
def A35:=@List.getElem?_set_self
def A36:=@List.getElem?_append
def A37:=@Rat.le_refl
def A38:=@List.append_assoc
def A39:=@List.take_succ_eq_append_getElem
def A4a:=@Nat.div_eq_of_lt
def A4b:=@List.nodup_cons
def A4c:=@Nat.div_add_mod
def A4d:=@Nat.add_assoc
def A4e:=@List.cons_append
def A4f:=@Nat.le_trans
def A4g:=@List.drop_eq_getElem_cons
def A4h:=@List.pairwise_iff_getElem
def A4i:=@List.getElem_map
def A4j:=@Int.sign_eq_one_of_pos
def A4k:=@List.getElem?_set_ne
def A4l:=@Nat.pow_pos
def A4m:=@Bool.false_eq_true
def A4n:=@Nat.gcd_comm
def A4o:=@Array.getElem?_eq_some_iff
def A4p:=@Nat.dvd_mul_left_of_dvd
def A4q:=@List.head?_eq_getElem?
def A4r:=@Nat.mod_lt
def A4s:=@Bool.eq_iff_iff
def A4t:=@Nat.div_le_self
def A4u:=@List.getElem_take
def A4v:=@List.forall_mem_cons
def A4w:=@List.mem_cons_of_mem
def A4x:=@List.append_nil
def A4y:=@List.length_map
def A4z:=@Array.getElem?_eq_none
def A40:=@Rat.le_trans
def A41:=@Rat.mul_le_mul_of_nonneg_right
def A42:=@List.getElem?_append_left
def A43:=@List.getElem_append_right
def A44:=@Array.ext'
def A45:=@Nat.mul_left_comm
def A46:=@Nat.mul_le_mul
def A47:=@List.getElem?_take
def A48:=@Nat.gcd_zero_right
def A49:=@Option.bind_eq_some_iff
def A5a:=@Array.getD_eq_getD_getElem?
def A5b:=@Bool.not_true
def A5c:=@Int.natAbs_mul
def A5d:=@List.any_eq_false
def A5e:=@List.getElem?_append_right
def A5f:=@List.length_nil
def A5g:=@List.mem_filter
def A5h:=@Nat.lt_of_mul_lt_mul_left
def A5i:=@List.take_append_drop
def A5j:=@Nat.gcd_dvd_left
def A5k:=@Nat.le_of_not_lt
def A5l:=@List.mem_iff_getElem
def A5m:=@Nat.add_mul_div_left
def A5n:=@Nat.mul_lt_mul_right
def A5o:=@List.getElem?_map
def A5p:=@List.getElem?_replicate
def A5q:=@List.foldl_cons
def A5r:=@List.flatMap_append
def A5s:=@Bool.true_and
def A5t:=@List.all_eq_true
def A5u:=@Bool.false_and
def A5v:=@List.mem_cons_self
def A5w:=@List.mem_singleton
def A5x:=@List.mem_take_iff_getElem
def A5y:=@Bool.or_eq_true
def A5z:=@List.nil_append
def A50:=@Nat.le_max_left
def A51:=@List.map_map
def A52:=@Nat.div_lt_of_lt_mul
def A53:=@Int.mul_ediv_cancel_left
def A54:=@Nat.gcd_pos_of_pos_right
def A55:=@Option.isSome_iff_exists
def A56:=@List.drop_succ_cons
def A57:=@List.map_congr_left
def A58:=@List.getElem_set
def A59:=@List.getLast_eq_getElem
def A6a:=@Nat.le_max_right
def A6b:=@List.getElem_cons_zero
def A6c:=@Nat.add_comm
def A6d:=@Nat.sub_self
def A6e:=@Rat.add_zero
def A6f:=@Rat.intCast_lt_intCast
def A6g:=@Rat.sub_eq_add_neg
def A6h:=@Rat.num_eq_zero
def A6i:=@Array.getElem?_modify
def A6j:=@Nat.le_div_iff_mul_le
def A6k:=@Int.lt_trichotomy
def A6l:=@Nat.gcd_dvd_right
def A6m:=@Array.getElem?_append_left
def A6n:=@Bool.and_false
def A6o:=@Bool.not_false
def A6p:=@List.pairwise_append
def A6q:=@Nat.lt_of_mul_lt_mul_right
def A6r:=@Rat.div_def
def A6s:=@Int.sign_eq_zero_iff_zero
def A6t:=@List.getLast?_eq_getElem?
def A6u:=@List.getLastD_eq_getLast?
def A6v:=@Array.length_toList
def A6w:=@List.getElem?_take_of_lt
def A6x:=@Prod.mk.injEq
def A6y:=@Nat.mul_add_div
def A6z:=@Rat.le_antisymm
def A60:=@BitVec.toNat_ofNat
def A61:=@List.pairwise_cons
def A62:=@Nat.add_sub_cancel
def A63:=@Nat.mul_right_comm
def A64:=@Rat.mul_inv_cancel
def A65:=@Int.le_refl
def A66:=@List.length_eq_zero_iff
def A67:=@Nat.le_mul_of_pos_right
def A68:=@Bool.or_true
def A69:=@List.drop_drop
def A7a:=@List.getElem_cons_succ
def A7b:=@Nat.div_div_eq_div_mul
def A7c:=@Nat.pow_zero
def A7d:=@Nat.zero_mul
def A7e:=@Rat.le_of_lt
def A7f:=@Rat.sub_self
def A7g:=@Array.getElem?_setIfInBounds_ne
def A7h:=@List.length_singleton
def A7i:=@Nat.div_lt_iff_lt_mul
def A7j:=@Nat.le_of_ble_eq_true
def A7k:=@Rat.le_iff_sub_nonneg
def A7l:=@List.any_eq_true
def A7m:=@List.drop_append
def A7n:=@List.mem_flatMap
def A7o:=@List.not_mem_nil
def A7p:=@Nat.dvd_add_left
def A7q:=@Nat.lt_of_not_le
def A7r:=@Option.bind_none
def A7s:=@Rat.mkRat_eq_div
def A7t:=@List.eq_nil_of_length_eq_zero
def A7u:=@List.mem_append_left
def A7v:=@List.mem_of_mem_take
def A7w:=@List.replicate_succ'
def A7x:=@List.find?_cons
def A7y:=@List.map_append
def A7z:=@Nat.mul_add_mod
def A70:=@Nat.mul_ne_zero
def A71:=@Option.map_some
def A72:=@Option.some.inj
def A73:=@Rat.intCast_mul
def A74:=@Rat.natCast_pos
def A75:=@List.filter_eq_self
def A76:=@List.replicate_succ
def A77:=@Rat.mkRat_add_mkRat
def A78:=@Nat.lt_or_ge
def A79:=@Rat.zero_add
def A8a:=@Int.fdiv_eq_ediv_of_nonneg
def A8b:=@Int.mul_nonneg
def A8c:=@Rat.le_of_mul_le_mul_right
def A8d:=@Rat.not_le
def A8e:=@Nat.add_mul_mod_self_left
def A8f:=@List.foldl_append
def A8g:=@Nat.dvd_mul_right
def A8h:=@Nat.gcd_rec
def A8i:=@Nat.mul_pos
def A8j:=@Nat.one_mul
def A8k:=@Array.size_setIfInBounds
def A8l:=@Bool.false_or
def A8m:=@List.all_cons
def A8n:=@Int.natCast_zero
def A8o:=@List.filter_cons
def A8p:=@List.length_drop
def A8q:=@List.take_append
def A8r:=@Nat.add_sub_cancel_left
def A8s:=@Nat.mul_div_cancel_left
def A8t:=@Option.getD_some
def A8u:=@Bool.or_comm
def A8v:=@Bool.true_or
def A8w:=@Int.le_of_lt
def A8x:=@List.map_set
def A8y:=@Nat.beq_eq
def A8z:=@Nat.le_of_lt
def A80:=@Option.map_eq_some_iff
def A81:=@Rat.not_lt
def A82:=@List.range_succ
def A83:=@Array.getElem?_toList
def A84:=@List.getElem_set_self
def A85:=@List.length_filter_le
def A86:=@List.length_mergeSort
def A87:=@List.mem_append_right
def A88:=@List.set_append_right
def A89:=@List.getElem?_zipIdx
def A9a:=@List.mapM_cons
def A9b:=@List.mem_range
def A9c:=@List.nodup_nil
def A9d:=@List.take_take
def A9e:=@List.take_zero
def A9f:=@Nat.zero_le
def A9g:=@Rat.num_nonneg
def A9h:=@List.drop_set_of_lt
def A9i:=@List.getElem?_range
def A9j:=@List.getElem_of_mem
def A9k:=@Rat.mkRat_mul_mkRat
def A9l:=@Int.add_assoc
def A9m:=@List.map_take
def A9n:=@Rat.den_mkRat
def A9o:=@Rat.mul_assoc
def A9p:=@Rat.num_mkRat
def A9q:=@List.set_cons_succ
def A9r:=@Rat.div_mul_cancel
def A9v:=@Nat.beq_refl
def A9w:=@Rat.le_total
def A9x:=@Rat.ne_of_gt
def A93:=@Int.mul_neg
def A94:=@Nat.div_one
def A95:=@Nat.or_comm
def A96:=@Nat.pow_mul
end Gx
namespace Gx
def Axx:Nat:=6
end Gx
namespace Gx
open Go
inductive AV where
|int (k:IntKind) (n:Int)
|bool (b:Bool)
|str (s:List UInt8)
|nsl
|imm (c:List AV) (len sz:Nat) (tight org:Bool)
|iptr (c:List AV) (org:Bool)
|pagg (c:List AV) (org:Bool)
|own (b off len:Nat)
|optr (b off:Nat)
|agg (c:List AV)
|tup (c:List AV)
|fn (f:Nat) (caps:List AV)
|nilptr
|nilfn
|undef
|omap (b:Nat)
abbrev Bbq(k n:Nat):AV:=.own (300000+k) 0 n
abbrev Bbr:AV:=.int .i64 0
structure Blk where
 dead:Bool
 sealed:Bool
 pure:Bool
 taint:Bool
 sz:Nat
 cells:List AV
 mp:Bool:=false
 ty:Option (Nat×Nat):=none
abbrev LA:=List AV
abbrev O(R:Type):=Option R
abbrev Ap:=List (Nat×Blk)
abbrev Gv:=List (Nat×AV)
def Ai:Ap->Nat->Option Blk
|[],_=>none
|(i,x)::r,b=>cond (beq i b) (some x) (Ai r b)
def Hr:Ap->Nat->Blk->Ap
|[],b,y=>[(b,y)]
|(i,x)::r,b,y=>cond (beq i b) ((b,y)::r) (cond (Nat.blt b i) ((b,y)::(i,x)::r) ((i,x)::Hr r b y))
def Fu:Gv->Nat->AV
|[],_=>.undef
|(i,x)::r,b=>cond (beq i b) x (Fu r b)
def PO:Gv->Nat->AV->Gv
|[],b,y=>[(b,y)]
|(i,x)::r,b,y=>cond (beq i b) ((b,y)::r) (cond (Nat.blt b i) ((b,y)::(i,x)::r) ((i,x)::PO r b y))
structure St where
 s:Gv
 h:Ap
mutual
def gU:Value->AV
|.int k n=>.int k n
|.bool b=>.bool b
|.string ⟨⟨s⟩⟩=>.str s
|.slice none 0 0=>.nsl
|.pointer none=>.nilptr
|.nilFunc=>.nilfn
|.agg ⟨cs⟩=>.agg (Md cs)
|_=>.undef
def Md:List Value->List AV
|[]=>[]
|v::r=>gU v::Md r
end
def ev(s:Gv):Operand->AV
|.tmp t=>Fu s t
|.const v=>gU v
|.func f=>cond (Nat.blt f 1000000) (.fn f []) .undef
|.global _=>.undef
def Cs(P:Program)(t:TypeId):Option Nat:=(P.info? t).map (·.size)
def yj(P:Program)(t:TypeId):Option Nat:=(P.info? t).map (·.bytes)
def Ajr(P:Program)(t:TypeId):Bool:=((P.info? t).map (·.hasPointers)).getD true
def Ab4(P:Program)(t:TypeId):Option AV:=((P.info? t).bind (·.zero)).map gU
def Bb:LA->Bool
|[]=>true
|.int ..::r=>Bb r
|.bool _::r=>Bb r
|.str _::r=>Bb r
|.nsl::r=>Bb r
|.nilptr::r=>Bb r
|.nilfn::r=>Bb r
|_=>false
def k8(P:Program)(t:TypeId):Option LA:=(P.info? t).bind fun i=>(i.zero).bind fun v=>cond (Bb (Md v.cells.toList)&&beq v.cells.toList.length i.size) (some (Md v.cells.toList)) none
def gV(op:BinOp)(k:IntKind)(a b:Int):Option AV :=
 match op with
|.add=>some (.int k (k.wrap (a+b)))
|.sub=>some (.int k (k.wrap (a - b)))
|.mul=>some (.int k (k.wrap (a*b)))
|.and=>some (.int k (k.wrap ((BitVec.ofInt k.bits a &&& BitVec.ofInt k.bits b).toNat:Int)))
|.or=>some (.int k (k.wrap ((BitVec.ofInt k.bits a ||| BitVec.ofInt k.bits b).toNat:Int)))
|.xor=>some (.int k (k.wrap ((BitVec.ofInt k.bits a ^^^ BitVec.ofInt k.bits b).toNat:Int)))
|.andNot=>some (.int k (k.wrap ((BitVec.ofInt k.bits a &&& ~~~ (BitVec.ofInt k.bits b)).toNat:Int)))
|.eql=>some (.bool (a==b))
|.neq=>some (.bool (a != b))
|.lss=>some (.bool (decide (a<b)))
|.leq=>some (.bool (decide (a<=b)))
|.gtr=>some (.bool (decide (a>b)))
|.geq=>some (.bool (decide (a>=b)))
|_=>none
def Lo(k k':IntKind):Bool:=decide (k=k')
def TU(P:Program)(t:TypeId):Bool:=match P.underlying t with|some .bool=>true|_=>false
def Alp{R:Type}(P:Program)(t:TypeId)(op:BinOp)(x y:AV)(r:AV->O R):O R :=
 match x,y with
|.int k a,.int k' b =>
  match op with
  |.shl=>cond (decide (b<0)) none (r (.int k (k.wrap (a*2 ^ (min b.toNat k.bits)))))
  |.shr=>cond (decide (b<0)) none (r (.int k (a.fdiv (2 ^ (min b.toNat k.bits)))))
  |.quo=>cond (Lo k k') (cond (b==0) none (r (.int k (k.wrap (a.tdiv b))))) none
  |.rem=>cond (Lo k k') (cond (b==0) none (r (.int k (a.tmod b)))) none
  |op=>cond (Lo k k') ((gV op k a b).bind r) none
|.bool a,.bool b =>
  match op with
  |.eql=>cond (TU P t) (r (.bool (a==b))) none
  |.neq=>cond (TU P t) (r (.bool (!(a==b)))) none
  |_=>none
|_,_=>none
def Azp(op:UnOp)(x:AV):Option AV :=
 match op,x with
|.neg,.int k n=>some (.int k (k.wrap (0 - n)))
|.xor,.int k n=>gV .xor k (cond k.signed (-1) k.max) n
|.not,.bool b=>some (.bool (!b))
|_,_=>none
def k9(k:IntKind):AV->Option Int
|.int k' n=>cond (Lo k k') (some n) none
|_=>none
def asBool:AV->Option Bool
|.bool b=>some b
|_=>none
def Aov:AV->Option Lu
|.str s=>some s
|_=>none
def Aow(sz:Nat):AV->Option (LA×Nat)
|.imm c len sz' _ _=>cond (beq sz sz') (some (c,len)) none
|.nsl=>some ([],0)
|_=>none
def bR{R:Type}(step:TypeId->LA->LA->(Bool->O R)->O R)(x y:LA):List (Nat×TypeId)->(Bool->O R)->O R
|[],k=>k true
|(off,t)::r,k=>step t (x.drop off) (y.drop off) fun b=>bR step x y r fun c=>k (b&&c)
def yk(P:Program)(sz:Nat)(f:Field):Bool:=match Cs P f.type with
|some s => ble 1 s && (ble (f.offset + s) sz && !(f.name == "_"))
|none=>false
def pp{R:Type}(P:Program):Nat->TypeId->LA->LA->(Bool->O R)->O R
|0,_,_,_,_=>none
|d+1,t,x,y,k=>match P.underlying t with
  |some (.int kd)=>(x.head?).bind fun u=>(k9 kd u).bind fun a=>(y.head?).bind fun v=>(k9 kd v).bind fun b=>k (a==b)
  |some (.struct fs)=>(Cs P t).bind fun sz=>cond (P.stoodInHeld t||!(fs.toList.all (yk P sz))) none (bR (pp P d) x y (fs.toList.map fun f=>(f.offset,f.type)) k)
  |_=>none
def ym:AV->Option LA
|.pagg c _=>some c
|.agg c=>some c
|_=>none
def Aox(P:Program)(t:TypeId):Bool:=match P.underlying t with|some (.struct _)=>true|some (.array _ _)=>true|_=>false
def wv{R:Type}(P:Program)(t:TypeId)(op:BinOp)(x y:AV)(r:AV->O R):O R :=
 match ym x,ym y with
| some a,some b=>(Cs P t).bind fun s=>cond (ble 1 s&&(beq a.length s&&(beq b.length s&&(Aox P t&&!(P.eqGuardType P.depth t)))))
  (match op with
   |.eql=>pp P 8 t a b fun c=>r (.bool c)
   |.neq=>pp P 8 t a b fun c=>r (.bool (!c))
   | _=>none) none
|_,_=>Alp P t op x y r
def Xw{R:Type}(P:Program)(t:TypeId)(c:LA)(org:Bool)(k:Bool->O R):O R:=cond (Ajr P t) (k org) (cond (!org||Bb c) (k false) none)
def PP{R:Type}(P:Program)(t:TypeId)(c:LA)(org:Bool)(k:AV->O R):O R :=
 match P.underlying t with
|some (.int kd)=>(c.head?).bind fun x=>(k9 kd x).bind fun n=>k (.int kd n)
|some .bool=>(c.head?).bind fun x=>(asBool x).bind fun b=>k (.bool b)
|some .string=>(c.head?).bind fun x=>(Aov x).bind fun s=>k (.str s)
|some (.slice e)=>(Cs P e).bind fun sz=>(c.head?).bind fun x=>(Aow sz x).bind fun p=>k (.imm p.1 p.2 sz false org)
|some (.struct _)=>(Cs P t).bind fun n=>cond (ble n c.length) (Xw P t (c.take n) org fun o=>k (.pagg (c.take n) o)) none
|some (.array _ _)=>(Cs P t).bind fun n=>cond (ble n c.length) (Xw P t (c.take n) org fun o=>k (.pagg (c.take n) o)) none
|_=>none
def IK{R:Type}(n:Nat)(k:AV->O R):LA->Nat->O R
|[],_=>none
|v::r,i=>cond (beq n i) (k v) (IK n k r (i+1))
def k_{R:Type}(P:Program)(t:TypeId)(c:LA)(k:AV->O R):O R :=
 match P.underlying t with
|some (.struct _)=>(Cs P t).bind fun n=>cond (ble n c.length) (k (.agg (c.take n))) none
|some (.array _ _)=>(Cs P t).bind fun n=>cond (ble n c.length) (k (.agg (c.take n))) none
|some _=>(c.head?).bind k
|none=>none
def PQ{R:Type}(P:Program)(t:TypeId)(c:LA)(off:Nat)(k:AV->O R):O R :=
 match P.underlying t with
|some (.struct _)=>(Cs P t).bind fun n=>cond (ble n (c.drop off).length) (k (.agg ((c.drop off).take n))) none
|some (.array _ _)=>(Cs P t).bind fun n=>cond (ble n (c.drop off).length) (k (.agg ((c.drop off).take n))) none
|some _=>IK off k c 0
|none=>none
abbrev Bp:=Nat->Option Blk
def Iu(g:Bp)(b:Nat):Option Blk:=(g b).bind fun x=>cond x.dead none (some x)
def pu{R:Type}(P:Program)(g:Bp)(t:TypeId)(p:AV)(k:AV->O R):O R :=
 match p with
|.iptr c org=>PP P t c org k
|.optr b off=>(Iu g b).bind fun x=>cond x.pure (PP P t (x.cells.drop off) x.taint k) (PQ P t x.cells off k)
|_=>none
def Ab(i:Int)(n:Nat):Bool:=decide (0<=i)&&decide (i<(n:Int))
def Tf{R:Type}(P:Program)(t:TypeId)(x i:AV)(k:AV->O R):O R :=
 match P.underlying t,x,i with
|some (.slice el),.imm c len sz _ org,.int _ i=>(Cs P el).bind fun sz'=>cond (beq sz sz') (cond (Ab i len) (k (.iptr (c.drop (i.toNat*sz)) org)) none) none
|some (.slice el),.own b off len,.int _ i=>(Cs P el).bind fun sz=>cond (Ab i len) (k (.optr b (off+i.toNat*sz))) none
|some (.array len el),.iptr c org,.int _ i=>(Cs P el).bind fun sz=>cond (Ab i len) (k (.iptr (c.drop (i.toNat*sz)) org)) none
|some (.array len el),.optr b off,.int _ i=>(Cs P el).bind fun sz=>cond (Ab i len) (k (.optr b (off+i.toNat*sz))) none
|_,_,_=>none
def lA{R:Type}(i:Int)(k:Nat->O R):Nat->Nat->O R
|0,_=>none
|m+1,j=>cond (i==(j:Int)) (k j) (lA i k m (j+1))
def pL(P:Program)(t:TypeId)(f:Nat):Option (Nat×TypeId) :=
 match P.underlying t with
|some (.struct fs)=>(fs[f]?).map fun x=>(x.offset,x.type)
|_=>none
def Tg{R:Type}(P:Program)(t:TypeId)(x:AV)(f:Nat)(k:AV->O R):O R :=
 (pL P t f).bind fun p=>(Cs P p.2).bind fun n=>cond (beq n 0) none
 (match x with
|.iptr c org=>k (.iptr (c.drop p.1) org)
|.optr b off=>k (.optr b (off+p.1))
| _=>none)
def gW{R:Type}(P:Program)(t:TypeId)(x:AV)(f:Nat)(k:AV->O R):O R :=
 (pL P t f).bind fun p =>
 match x with
|.pagg c org=>PP P p.2 (c.drop p.1) org k
|.agg c=>k_ P p.2 (c.drop p.1) k
|_=>none
def gX{R:Type}(P:Program)(t:TypeId)(x i:AV)(k:AV->O R):O R :=
 match P.underlying t,x,i with
|some .string,.str s,.int _ i=>cond (Ab i s.length) (k (.int .u8 ((s.getD i.toNat 0).toNat:Int))) none
|some (.array len el),.pagg c org,.int _ i=>(Cs P el).bind fun sz=>cond (Ab i len) (PP P el (c.drop (i.toNat*sz)) org k) none
|some (.array len el),.agg c,.int _ i=>(Cs P el).bind fun sz=>cond (Ab i len) (PQ P el c (i.toNat*sz) k) none
|_,_,_=>none
def bS(o:Option AV)(d:Nat):Option Int:=match o with|none=>some (d:Int)|some (.int _ i)=>some i|_=>none
def Xx{R:Type}(lo hi mx:Option AV)(n:Nat)(k:Nat->Nat->O R):O R :=
 (bS lo 0).bind fun l=>(bS hi n).bind fun h=>(bS mx n).bind fun m=>cond (mx.isSome&&!hi.isSome) none <|
 cond (decide (0<=l)&&(decide (l<=h)&&(decide (h<=m)&&decide (m<=(n:Int))))) (k l.toNat h.toNat) none
def Ajs(tight:Bool)(hi mx:Option AV):Bool:=match hi,mx with|none,none=>tight|some (.int _ a),some (.int _ b)=>a==b|_,_=>false
def gY{R:Type}(P:Program)(g:Bp)(t:TypeId)(x:AV)(lo hi mx:Option AV)(k:AV->O R):O R :=
 match P.underlying t,x with
|some .string,.str s=>cond mx.isSome none (Xx lo hi none s.length fun l h=>k (.str ((s.drop l).take (h - l))))
|some (.slice el),.nsl=>(Cs P el).bind fun _=>Xx lo hi mx 0 fun _ _=>k .nsl
| some (.slice el),.imm c n sz tight org=>(Cs P el).bind fun sz'=>cond (beq sz sz') (Xx lo hi mx n fun l h =>
   k (.imm ((c.drop (l*sz)).take ((h - l)*sz)) (h - l) sz (Ajs tight hi mx) org)) none
|some (.slice el),.own b off n=>(Cs P el).bind fun sz=>(Iu g b).bind fun y=>cond (beq sz y.sz) (Xx lo hi mx n fun l h=>k (.own b (off+l*sz) (h - l))) none
|some (.array n el),.optr b off=>(Cs P el).bind fun _=>(Iu g b).bind fun y=>cond (beq y.sz 0&&(ble (off+n) y.cells.length&&(lo.isNone&&(hi.isNone&&mx.isNone)))) (k (.own b off n)) none
|_,_=>none
def Avn(P:Program)(t:TypeId)(x:AV):Option AV :=
 match P.underlying t,x with
|some (.slice _),.nsl=>some (.int .i64 0)
|some (.slice _),.imm _ n _ _ _=>some (.int .i64 n)
|some (.slice _),.own _ _ n=>some (.int .i64 n)
|some .string,.str s=>some (.int .i64 s.length)
|some (.array n _),_=>some (.int .i64 n)
|_,_=>none
def Ajt(g:Bp)(sz:Nat):AV->Option (LA×Nat×Bool)
|.nsl=>some ([],0,false)
|.imm c n sz' _ org=>cond (beq sz sz') (some (c,n,org)) none
|.own b off n=>(Iu g b).bind fun x=>cond (x.pure&&beq sz x.sz) (some ((x.cells.drop off).take (n*sz),n,x.taint)) none
|.str s=>cond (beq sz 1) (some (s.map fun b=>.int .u8 (b.toNat:Int),s.length,false)) none
|_=>none
def gZ{R:Type}(P:Program)(el:TypeId)(g:Bp)(sz:Nat)(x:AV)(k:LA×Nat×Bool->O R):O R:=(Ajt g sz x).bind fun q=>Xw P el q.1 q.2.2 fun o=>k (q.1,q.2.1,o)
abbrev Gw:=List (Nat×Option Blk)
def WL(g:Bp):AV->Option (AV×Gw×Bool)
|.own b off n=>(Iu g b).bind fun x=>cond x.pure (some (.imm ((x.cells.drop off).take (n*x.sz)) n x.sz false x.taint,[(b,some {x with sealed:=true})],x.taint)) none
|.optr ..|.agg _|.tup _|.undef|.fn ..|.omap _=>none
|.imm c n sz t org=>some (.imm c n sz t org,[],org)
|.iptr c org=>some (.iptr c org,[],org)
|.pagg _ _=>none
|v=>some (v,[],false)
def Zc(g:Bp):LA->Option (LA×Gw×Bool)
|[]=>some ([],[],false)
|v::r=>(WL g v).bind fun p=>(Zc g r).bind fun q=>some (p.1::q.1,p.2.1++q.2.1,p.2.2||q.2.2)
def Yw(g:Bp):AV->Option (LA×Gw×Bool)
|.pagg c org=>some (c,[],org)
|.agg c=>Zc g c
|v=>Zc g [v]
def D2(c:LA)(off:Nat)(vs:LA):LA:=c.take off++vs++c.drop (off+vs.length)
def A6:Gw->Nat->Bool
|[],_=>false
|(i,_)::r,b=>cond (beq i b) true (A6 r b)
def FZ(g:Bp):AV->Bool
|.own b _ _=>(Iu g b).isSome
|.optr b _=>(Iu g b).isSome
|.agg _=>false
|.pagg _ _=>false
|.tup _=>false
|.undef=>false
|.omap _=>false
|_=>true
def Th(g:Bp):LA->Bool
|[]=>true
|v::r=>FZ g v&&Th g r
def setCells(c:LA)(off:Nat)(vs:LA):LA:=match vs with|[y]=>c.set off y|ys=>D2 c off ys
def yn(P:Program):Nat->TypeId->Nat->List (Nat×TypeId)
|0,t,off=>[(off,t)]
|d+1,t,off=>match P.underlying t with
  |some (.struct fs)=>fs.toList.flatMap fun f=>yn P d f.type (off+f.offset)
  |_=>[(off,t)]
def Aoy(P:Program)(t:TypeId):Bool:=match P.underlying t with
|some (.int _)=>true|some .bool=>true|some .string=>true|some (.slice _)=>true|_=>false
def NA{R:Type}(P:Program)(c:LA)(org:Bool):List (Nat×TypeId)->LA->(LA->O R)->O R
|[],acc,k=>k acc
|(off,t)::r,acc,k=>cond (beq off acc.length&&Aoy P t) (PP P t (c.drop off) org fun v=>NA P c org r (acc++[v]) k) none
def g8 {R:Type} (P:Program) (g:Bp) (t:TypeId) (p v:AV) (k:AV->Gw->O R):O R :=
  match p with
  | .optr b off=>(Iu g b).bind fun x=>(Cs P t).bind fun n =>
    cond x.sealed none
    (cond x.pure
      ((Yw g v).bind fun q=>cond (beq q.1.length n&&(ble (off+n) x.cells.length&&!A6 q.2.1 b))
        (k .undef (q.2.1++[(b,some { x with cells:=setCells x.cells off q.1,taint:=x.taint||q.2.2 })])) none)
      (match v with
        |.agg c=>cond (Th g c&&(beq c.length n&&ble (off+n) x.cells.length)) (k .undef [(b,some {x with cells:=D2 x.cells off c})]) none
        | .pagg c org=>cond (beq off 0&&(beq c.length n&&beq x.cells.length n)) (k .undef [(b,some { x with pure:=true,taint:=org,cells:=c })])
          (cond (beq off 0&&beq x.cells.length n) none (NA P c org (yn P 4 t 0) [] fun l=>cond (beq c.length l.length&&(Th g l&&(beq l.length n&&ble (off+n) x.cells.length))) (k .undef [(b,some {x with cells:=D2 x.cells off l})]) none))
        | v=>cond (FZ g v&&(beq n 1&&Nat.blt off x.cells.length)) (k .undef [(b,some { x with cells:=x.cells.set off v })]) none))
  |_=>none
def Hh:Nat:=1000000
def nid(d:Nat):Nat:=1000000+d*16
def yp(P:Program)(t:TypeId):Option (Nat×Nat) :=
 match P.underlying t with
| some (.struct fs)=>(fs[0]?).bind fun f=>match P.underlying f.type with
  |some (.pointer u)=>cond (beq u t) ((Cs P t).map fun n=>(t,n)) none
  |some (.struct gs)=>(gs[0]?).bind fun g=>match P.underlying g.type with
   |some (.pointer u)=>cond (beq u f.type) ((Cs P t).map fun n=>(t,n)) none
   |_=>none
  |_=>none
|_=>none
def Zd(d:Nat)(pure taint:Bool)(sz:Nat)(cells:LA):Gw:=[(nid d,some {dead:=false,sealed:=false,pure,taint,sz,cells})]
def Ab5{R:Type}(P:Program)(g:Bp)(d:Nat)(t:TypeId)(v:AV)(k:AV->Gw->O R):O R :=
 match v with
|.pagg c org=>k (.optr (nid d) 0) (Zd d true org 0 c)
| .agg c =>
  cond (Ajr P t) (cond (Th g c&&beq c.length ((Cs P t).getD 0)) (k (.optr (nid d) 0) [(nid d,some {dead:=false,sealed:=false,pure:=false,taint:=false,sz:=0,cells:=c,ty:=yp P t})]) none)
   ((Zc g c).bind fun q=>k (.optr (nid d) 0) (q.2.1++Zd d true q.2.2 0 q.1))
|v=>cond (FZ g v) (k (.optr (nid d) 0) (Zd d false false 0 [v])) none
def F7(sz:Nat):Blk:={dead:=false,sealed:=false,pure:=true,taint:=false,sz,cells:=[]}
def Aoz(co:Bool)(v:AV):AV:=match co,v with
|true,.agg c=>cond (Bb c) (.pagg c false) (.agg c)
|_,v=>v
def g9{R:Type}(P:Program)(g:Bp)(co:Bool)(d:Nat)(t:TypeId)(k:AV->Gw->O R):O R :=
 match P.underlying t,Ab4 P t with
|some (.slice el),some .nsl=>(Cs P el).bind fun sz=>k (.optr (nid d) 0) [(nid d+1,some (F7 sz)),(nid d,some {dead:=false,sealed:=false,pure:=false,taint:=false,sz:=0,cells:=[.own (nid d+1) 0 0]})]
|_,some z=>Ab5 P g d t (Aoz co z) k
|_,none=>none
def Sp(place:Nat->Option (Nat×Nat)):List (Nat×LA)->LA->Option LA
|[],c=>some c
|(i,vs)::r,c=>(place i).bind fun p=>cond (beq vs.length p.2&&ble (p.1+p.2) c.length) (Sp place r (setCells c p.1 vs)) none
def pv{R:Type}(place:Nat->Option (Nat×Nat)):List (Nat×LA)->LA->(LA->O R)->O R
|[],c,k=>k c
|(i,vs)::r,c,k=>(place i).bind fun p=>cond (beq vs.length p.2&&ble (p.1+p.2) c.length) (pv place r (setCells c p.1 vs) k) none
def Gy(n:Nat)(z:LA):LA:=match z with|[v]=>replicate n v|z=>(replicate n z).flatten
def F_(g:Bp):List (Nat×AV)->Option (List (Nat×LA)×Gw×Bool)
|[]=>some ([],[],false)
|(i,v)::r=>(Yw g v).bind fun q=>(F_ g r).bind fun q'=>some ((i,q.1)::q'.1,q.2.1++q'.2.1,q.2.2||q'.2.2)
def Qc{R:Type}(P:Program)(g:Bp)(d:Nat)(t:TypeId)(len:Nat)(parts:List (Nat×AV))(k:AV->Gw->O R):O R :=
 match P.underlying t with
| some (.slice el)=>(Cs P el).bind fun sz=>(k8 P el).bind fun z=>(F_ g parts).bind fun q =>
  cond (ble (len*sz) 16777216) (pv (fun i=>some (i*sz,sz)) q.1 (Gy len z) fun cells =>
   k (.own (nid d) 0 len) (q.2.1++Zd d true q.2.2 sz cells)) none
|_=>none
def YJ:AV->Bool
|.own ..|.optr ..|.fn ..|.undef|.agg _|.pagg _ _|.tup _|.omap _=>true
|_=>false
def pw:AV->Bool
|.agg c=>c.any YJ
|.pagg _ _=>false
|v=>YJ v
def cellsOf:AV->LA
|.agg c=>c
|.pagg c _=>c
|v=>[v]
def yq:AV->Bool
|.imm _ _ _ _ o=>o
|.iptr _ o=>o
|_=>false
def lB:AV->Bool
|.pagg _ o=>o
|.agg c=>c.any yq
|v=>yq v
def IL:AV->Bool
|.pagg _ _=>true
|_=>false
def bT(P:Program)(t:TypeId):Option (Nat->Option (Nat×Nat)) :=
 match P.underlying t with
|some (.array _ e)=>(P.info? e).map fun ie=>fun i=>some (i*ie.size,ie.size)
|some (.struct fs)=>(fs.toList.mapM fun f=>(P.info? f.type).map fun i=>(f.offset,i.size)).map fun pl=>fun i=>pl[i]?
|_=>none
def ww(P:Program)(t:TypeId):Option LA:=(P.info? t).bind fun i=>(i.zero).map fun v=>Md v.cells.toList
def Fl:List (Nat×AV)->List (Nat×LA)
|[]=>[]
|(i,v)::r=>(i,cellsOf v)::Fl r
def Ab6(o:Bool):AV->AV
|.imm c n s t _=>.imm c n s t o
|.iptr c _=>.iptr c o
|v=>v
def qA:AV->LA
|.agg c=>c
|.pagg c o=>c.map (Ab6 o)
|v=>[v]
def Jz:List (Nat×AV)->List (Nat×LA)
|[]=>[]
|(i,v)::r=>(i,qA v)::Jz r
def PR:AV->Bool
|.undef=>false
|.tup _=>false
|.omap _=>false
|_=>true
def yr(P:Program)(t:TypeId)(parts:List (Nat×AV)):Option AV :=
 (bT P t).bind fun place=>cond (parts.all fun p=>PR p.2) (
 cond (parts.any fun p=>IL p.2)
  (cond (parts.any fun p=>pw p.2) ((ww P t).bind fun z=>(Sp place (Jz parts) z).map fun c=>.agg c) ((k8 P t).bind fun z=>(Sp place (Fl parts) z).map fun c=>.pagg c (parts.any fun p=>lB p.2)))
  ((ww P t).bind fun z=>(Sp place (Fl parts) z).map fun c=>.agg c)) none
def yu{R:Type}(P:Program)(t:TypeId)(parts:List (Nat×AV))(k:AV->O R):O R :=
 (bT P t).bind fun place=>cond (parts.all fun p=>PR p.2) (
 cond (parts.any fun p=>IL p.2)
  (cond (parts.any fun p=>pw p.2) ((ww P t).bind fun z=>pv place (Jz parts) z fun c=>k (.agg c)) ((k8 P t).bind fun z=>pv place (Fl parts) z fun c=>k (.pagg c (parts.any fun p=>lB p.2))))
  ((ww P t).bind fun z=>pv place (Fl parts) z fun c=>k (.agg c))) none
def Alq(P:Program)(t:TypeId):List (Nat×Nat) :=
 match P.underlying t with
|some (.struct fs)=>fs.toList.filterMap fun f=>match P.underlying f.type with|some (.slice el)=>(Cs P el).map fun s=>(f.offset,s)|_=>none
|_=>[]
def Aju(P:Program)(n:Nat)(e:TypeId)(off:Nat):List (Nat×Nat) :=
 match P.underlying e with
|some (.slice el)=>((Cs P el).map fun s=>(List.range (min n Axx)).map fun i=>(off+i,s)).getD []
|_=>[]
def Qx(P:Program)(t:TypeId):List (Nat×Nat) :=
 match P.underlying t with
|some (.array n e)=>Aju P n e 0
|some (.struct fs)=>fs.toList.flatMap fun f=>match P.underlying f.type with
  |some (.slice el)=>((Cs P el).map fun s=>(f.offset,s)).toList
  |some (.struct _)=>(Alq P f.type).map fun p=>(f.offset+p.1,p.2)
  |some (.array n e)=>Aju P n e f.offset
  |_=>[]
|_=>[]
def Gc(d:Nat):List (Nat×Nat)->Nat->LA->LA×Gw
|[],_,c=>(c,[])
|(o,sz)::r,j,c=>match c[o]? with
  |some .nsl=>((Gc d r (j+1) (c.set o (.own (nid d+j) 0 0))).1,(nid d+j,some (F7 sz))::(Gc d r (j+1) (c.set o (.own (nid d+j) 0 0))).2)
  |_=>Gc d r (j+1) c
def Alr{R:Type}(P:Program)(t:TypeId)(co:Bool)(d:Nat)(v:AV)(k:AV->Gw->O R):O R :=
 match co,v with
|true,.agg c=>cond (ble (Qx P t).length 15) (k (.agg (Gc d (Qx P t) 1 c).1) (Gc d (Qx P t) 1 c).2) none
|_,v=>k v []
def TV{R:Type}(P:Program)(g:Bp)(d:Nat)(t:TypeId)(k:AV->Gw->O R):O R :=
 match Ab4 P t with
|some (.agg c)=>cond (ble (Qx P t).length 15&&Th g c) (k (.optr (nid d) 0) ((Gc d (Qx P t) 1 c).2++Zd d false false 0 (Gc d (Qx P t) 1 c).1)) none
|_=>none
def g_{R:Type}(P:Program)(co:Bool)(t:TypeId)(v:AV)(k:AV->O R):O R :=
 match co,v with
|true,.pagg c org=>NA P c org (yn P 4 t 0) [] fun l=>cond (beq c.length l.length) (k (.agg l)) none
|_,v=>k v
def wz{R:Type}(P:Program)(d:Nat)(t:TypeId)(len cap:AV)(k:AV->Gw->O R):O R :=
 match P.underlying t,len,cap with
| some (.slice el),.int .i64 l,.int .i64 c=>(Cs P el).bind fun sz=>(yj P el).bind fun by_=>(k8 P el).bind fun z =>
  cond (decide (0<=l)&&(decide (l<=c)&&(decide (c<=140737488355328)&&decide (c*(by_:Int)<=140737488355328)))) (
   k (.own (nid d) 0 l.toNat) (Zd d true false sz (Gy l.toNat z))) none
|_,_,_=>none
def Ajv(g:Bp)(sz:Nat)(s:AV):Option (LA×Nat×Bool×Gw) :=
 match s with
|.nsl=>some ([],0,false,[])
|.imm _ n _ true _=>cond (beq n 0) (some ([],0,false,[])) none
|.own b off n=>(Iu g b).bind fun x=>cond (x.pure&&(!x.sealed&&beq sz x.sz)) (some ((x.cells.drop off).take (n*sz),n,x.taint,[(b,none)])) none
|_=>none
def lC(P:Program)(g:Bp)(el tx:TypeId)(s:AV):Option (Nat×Nat) :=
 match s with
|.nsl=>match P.underlying tx with|some .string=>some (el,0)|_=>none
|.own b off _=>(Iu g b).bind fun x=>(x.ty).bind fun q=>cond (beq q.1 el&&(beq q.2 0&&beq off 0)) (some (el,0)) none
|_=>none
def yv(P:Program)(t:TypeId):Bool:=match P.underlying t with|some (.slice _)=>true|some .string=>true|_=>false
def TW{R:Type}(P:Program)(g:Bp)(d:Nat)(t tx:TypeId)(s x:AV)(k:AV->Gw->O R):O R :=
 match P.underlying t with
| some (.slice el)=>cond (yv P tx) ( (Cs P el).bind fun sz=>(yj P el).bind fun by_=>(k8 P el).bind fun _ =>
  (Ajv g sz s).bind fun old=>gZ P el g sz x fun new =>
  cond (ble (old.2.1+new.2.1) 140737488355328&&ble ((old.2.1+new.2.1)*by_) 140737488355328) (
   k (.own (nid d) 0 (old.2.1+new.2.1)) (old.2.2.2++[(nid d,some { dead:=false,sealed:=false,pure:=true,taint:=old.2.2.1||new.2.2,sz,cells:=old.1++new.1,ty:=lC P g el tx s })])) none) none
|_=>none
def xA{R:Type}(P:Program)(g:Bp)(t:TypeId)(s x:AV)(k:AV->Gw->O R):O R :=
 match P.underlying t,s with
| some (.slice el),.own b off n=>(Cs P el).bind fun sz=>(Iu g b).bind fun y=>gZ P el g sz x fun new =>
  cond (y.pure&&(!y.sealed&&beq sz y.sz)) (
   k (.int .i64 (min new.2.1 n:Nat)) [(b,some { y with cells:=D2 y.cells off (new.1.take ((min new.2.1 n)*sz)),taint:=y.taint||new.2.2 })]) none
|_,_=>none
def hI{R:Type}(P:Program)(g:Bp)(t:TypeId)(s:AV)(k:AV->Gw->O R):O R :=
 match P.underlying t,s with
|some (.slice el),.own b off n=>(Cs P el).bind fun sz=>(k8 P el).bind fun z=>(Iu g b).bind fun y =>
  cond (y.pure&&(!y.sealed&&beq sz y.sz)) (k (.tup []) [(b,some {y with cells:=D2 y.cells off (Gy n z)})]) none
|_,_=>none
def xB{R:Type}(P:Program)(g:Bp)(d:Nat)(src dst:TypeId)(x:AV)(k:AV->Gw->O R):O R :=
 match P.underlying dst with
|some (.int kd)=>match x with|.int _ n=>cond (P.underlying src).isSome (k (.int kd (kd.wrap n)) []) none|_=>none
|_=>none
mutual
def Em:AV->List Nat
|.own b _ _=>[b]
|.optr b _=>[b]
|.omap b=>[b]
|.agg c=>Fv c
|.tup c=>Fv c
|.fn _ c=>Fv c
|_=>[]
def Fv:List AV->List Nat
|[]=>[]
|v::r=>Em v++Fv r
end
mutual
def Qw(ρ:Nat->Nat):AV->AV
|.own b off n=>.own (ρ b) off n
|.optr b off=>.optr (ρ b) off
|.omap b=>.omap (ρ b)
|.agg c=>.agg (Qd ρ c)
|.tup c=>.tup (Qd ρ c)
|.fn f c=>.fn f (Qd ρ c)
|v=>v
def Qd(ρ:Nat->Nat):List AV->List AV
|[]=>[]
|v::r=>Qw ρ v::Qd ρ r
end
def IM(g:Bp):AV->Option (AV×Bool)
|.own b off n=>(Iu g b).bind fun x=>cond x.pure (some (.imm ((x.cells.drop off).take (n*x.sz)) n x.sz false (!x.sealed||x.taint),!x.sealed||x.taint)) none
|.imm c n sz _ org=>some (.imm c n sz false org,org)
|.iptr c org=>some (.iptr c org,org)
|.optr ..|.agg _|.tup _|.undef|.fn ..|.pagg ..|.omap _=>none
|v=>some (v,false)
def F'(g:Bp):LA->Option (LA×Bool)
|[]=>some ([],false)
|v::r=>(IM g v).bind fun p=>(F' g r).bind fun q=>some (p.1::q.1,p.2||q.2)
def yw(g:Bp):AV->Option (AV×Bool)
|.own b off n=>(Iu g b).bind fun x=>cond x.pure (some (.imm ((x.cells.drop off).take (n*x.sz)) n x.sz false (!x.sealed||x.taint),!x.sealed)) none
|.imm c n sz _ org=>some (.imm c n sz false org,false)
|.optr b off=>(Iu g b).bind fun x=>cond x.pure (some (.iptr (x.cells.drop off) (!x.sealed||x.taint),!x.sealed)) ((F' g (x.cells.drop off)).bind fun q=>some (.iptr q.1 true,true))
|.agg c=>(F' g c).bind fun q=>some (.pagg q.1 q.2,true)
|.fn f []=>some (.fn f [],false)
|.fn _ _|.tup _|.undef|.omap _=>none
|v=>some (v,false)
def Gz(d:Nat):List (Nat×Nat)->Nat->Nat
|[],_=>d
|(i,x)::r,b=>cond (beq i b) x (Gz d r b)
def Dj:List Nat->Nat->Bool
|[],_=>false
|i::r,b=>cond (beq i b) true (Dj r b)
def lD:List Nat->List Nat->List Nat
|[],acc=>acc.reverse
|i::r,acc=>cond (Dj acc i) (lD r acc) (lD r (i::acc))
def PS:List Nat->Bool
|[]=>true
|i::r=>!Dj r i&&PS r
def An(base:Nat):List Nat->List (Nat×Nat)
|[]=>[]
|i::r=>(i,base)::An (base+1) r
def Kl(g:Bp):List Nat->List Nat
|[]=>[]
|b::r=>(match g b with|some x=>cond x.pure [] (Fv x.cells)|none=>[])++Kl g r
def Ze(g:Bp)(ids:List Nat):List Nat:=lD (ids++Kl g (ids++Kl g ids)) []
def PT(g:Bp):List Nat->Bool
|[]=>true
|b::r=>(match g b with|some x=>!x.dead|none=>false)&&PT g r
def Km(ρ:Nat->Nat)(x:Blk):Blk:={x with cells:=cond x.pure x.cells (Qd ρ x.cells)}
def sub(g:Bp)(ρ:Nat->Nat):List Nat->Ap
|[]=>[]
|b::r=>match g b with
  |some x=>Hr (sub g ρ r) (ρ b) (Km ρ x)
  |none=>sub g ρ r
structure Tw where
 runK:{R:Type}->List AV->Ap->(AV->Ap->O R)->O R
 eq:∀{R:Type}(args:List AV)(h:Ap)(k:AV->Ap->O R),runK args h k=(runK args h fun v h'=>some (v,h')).bind fun p=>k p.1 p.2
 kept:List Nat
 keq:∀(args:List AV)(h:Ap)(v:AV)(h':Ap),(runK args h fun v h'=>some (v,h'))=some (v,h')->∀ b,Dj kept b=true->Ai h' b=Ai h b
def IN:List (Nat×Tw)->Nat->List Nat
|[],_=>[]
|(g,t)::r,f=>cond (beq g f) t.kept (IN r f)
def WM(l:List Nat):List (Nat×Nat)->List (Nat×Nat)
|[]=>[]
|p::r=>cond (Dj l p.2) (WM l r) (p::WM l r)
def bU{R:Type}:List (Nat×Tw)->Nat->LA->Ap->(AV->Ap->O R)->O R
|[],_,_,_,_=>none
|(g,t)::r,f,args,h,k=>cond (beq g f) (t.runK args h k) (bU r f args h k)
structure Env where
 P:Program
 nt:Nat
 muts:Nat->List Bool
 nils:List (Nat×Nat)
 free:List Nat
 cob:List Nat
 tbl:List (Nat×Tw)
mutual
def Wh:AV->Bool
|.imm _ _ _ _ o=>o
|.iptr _ o=>o
|.pagg _ o=>o
|.agg c=>Uj c
|.tup c=>Uj c
|.fn _ c=>Uj c
|_=>false
def Uj:List AV->Bool
|[]=>false
|v::r=>Wh v||Uj r
end
def bV:Ap->Bool
|[]=>false
|(_,x)::r=>x.taint||(cond x.pure false (Uj x.cells))||bV r
def Ic(g:Bp):LA->List Nat
|[]=>[]
|.own b _ _::r=>match g b with|some x=>cond x.sealed (Ic g r) (b::Ic g r)|none=>Ic g r
|_::r=>Ic g r
def Yx(g:Bp):AV->List Nat
|.own b _ _=>match g b with|some x=>cond x.sealed [] [b]|none=>[]
|.optr b off=>match g b with|some x=>cond x.sealed [] [b]++cond x.pure [] (Ic g (x.cells.drop off))|none=>[]
|.agg c=>Ic g c
|_=>[]
def GA(g:Bp):List Bool->LA->Option (LA×List Nat×List Nat)
|_,[]=>some ([],[],[])
| ms,v::r =>
  cond (ms.headD false)
   ((GA g ms.tail r).bind fun q=>some (v::q.1,Em v++q.2.1,q.2.2))
   ((yw g v).bind fun p=>(GA g ms.tail r).bind fun q=>some (p.1::q.1,q.2.1,Yx g v++q.2.2))
def NB(ids:List Nat):List Nat->Bool
|[]=>true
|b::r=>Dj ids b&&NB ids r
def Ab7:List Nat->List Nat->Bool
|[],_=>true
|i::r,l=>!Dj l i&&Ab7 r l
def YK:List Nat->Bool
|[]=>true
|_=>false
mutual
def Ss:AV->AV->Bool
|.int k n,.int k' n'=>Lo k k'&&decide (n=n')
|.bool b,.bool b'=>decide (b=b')
|.str s,.str s'=>decide (s=s')
|.nsl,.nsl=>true
|.imm c n z t o,.imm c' n' z' t' o'=>E_ c c'&&(beq n n'&&(beq z z'&&(decide (t=t')&&decide (o=o'))))
|.iptr c o,.iptr c' o'=>E_ c c'&&decide (o=o')
|.pagg c o,.pagg c' o'=>E_ c c'&&decide (o=o')
|.own b f n,.own b' f' n'=>beq b b'&&(beq f f'&&beq n n')
|.optr b f,.optr b' f'=>beq b b'&&beq f f'
|.agg c,.agg c'=>E_ c c'
|.undef,.undef=>true
|.nilptr,.nilptr=>true
|_,_=>false
def E_:List AV->List AV->Bool
|[],[]=>true
|a::r,b::s=>Ss a b&&E_ r s
|_,_=>false
end
def Ao0(x y:Blk):Bool:=decide (x.dead=y.dead)&&(decide (x.sealed=y.sealed)&&(decide (x.pure=y.pure)&&(decide (x.taint=y.taint)&&(beq x.sz y.sz&&(E_ x.cells y.cells&&(decide (x.mp=y.mp)&&decide (x.ty=y.ty)))))))
def Ab8(g:Bp)(b:Nat)(x:Blk):Bool:=match g b with|some y=>Ao0 x y|none=>false
def NC(g:Bp):Gw->Gw
|[]=>[]
|(b,some x)::r=>cond (Ab8 g b x) (NC g r) ((b,some x)::NC g r)
|p::r=>p::NC g r
def pM:AV->AV
|.pagg c _=>.pagg c false
|.imm c n sz t _=>.imm c n sz t false
|v=>v
def xC {R:Type} (E:Env) (g:Bp) (d:Nat) (f:Nat) (args:LA) (k:AV->Gw->O R):O R :=
 (GA g (E.muts f) args).bind fun q =>
 let ids:=Ze g q.2.1
 let tin:=An 100000 ids
 let outs:=tin.map (·.2)
 cond (PT g ids&&(NB ids q.2.1&&(NB ids (Kl g ids)&&(Ab7 q.2.2 ids&&(PS (ids.map (Gz 0 tin))&&ble ids.length 100000))))) (
  bU E.tbl f (Qd (Gz 0 tin) q.1) (sub g (Gz 0 tin) ids) fun rv rh =>
  let all:=Ze (Ai rh) (Em rv++outs)
  let new:=all.filter fun b=>!Dj outs b
  let tnew:=An (nid d) new
  let σ:=Gz 0 ((tin.map fun p=>(p.2,p.1))++tnew)
  cond (!YK q.2.2&&(Wh rv||bV rh)) none
   (cond (PT (Ai rh) new&&(ble new.length 16&&(NB all (Em rv)&&(NB all outs&&(NB all (Kl (Ai rh) all)&&PS (all.map σ))))))
    (k (Qw σ (cond (YK q.2.2) rv (pM rv))) (cond (Dj E.cob (d+7000000)) (NC g (tin.map fun p=>(p.1,(Ai rh p.2).map (Km σ)))) ((cond (Dj E.cob (d+8000000)) (WM (IN E.tbl f) tin) tin).map fun p=>(p.1,(Ai rh p.2).map (Km σ)))++tnew.map fun p=>(p.2,(Ai rh p.1).map (Km σ)))) none)) none
def xD{R:Type}(c a b:AV)(k:AV->O R):O R :=
 match c,a,b with
|.bool t,.bool x,.bool y=>k (.bool (cond t x y))
|.bool t,x,.tup []=>cond t (k x) none
|.bool t,.tup [],y=>cond t none (k y)
|.bool t,x,y=>cond t (k x) (k y)
|_,_,_=>none
def yx(P : Program)(f : Nat): Bool := match P.funcs[f]? with|some fn => fn.body.isSome && !(fn.name == "runtime.NumGoroutine")|none => false
def Cn(a b:Int):Int:=cond (decide (b<a)) b a
def Fc(a b:Int):Int:=cond (decide (b>a)) b a
def Als:AV->AV->Option AV
|.int k a,.int _ b=>some (.int k (Cn a b))
|_,_=>none
def Alt:AV->AV->Option AV
|.int k a,.int _ b=>some (.int k (Fc a b))
|_,_=>none
def vD{R:Type}(E:Env)(g:Bp)(d:Nat)(v:Operand->AV)(o:Op)(k:AV->Gw->O R):O R :=
 match o with
|.move x=>k (v x) []
|.assign x=>k (v x) []
|.pick c a b=>xD (v c) (v a) (v b) fun r=>k r []
|.alloc t=>cond (Dj E.cob (d+1000000)) (TV E.P g d t k) (g9 E.P g (Dj E.cob d) d t k)
|.box t x=>g_ E.P (Dj E.cob d) t (v x) fun u=>Ab5 E.P g d t u k
|.build t parts=>yu E.P t (parts.toList.map fun p=>(p.1,v p.2)) fun r=>Alr E.P t (Dj E.cob d) d r k
|.buildSlice t len parts=>Qc E.P g d t len (parts.toList.map fun p=>(p.1,v p.2)) k
|.load t a=>pu E.P g t (v a) fun r=>k r []
|.store t a x=>g8 E.P g t (v a) (v x) k
|.nilCheck x=>match v x with|.iptr c o=>k (.iptr c o) []|.optr b o=>k (.optr b o) []|_=>none
|.binOp op t x y _=>wv E.P t op (v x) (v y) fun r=>k r []
|.unOp op _ x=>(Azp op (v x)).bind fun r=>k r []
|.convert s t x=>xB E.P g d s t (v x) k
|.makeFunc (.func f) first caps=>cond (Nat.blt f 1000000) (k (.fn (f+1000000*first.toList.length) ((first.toList++caps.toList).map v)) []) none
|.makeSlice t l c=>wz E.P d t (v l) (v c) k
|.slice t x lo hi mx=>gY E.P g t (v x) (lo.map v) (hi.map v) (mx.map v) fun r=>k r []
|.fieldAddr t x f=>Tg E.P t (v x) f fun r=>k r []
|.field t x f=>gW E.P t (v x) f fun r=>k r []
|.indexAddr t x i=>Tf E.P t (v x) (v i) fun r=>k r []
|.index t x i=>gX E.P t (v x) (v i) fun r=>k r []
|.extract t i=>match v t with|.tup vs=>(vs[i]?).bind fun r=>k r []|_=>none
| .call c=>match c.callee with
  |.builtin .len=>match c.args.toList,c.argTypes.toList with|[x],[t]=>(Avn E.P t (v x)).bind fun r=>k r []|_,_=>none
  |.builtin .append=>match c.args.toList,c.argTypes.toList with|[s,x],[t,tx]=>TW E.P g d t tx (v s) (v x) k|_,_=>none
  |.builtin .copy=>match c.args.toList,c.argTypes.toList with|[s,x],[t,_]=>xA E.P g t (v s) (v x) k|_,_=>none
  |.builtin .clear=>match c.args.toList,c.argTypes.toList with|[x],[t]=>hI E.P g t (v x) k|_,_=>none
  |.builtin .min=>match c.args.toList with|[x,y]=>(Als (v x) (v y)).bind fun r=>k r []|[x,y,z]=>(Als (v x) (v y)).bind fun q=>(Als q (v z)).bind fun r=>k r []|_=>none
  |.builtin .max=>match c.args.toList with|[x,y]=>(Alt (v x) (v y)).bind fun r=>k r []|[x,y,z]=>(Alt (v x) (v y)).bind fun q=>(Alt q (v z)).bind fun r=>k r []|_=>none
  |.value fo=>match v fo with
   |.fn f caps=>cond (yx E.P (f%1000000)) (xC E g d (f%1000000) (caps.take (f/1000000)++(c.args.toList.map v++caps.drop (f/1000000))) k) none
   |_=>none
  |_=>none
|_=>none
structure Foot where
 r:List Nat
 w:Option Nat
 f:List Nat
 u:List Nat
def YL:List Operand->List Nat
|[]=>[]
|.tmp t::r=>t::YL r
|_::r=>YL r
def Al:Gw->Ap->Ap
|[],h=>h
|(b,some x)::r,h=>Al r (Hr h b x)
|(b,none)::r,h=>Al r (match Ai h b with|some x=>Hr h b {x with dead:=true,pure:=true,cells:=[]}|none=>h)
def TX(ops:Array Oper)(o:Oper):Option (Nat×Bool) :=
 match o.guard with
|none=>none
|some (j,want)=>((ops[j]?).bind (·.dst)).map fun t=>(t,want)
def IP(ops:Array Oper)(s:Gv)(o:Oper):Option Bool :=
 match o.guard with
|none=>some true
| some (j,want)=>match (ops[j]?).bind (·.dst) with
  |some t=>match Fu s t with
   |.bool b=>some (b==want)
   |.tup []=>some false
   |_=>none
  |none=>some false
def Ag2(nt:Nat)(s:Gv)(d:Option Nat)(v:AV):Gv:=match d with|some d=>cond (Nat.blt d nt) (PO s d v) s|none=>s
def Ajw:Op->Bool
|.binOp op ..=>match op with|.eql|.neq=>true|_=>false
|.move _|.assign _|.pick ..|.unOp ..|.makeFunc ..|.fieldAddr ..|.field ..|.indexAddr ..|.index ..|.extract ..|.nilCheck _=>false
|.call c=>match c.callee with
  |.builtin .len|.builtin .min|.builtin .max=>false
  |_=>true
|_=>true
def Ajx:Op->Bool
|.load ..|.binOp ..=>true
|_=>false
def Wi(h:Ap)(op:Op)(vals:LA):List Nat:=cond (Ajw op) (cond (Ajx op) (lD (Fv vals) []) (Ze (Ai h) (Fv vals))) []
def GB(d b:Nat):Bool:=ble (nid d) b&&Nat.blt b (nid d+16)
def WN(d:Nat)(F:List Nat)(h:Ap):Gw->Bool
|[]=>true
|(b,_)::r=>cond (GB d b) (Ai h b).isNone (Dj F b&&(Ai h b).isSome)&&WN d F h r
def Ab9{R:Type}(E:Env)(ops:Array Oper)(o:Oper)(st:St)(k:St->Foot->O R):O R :=
 (IP ops st.s o).bind fun wanted=>cond wanted (
  vD E (fun b=>cond (Dj (Wi st.h o.op (o.op.operands.toList.map (ev st.s))) b) (Ai st.h b) none) (o.dst.getD 50000) (ev st.s) o.op fun v ups =>
  cond (WN (o.dst.getD 50000) (Wi st.h o.op (o.op.operands.toList.map (ev st.s))) st.h ups)
   (k { s:=Ag2 E.nt st.s o.dst v,h:=Al ups st.h } { r:=(match TX ops o with | some p=>[p.1] | none=>[])++YL o.op.operands.toList,w:=o.dst,f:=Wi st.h o.op (o.op.operands.toList.map (ev st.s)),u:=ups.map (·.1) }) none)
  (k {st with s:=Ag2 E.nt st.s o.dst (.tup [])} {r:=(match TX ops o with|some p=>[p.1]|none=>[]),w:=o.dst,f:=[],u:=[]})
def hZ{R:Type}(ops:Array Oper)(o:Oper)(st:St)(k:St->O R):O R :=
 match o.guard with
|none=>k st
| some (j,want)=>match (ops[j]?).bind (·.dst) with
  |none=>k st
  |some t=>match Fu st.s t with
   |.bool b=>cond (b==want) (k {s:=PO st.s t (.bool want),h:=st.h}) (k {s:=PO st.s t (.bool (!want)),h:=st.h})
   |_=>k st
def TY{R:Type}(E:Env)(o:Oper)(st:St)(k:St->O R):O R :=
 match o.op,o.dst with
| .move (.tmp i),some d=>cond (Dj E.cob (d+6000000)) (match Fu st.s i with
  |.int kd n=>lA n (fun j=>k {s:=PO st.s i (.int kd j),h:=st.h}) Axx 0
  | _=>k st) (k st)
|_,_=>k st
def qB{R:Type}(E:Env)(ops:Array Oper):List Oper->St->List Foot->(St->List Foot->O R)->O R
|[],st,tr,k=>k st tr
|o::r,st,tr,k=>hZ ops o st fun st=>TY E o st fun st=>Ab9 E ops o st fun st f=>qB E ops r st (f::tr) k
def Azc:Option Nat->List Nat->Bool
|none,_=>false
|some d,l=>Dj l d
def lE(a b:Foot):Bool:=!Azc a.w b.r&&!Azc b.w a.r&&(match a.w,b.w with|some x,some y=>!beq x y|_,_=>true)&&Ab7 a.u (b.f++b.u)&&Ab7 b.u a.f
def PU(e:Edge):Bool:=match e.ground with|.textOnly _=>false|.gcOnly _=>false|_=>true
def IQ(o:Oper):List Nat:=(o.after.toList.filter PU).map (·.on)
def yy{α:Type}:List Nat->(List Nat->α)->α
|[],k=>k []
|i::r,k=>yy r fun s=>k (i::s)
def GC{α:Type}:∀(l:List Nat)(k:List Nat->α),yy l k=k l
|[],_=>rfl
|i::r,k=>by rw[yy,GC r]
def Gp:List Oper->List (List Nat)->List (List Nat)
|[],acc=>acc
|o::r,acc=>yy (lD (IQ o++((IQ o).flatMap fun i=>(acc[i]?).getD [])) []) fun a=>Gp r (acc++[a])
def Yy:Nat->List Oper->Bool
|_,[]=>true
|i,o::r=>(o.after.toList.all fun e=>!PU e||Nat.blt e.on i)&&Yy (i+1) r
def bW(f:Foot)(anc:List Nat):Nat->List Foot->Bool
|_,[]=>true
|i,g::r=>(Dj anc i||lE g f)&&bW f anc (i+1) r
def TZ:List Foot->List (List Nat)->List Foot->Bool
|[],_,_=>true
|f::r,a::az9,seen=>bW f a 0 seen&&TZ r az9 (seen++[f])
|_::_,[],_=>false
def Kn(b:Nat):Nat:=cond (ble Hh b) (b - Hh) b
mutual
def Zf(g:Bp):AV->AV
|.own b off n=>match Iu g b with|some _=>.own (Kn b) off n|none=>.undef
|.optr b off=>match Iu g b with|some _=>.optr (Kn b) off|none=>.undef
|.omap b=>match Iu g b with|some _=>.omap (Kn b)|none=>.undef
|.agg c=>.agg (J3 g c)
|.tup c=>.tup (J3 g c)
|.fn f c=>.fn f (J3 g c)
|v=>v
def J3(g:Bp):List AV->List AV
|[]=>[]
|v::r=>Zf g v::J3 g r
end
def h_(g:Bp)(K:List Nat):Gv->Gv
|[]=>[]
|(t,v)::r=>cond (Dj K t) ((t,Zf g v)::h_ g K r) (h_ g K r)
def qC(K:List Nat):Gv->List Nat
|[]=>[]
|(t,v)::r=>cond (Dj K t) (Em v++qC K r) (qC K r)
def Zg(g:Bp):List Nat->Ap
|[]=>[]
|b::r=>match Iu g b with
  |some x=>Hr (Zg g r) (Kn b) {x with cells:=cond x.pure x.cells (J3 g x.cells)}
  |none=>Zg g r
def CD(g:Bp)(ids:List Nat):List Nat:=ids.filter fun b=>match Iu g b with|some _=>true|none=>false
def qD(g:Bp)(ids:List Nat):List Nat->Bool
|[]=>true
|b::r=>(Dj ids b||(Iu g b).isNone)&&qD g ids r
def Ajy:List Nat->Bool
|[]=>true
|b::r=>cond (ble Hh b) (Nat.blt (Kn b) 100000) true&&Ajy r
def clean(K roots:List Nat)(st:St):Option St :=
 let g:=Ai st.h
 let ids:=CD g (Ze g (qC K st.s++roots))
 cond (PS (ids.map Kn)&&(qD g ids (qC K st.s)&&(qD g ids (Kl g ids)&&Ajy ids))) (some {s:=h_ g K st.s,h:=Zg g ids}) none
def IR{R:Type}(E:Env)(roots:List Nat)(ops:Array Oper)(draw:Bool)(st:St)(k:St->O R):O R :=
 qB E ops ops.toList st [] fun st tr =>
  cond (!draw||(Yy 0 ops.toList&&TZ tr.reverse (Gp ops.toList []) [])) ((clean (st.s.map (·.1)) roots st).bind k) none
def qF(b:Nat):Bool:=ble 100000 b&&Nat.blt b 200000
def IS(live:List Nat):List (Nat×Nat)->St->Option St
|[],st=>some st
|(t,sz)::r,st=>cond (ble 1000000 sz)
  (match Dj live t,Fu st.s t with
  |true,.nsl=>IS live r {s:=PO st.s t (.imm [] 0 (sz - 1000000) false false),h:=st.h}
  |true,.own b off n=>(WL (Ai st.h) (.own b off n)).bind fun q=>IS live r {s:=PO st.s t q.1,h:=Al q.2.1 st.h}
  | _,_=>IS live r st)
  (match Dj live t,Fu st.s t with
  |true,.nsl=>cond (Ai st.h (nid t+15)).isSome none (IS live r {s:=PO st.s t (.own (nid t+15) 0 0),h:=Hr st.h (nid t+15) (F7 sz)})
  | _,_=>IS live r st)
def GD(free:List Nat)(b:Nat):Bool:=qF b&&!Dj free b
def Ao1(free ids:List Nat):List (Nat×Nat):=An 300000 (ids.filter fun b=>!GD free b)
def Zh(free ids:List Nat)(b:Nat):Nat:=cond (GD free b) b (Gz 0 (Ao1 free ids) b)
def Ao2(ρ:Nat->Nat)(K:List Nat):Gv->Gv
|[]=>[]
|(t,v)::r=>cond (Dj K t) ((t,Qw ρ v)::Ao2 ρ K r) (Ao2 ρ K r)
def ND(E:Env)(live roots:List Nat)(st:St):Option St :=
 (IS live E.nils st).bind fun st =>
 let g:=Ai st.h
 let ids:=CD g (Ze g (qC live st.s++roots))
 cond (PS (ids.map (Zh E.free ids))&&(NB ids (qC live st.s)&&(NB ids (Kl g ids)&&ble ids.length 100000))) (some {s:=Ao2 (Zh E.free ids) live st.s,h:=sub g (Zh E.free ids) ids}) none
inductive Hint where
|leaf
|node (live:List Nat) (a b:Hint)
|join (live:List Nat) (a b:Hint)
def Hint.live:Hint->List Nat
|.leaf=>[]
|.node l _ _=>l
|.join l _ _=>l
def Hint.a:Hint->Hint
|.leaf=>.leaf
|.node _ a _=>a
|.join _ a _=>a
def Hint.b:Hint->Hint
|.leaf=>.leaf
|.node _ _ b=>b
|.join _ _ b=>b
def Hint.isJoin:Hint->Bool
|.join _ _ _=>true
|_=>false
noncomputable def shut{α:Type}(a:α):{x:α // x=a}:=Classical.choice ⟨⟨a,rfl⟩⟩
noncomputable def Ao3{R:Type}(j:Bool)(f:St->O R):St->O R:=cond j (shut f).1 f
def Uk{R:Type}(j:Bool)(f:St->O R):Ao3 j f=f:=by cases j;rfl;exact(shut f).2
noncomputable def Aca{R:Type}(E:Env)(roots:List Nat)(H:Hint)(f:St->O R)(st:St):O R:=cond H.isJoin ((ND E H.live roots st).bind (Ao3 true f)) (f st)
def NE{R:Type}(cn:St->Option St)(body:(St->O R)->St->O R):Nat->St->O R
|0,_=>none
|n+1,st=>body (fun st=>(cn st).bind (NE cn body n)) st
noncomputable def Dw{R:Type}(E:Env)(roots:List Nat)(N:Nat):Code->Hint->(St->O R)->(Nat->St->O R)->(St->O R)->St->O R
|.skip,_,k,_,_,st=>k st
|.region _ ops draw,_,k,_,_,st=>IR E roots ops draw st k
|.seq a b,H,k,x,r,st=>Dw E roots N a H.a (Aca E roots H fun st=>Dw E roots N b H.b k x r st) x r st
|.cond c a b,H,k,x,r,st=>match ev st.s c with
  |.bool t=>cond t (Dw E roots N a H.a k x r st) (Dw E roots N b H.b k x r st)
  |_=>none
|.block id c,H,k,x,r,st=>Dw E roots N c H.a k (fun j st=>cond (beq j id) (k st) (x j st)) r st
|.loop c,H,_,x,r,st=>(ND E H.live roots st).bind (Ao3 true (NE (ND E H.live roots) (fun k st=>Dw E roots N c H.a k x r st) N))
|.exit id,_,_,x,_,st=>x id st
|.ret,_,_,_,r,st=>r st
|.scope c,H,k,x,r,st=>Dw E roots N c H.a k x r st
|.label _,_,k,_,_,st=>k st
|_,_,_,_,_,_=>none
def Nc{R:Type}(E:Env)(st:St):List ResultVar->LA->(LA->O R)->O R
|[],acc,k=>k acc.reverse
|.tmp t::r,acc,k=>Nc E st r (Fu st.s t::acc) k
|.cell a t::r,acc,k=>pu E.P (Ai st.h) t (Fu st.s a) fun v=>Nc E st r (v::acc) k
def Avo(g:Bp)(i:Nat)(m:Nat×Nat)(v:AV):Option (AV×Gw) :=
 cond (beq m.1 0) (some (v,[]))
 (cond (beq m.1 1) (match v with
  |.nsl=>some (.imm [] 0 m.2 false false,[])
  |.imm c n sz _ o=>some (.imm c n sz false o,[])
  |.own b off n=>(WL g (.own b off n)).bind fun q=>some (q.1,q.2.1)
  | _=>none)
 (cond (beq m.1 2) (match v with
  |.nsl=>cond (g (nid 90000+i)).isSome none (some (.own (nid 90000+i) 0 0,[(nid 90000+i,some (F7 m.2))]))
  | v=>some (v,[]))
 (match v with
  |.agg c=>(Zc g c).bind fun q=>some (.pagg q.1 q.2.2,q.2.1)
  |.pagg c o=>some (.pagg c o,[])
  | _=>none)))
def Acb(h:Ap):Nat->List (Nat×Nat)->LA->Option (LA×Ap)
|_,_,[]=>some ([],h)
|i,ms,v::r=>(Avo (Ai h) i (ms.headD (0,0)) v).bind fun p=>(Acb (Al p.2 h) (i+1) ms.tail r).bind fun q=>some (p.1::q.1,q.2)
def Avp(l:LA):AV:=match l with|[v]=>v|l=>.tup l
def Ul{R:Type}(E:Env)(fn:Func)(modes:List (Nat×Nat))(outs:List Nat)(k:AV->Ap->O R)(st:St):O R :=
 Nc E st fn.results.toList [] fun l =>
 (Acb st.h 0 modes l).bind fun q =>
 let v:=Avp q.1
 let g:=Ai q.2
 let ids:=CD g (Ze g (Em v++outs))
 cond (PS (ids.map (Zh E.free ids))&&(NB ids (Em v)&&(NB ids (Kl g ids)&&ble ids.length 100000))) (k (Qw (Zh E.free ids) v) (sub g (Zh E.free ids) ids)) none
def qG:Nat->LA->Gv
|_,[]=>[]
|i,v::r=>(i,v)::qG (i+1) r
structure Hints where
 H:Hint
 nils:List (Nat×Nat):=[]
 modes:List (Nat×Nat):=[]
 free:List Nat:=[]
 cob:List Nat:=[]
def bX:Ap->Bool
|[]=>true
|(b,_)::r=>qF b&&bX r
noncomputable def Wz{R:Type}(P:Program)(muts:Nat->List Bool)(T:List (Nat×Tw))(hs:Hints)(N f:Nat)(args:LA)(h:Ap)(k:AV->Ap->O R):O R :=
 match P.funcs[f]? with
|none=>none
| some fn=>match fn.body with
  |none=>none
  |some c =>
   let E:Env:={P,nt:=fn.ntmps,muts,nils:=hs.nils,free:=hs.free,cob:=hs.cob,tbl:=T}
   let outs:=h.map (·.1)
   let fin:=Ul E fn hs.modes outs k
   cond (ble args.length fn.ntmps&&bX h) (Dw E outs N c hs.H fin (fun _ _=>none) fin {s:=qG 0 args,h}) none
end Gx
namespace Gx
open Go
mutual
def RepC(J:Nat->Prop)(w:World):AV->Value->Prop
|.int k n,v=>v=.int k n
|.bool b,v=>v=.bool b
|.str s,v=>v=.string ⟨⟨s⟩⟩
|.nsl,v=>v=.slice none 0 0
| .imm c len sz tight _,v=>c.length=len*sz/\∃ A cap,v=.slice A len cap/\len<=cap/\(tight=true->cap=len) /\
   (len=0\/∃ a,A=some a/\J a.block/\RepCs J w c (fun j=>w.cell? (a.add j)) 0)
|.iptr c _,v=>∃ a,v=.pointer (some a)/\J a.block/\RepCs J w c (fun j=>w.cell? (a.add j)) 0
|.nilptr,v=>v=.pointer none
|.nilfn,v=>v=.nilFunc
|.fn f [],v=>v=.func (.func (f%1000000)) #[] #[]
|_,_=>False
def RepCs(J:Nat->Prop)(w:World):List AV->(Nat->Option Value)->Nat->Prop
|[],_,_=>True
|x::r,rd,i=>(∃ u,rd i=some u/\RepC J w x u)/\RepCs J w r rd (i+1)
end
def Cm{J:Nat->Prop}{w:World}:∀{c:LA}{rd:Nat->Option Value}{i:Nat},
  RepCs J w c rd i↔∀ j x,c[j]?=some x->∃ u,rd (i+j)=some u/\RepC J w x u:=by
 intro c
 induction c with
|nil=>intro rd i;simp[RepCs]
| cons x r D =>
  intro rd i
  rw[RepCs,D]
  constructor
  ·rintro⟨G,I⟩ j y k
   cases j with
   |zero=>simp at k;subst k;simpa using G
   |succ j=>have:=I j y (by simpa using k);rwa [show i+1+j=i+(j+1) by omega]at this
  ·intro h
   refine⟨by simpa using h 0 x (by simp),fun j y k=>?_⟩
   have:=h (j+1) y (by simpa using k)
   rwa [show i+(j+1)=i+1+j by omega]at this
def Acc(J:Nat->Prop)(w w':World):Prop:=∀ k,J k->w'.heap[k]?=w.heap[k]?
def iA{J:Nat->Prop}{w w':World}(h:Acc J w w'){a:Addr}(k:J a.block):w'.cell? a=w.cell? a:=by unfold World.cell?;rw[h a.block k]
def Ti(a:Addr)(n:Nat):(a.add n).block=a.block:=by unfold Addr.add;split<;>rfl
mutual
def RepC.keep{J J':Nat->Prop}{w w':World}(hJ:∀ k,J k->J' k)(hk:Acc J w w'):∀{x:AV}{v:Value},RepC J w x v->RepC J' w' x v
|.int ..,_,h=>h
|.bool _,_,h=>h
|.str _,_,h=>h
|.nsl,_,h=>h
| .imm c _ _ _ _,_,h=>by
  rw[RepC]at h ⊢
  obtain⟨h1,A,cap,h2,h3,h4,h5⟩:=h
  refine⟨h1,A,cap,h2,h3,h4,?_⟩
  rcases h5 with h5|⟨a,ha,hj,hc⟩
  ·exact .inl h5
  ·refine .inr ⟨a,ha,hJ _ hj,RepCs.keep hJ hk (c:=c) (fun j=>?_) hc⟩
   exact iA hk (by rw[Ti];exact hj)
|.iptr c _,_,h=>by
  rw[RepC]at h ⊢
  obtain⟨a,ha,hj,hc⟩:=h
  exact⟨a,ha,hJ _ hj,RepCs.keep hJ hk (c:=c) (fun j=>iA hk (by rw[Ti];exact hj)) hc⟩
|.nilptr,_,h=>h
|.nilfn,_,h=>h
|.fn _ [],_,h=>h
|.fn _ (_::_),_,h=>by simp[RepC]at h
|.pagg ..,_,h=>by simp[RepC]at h
|.agg _,_,h=>by simp[RepC]at h
|.tup _,_,h=>by simp[RepC]at h
|.own ..,_,h=>by simp[RepC]at h
|.optr ..,_,h=>by simp[RepC]at h
|.undef,_,h=>by simp[RepC]at h
|.omap _,_,h=>by simp[RepC]at h
def RepCs.keep{J J':Nat->Prop}{w w':World}(hJ:∀ k,J k->J' k)(hk:Acc J w w'):∀{c:List AV}{rd rd':Nat->Option Value}{i:Nat},(∀ j,rd' j=rd j)->RepCs J w c rd i->RepCs J' w' c rd' i
|[],_,_,_,_,_=>trivial
|x::r,rd,rd',i,he,h=>by
  rw[RepCs]at h ⊢
  obtain⟨⟨u,hu,hx⟩,hr⟩:=h
  exact⟨⟨u,by rw[he];exact hu,RepC.keep hJ hk (x:=x) hx⟩,RepCs.keep hJ hk (c:=r) he hr⟩
end
abbrev Cr:=Nat->Option (Nat×Nat)
def Ba(w:World)(k:Nat):Nat:=match w.heap[k]? with|some (.cells cs _ _)=>cs.size|_=>0
def Azq(sz k:Nat):Value:=match sz with|0=>.map (some k)|_+1=>.pointer (some ⟨k,0,none⟩)
mutual
def Rep(J:Bool->Nat->Prop)(β:Cr)(h:Ap)(w:World):AV->Value->Prop
| .own b off n,v=>∃ x A cap,(Ai h b=some x/\x.mp=false)/\v=.slice A n cap/\n<=cap/\(cap=0\/∃ k o,A=some ⟨k,o+off,none⟩ /\
   (x.dead=true\/(β b=some (k,o)/\o+off+cap*x.sz<=Ba w k/\off+n*x.sz<=x.cells.length)))
|.omap b,v=>∃ x k,(Ai h b=some x/\x.mp=true)/\(x.dead=true\/(β b=some (k,0)/\v=Azq x.sz k))
|.optr b off,v=>∃ x k o,(Ai h b=some x/\x.mp=false)/\v=.pointer (some ⟨k,o+off,none⟩)/\(x.dead=true\/β b=some (k,o))
|.pagg c org,v=>∃ cs,v=.agg ⟨cs⟩/\cs.length=c.length/\RepCs (J org) w c (fun j=>cs[j]?) 0
|.agg c,v=>∃ cs,v=.agg ⟨cs⟩/\Reps J β h w c cs
|.tup c,v=>∃ cs,v=.tuple ⟨cs⟩/\Reps J β h w c cs
|.fn f c,v=>∃ cs:List Value,v=.func (.func (f%1000000)) ⟨cs.take (f/1000000)⟩ ⟨cs.drop (f/1000000)⟩/\Reps J β h w c cs
|.undef,_=>True
|.imm c n sz t org,v=>RepC (J org) w (.imm c n sz t org) v
|.iptr c org,v=>RepC (J org) w (.iptr c org) v
|.int k n,v=>v=.int k n
|.bool b,v=>v=.bool b
|.str s,v=>v=.string ⟨⟨s⟩⟩
|.nsl,v=>v=.slice none 0 0
|.nilptr,v=>v=.pointer none
|.nilfn,v=>v=.nilFunc
def Reps(J:Bool->Nat->Prop)(β:Cr)(h:Ap)(w:World):List AV->List Value->Prop
|[],cs=>cs=[]
|x::r,cs=>∃ u us,cs=u::us/\Rep J β h w x u/\Reps J β h w r us
end
structure Ext(J:Bool->Nat->Prop)(β:Cr)(h:Ap)(w:World)(J':Bool->Nat->Prop)(β':Cr)(h':Ap)(w':World):Prop where
 jsub:∀ o k,J o k->J' o k
 keep:∀ o,Acc (J o) w w'
 blk:∀ b x,Ai h b=some x->∃ x',(Ai h' b=some x'/\x'.mp=x.mp)/\(x'.dead=true\/(x.dead=false/\β' b=β b/\x'.sz=x.sz/\(x.mp=false->x'.cells.length=x.cells.length)))
 size:∀ b k o,β b=some (k,o)->Ba w k<=Ba w' k
mutual
def Rep.ext{J J':Bool->Nat->Prop}{β β':Cr}{h h':Ap}{w w':World}(E:Ext J β h w J' β' h' w'):∀{x:AV}{v:Value},Rep J β h w x v->Rep J' β' h' w' x v
| .own b off n,v,hr=>by
  rw[Rep]at hr ⊢
  obtain⟨x,A,cap,⟨hx,hm⟩,h1,h2,hr⟩:=hr
  obtain⟨x',⟨hx',hm'⟩,hd⟩:=E.blk b x hx
  refine⟨x',A,cap,⟨hx',by rw[hm',hm]⟩,h1,h2,?_⟩
  rcases hr with hr|⟨k,o,h3,hr⟩
  ·exact .inl hr
  ·refine .inr ⟨k,o,h3,?_⟩
   rcases hd with hd|⟨hd,hβ,hs,hl⟩
   ·exact .inl hd
   ·rcases hr with hr|⟨h4,h5,h6⟩
    ·simp[hd]at hr
    ·exact .inr ⟨by rw[hβ];exact h4,by rw[hs];exact A4f h5 (E.size b k o h4),by rw[hs,hl hm];exact h6⟩
| .optr b off,v,hr=>by
  rw[Rep]at hr ⊢
  obtain⟨x,k,o,⟨hx,hm⟩,h1,hr⟩:=hr
  obtain⟨x',⟨hx',hm'⟩,hd⟩:=E.blk b x hx
  refine⟨x',k,o,⟨hx',by rw[hm',hm]⟩,h1,?_⟩
  rcases hd with hd|⟨hd,hβ,hs,hl⟩
  ·exact .inl hd
  ·rcases hr with hr|hr
   ·simp[hd]at hr
   ·exact .inr (by rw[hβ];exact hr)
| .omap b,v,hr=>by
  rw[Rep]at hr ⊢
  obtain⟨x,k,⟨hx,hm⟩,hr⟩:=hr
  obtain⟨x',⟨hx',hm'⟩,hd⟩:=E.blk b x hx
  refine⟨x',k,⟨hx',by rw[hm',hm]⟩,?_⟩
  rcases hd with hd|⟨hd,hβ,hs,hl⟩
  ·exact .inl hd
  ·rcases hr with hr|⟨hr,hv⟩
   ·simp[hd]at hr
   ·exact .inr ⟨by rw[hβ];exact hr,by rw[hs];exact hv⟩
|.pagg c org,v,hr=>by
  rw[Rep]at hr ⊢
  obtain⟨cs,h1,h2,h3⟩:=hr
  exact⟨cs,h1,h2,RepCs.keep (E.jsub org) (E.keep org) (fun _=>rfl) h3⟩
|.agg c,v,hr=>by
  rw[Rep]at hr ⊢
  obtain⟨cs,h1,h2⟩:=hr
  exact⟨cs,h1,Reps.ext E (c:=c) h2⟩
|.tup c,v,hr=>by
  rw[Rep]at hr ⊢
  obtain⟨cs,h1,h2⟩:=hr
  exact⟨cs,h1,Reps.ext E (c:=c) h2⟩
|.fn f c,v,hr=>by
  rw[Rep]at hr ⊢
  obtain⟨cs,h1,h2⟩:=hr
  exact⟨cs,h1,Reps.ext E (c:=c) h2⟩
|.undef,_,_=>by rw[Rep];trivial
|.imm c n sz t org,v,hr=>by rw[Rep]at hr ⊢;exact RepC.keep (E.jsub org) (E.keep org) hr
|.iptr c org,v,hr=>by rw[Rep]at hr ⊢;exact RepC.keep (E.jsub org) (E.keep org) hr
|.int ..,_,hr=>hr
|.bool _,_,hr=>hr
|.str _,_,hr=>hr
|.nsl,_,hr=>hr
|.nilptr,_,hr=>hr
|.nilfn,_,hr=>hr
def Reps.ext{J J':Bool->Nat->Prop}{β β':Cr}{h h':Ap}{w w':World}(E:Ext J β h w J' β' h' w'):∀{c:List AV}{cs:List Value},Reps J β h w c cs->Reps J' β' h' w' c cs
|[],_,hr=>hr
|x::r,cs,hr=>by
  rw[Reps]at hr ⊢
  obtain⟨u,us,h1,h2,h3⟩:=hr
  exact⟨u,us,h1,Rep.ext E (x:=x) h2,Reps.ext E (c:=r) h3⟩
end
end Gx
namespace Gx
open Go
def Axy:List (Nat×List Value):=[]
def Avq:List Nat:=[]
end Gx
namespace Gx
open Go
def CellsRep(J:Bool->Nat->Prop)(β:Cr)(h:Ap)(w:World)(x:Blk)(rd:Nat->Option Value):Prop :=
 (x.pure=true->RepCs (J x.taint) w x.cells rd 0) /\
 (x.pure=false->∀ j c,x.cells[j]?=some c->∃ u,rd j=some u/\Rep J β h w c u/\u.oneCell'=true)
def FrOk(n:Nat)(fr:Nat×Nat):Prop:=fr.1=fr.2\/n<=fr.1
def FrOk.at{n:Nat}{fr:Nat×Nat}(h:FrOk n fr)(j:Nat)(k:j<n):¬ (fr.1<=j/\j<fr.2):=by rcases h with h|h<;>omega
def TyOk(X:Option (Nat×Nat))(ty:TypeId)(o n:Nat):Prop:=∀ t m,X=some (t,m)->ty=t/\o=0/\(m=0\/n=m)
def FrTy(X:Option (Nat×Nat))(ty:TypeId)(o n:Nat)(fr:Nat×Nat):Prop:=FrOk n fr/\TyOk X ty o n
def TyOk.none{ty:TypeId}{o n:Nat}:TyOk .none ty o n:=fun _ _ h=>by cases h
def FrTy.un0{ty:TypeId}{o n a:Nat}:FrTy .none ty o n (a,a):=⟨.inl rfl,TyOk.none⟩
def Avr(J:Bool->Nat->Prop)(β:Cr)(h:Ap)(w:World)(b:Nat)(x:Blk):Prop :=
 (β b=none/\x.cells=[])\/∃ k o cs ty fr,β b=some (k,o)/\w.heap[k]?=some (.cells cs ty fr) /\
  FrTy x.ty ty o cs.size fr/\o+x.cells.length<=cs.size/\CellsRep J β h w x (fun j=>cs[o+j]?) /\
  (x.sealed=false->∀ g,¬ J g k)/\(x.sealed=true->J x.taint k)
def Azr(c:LA)(es:Array MapEntry):Prop:=∃ l:List Int,c=l.map (fun n=>.int .i64 n)/\es.toList.map (fun e=>(e.key,e.val))=l.map (fun n=>(.int .i64 n,.bool true))
def ObjIs(x:Blk)(ob:Obj):Prop:=(x.sz=0/\∃ es clk,ob=.map es clk/\Azr x.cells es)\/(x.sz=1/\∃ s pos,ob=.stringIter ⟨⟨s⟩⟩ pos/\x.cells=[.str s,.int .i64 (pos:Int)])
def MapRep(J:Bool->Nat->Prop)(β:Cr)(w:World)(b:Nat)(x:Blk):Prop:=x.pure=true/\x.sealed=false/\∃ k ob,β b=some (k,0)/\w.heap[k]?=some ob/\ObjIs x ob/\∀ g,¬ J g k
def GlobOk(J:Bool->Nat->Prop)(w:World):Prop:=(∀ p∈Axy,J false p.1/\∃ ty fr,w.heap[p.1]?=some (.cells p.2.toArray ty fr))/\∀ g∈Avq,J false g/\∃ m,w.cell? ⟨g,0,none⟩=some (.int .i64 m)
def GlobOk.to {J J':Bool->Nat->Prop} {w w':World} (h:GlobOk J w) (I:∀ k,J false k->J' false k) (L:Acc (J false) w w'):GlobOk J' w':=⟨fun p D =>
 ⟨I _ (h.1 p D).1,by rw[L _ (h.1 p D).1];exact(h.1 p D).2⟩,fun g G=>⟨I _ (h.2 g G).1,by rw[iA L (by exact(h.2 g G).1)];exact(h.2 g G).2⟩⟩
def GlobOk.ext{J J':Bool->Nat->Prop}{β β':Cr}{h h':Ap}{w w':World}(G:GlobOk J w)(E:Ext J β h w J' β' h' w'):GlobOk J' w':=G.to (E.jsub false) (E.keep false)
structure SimH(J:Bool->Nat->Prop)(β:Cr)(h:Ap)(w:World):Prop where
 jlt:∀ o k,J o k->k<w.heap.size
 jft:∀ k,J false k->J true k
 gl:GlobOk J w
 blk:∀ b x,Ai h b=some x->x.dead=false->x.mp=false->Avr J β h w b x
 mblk:∀ b x,Ai h b=some x->x.dead=false->x.mp=true->MapRep J β w b x
 sep:∀ b b' x x' k o o',Ai h b=some x->Ai h b'=some x'->x.dead=false->x'.dead=false->x.sealed=false->β b=some (k,o)->β b'=some (k,o')->b=b'
mutual
def T_{J:Bool->Nat->Prop}{β:Cr}{h:Ap}{w:World}:∀ v:Value,Rep J β h w (gU v) v
|.int ..=>by simp[gU,Rep]
|.bool _=>by simp[gU,Rep]
|.string ⟨⟨s⟩⟩=>by simp[gU,Rep]
|.slice none 0 0=>by simp[gU,Rep]
|.slice none 0 (_+1)=>by simp[gU,Rep]
|.slice none (_+1) _=>by simp[gU,Rep]
|.slice (some _) _ _=>by simp[gU,Rep]
|.pointer none=>by simp[gU,Rep]
|.pointer (some _)=>by simp[gU,Rep]
|.nilFunc=>by simp[gU,Rep]
|.agg ⟨cs⟩=>by rw[gU,Rep];exact⟨cs,rfl,UA cs⟩
|.float ..=>by simp[gU,Rep]
|.complex ..=>by simp[gU,Rep]
|.map _=>by simp[gU,Rep]
|.chan _=>by simp[gU,Rep]
|.func ..=>by simp[gU,Rep]
|.iface ..=>by simp[gU,Rep]
|.nilIface=>by simp[gU,Rep]
|.tuple _=>by simp[gU,Rep]
def UA{J:Bool->Nat->Prop}{β:Cr}{h:Ap}{w:World}:∀ cs:List Value,Reps J β h w (Md cs) cs
|[]=>by simp[Md,Reps]
|v::r=>by rw[Md,Reps];exact⟨v,r,rfl,T_ v,UA r⟩
end
structure SimS(J:Bool->Nat->Prop)(β:Cr)(h:Ap)(w:World)(s:Gv)(t:Array Value):Prop where
 slot:∀ i v,t[i]?=some v->Rep J β h w (Fu s i) v
 out:∀ i,t.size<=i->Fu s i=.undef
def Bv{J:Bool->Nat->Prop}{β:Cr}{h:Ap}{w:World}{s:Gv}{a:Act}(H:SimS J β h w s a.tmps)(x:Operand):Rep J β h w (ev s x) (a.eval x):=by
 cases x with
| tmp t =>
  rw[ev,Act.eval,A5a]
  cases k:a.tmps[t]? with
  |some v=>exact H.slot t v k
  |none =>
   have:a.tmps.size<=t:=by simpa using k
   rw[H.out t this];simp[Rep]
|const v=>exact T_ v
|global g=>simp[ev,Rep]
| func f =>
  rw[ev]
  cases D:Nat.blt f 1000000 with
  |false=>simp[Rep]
  |true =>
   have:f<1000000:=by simpa using D
   simp[Rep,Act.eval,Reps,A3s this]
section
variable{R:Type}{r:R}{P:Program}{J:Bool->Nat->Prop}{β:Cr}{h:Ap}{w:World}
def yz{t:TypeId}{op:BinOp}{k:IntKind}{a b:Int}{v:AV}(D:gV op k a b=some v):
  ∃ vc,(binOp op t (.int k a) (.int k b)).run P w=.ok vc w/\Rep J β h w v vc:=by cases op<;>simp[gV]at D<;>subst D<;>simp[binOp,Op.intArith,Op.intBits,Op.intCmp,Rep]
def Ag3{op:BinOp}{t:TypeId}{x y:AV}{k:AV->O R}{vx vy:Value}(hh:Alp P t op x y k=some r)(Y:Rep J β h w x vx)(hy:Rep J β h w y vy)(ox oy:Operand):
  ∃ v vc,k v=some r/\(do eqGuard op t ox oy vx vy;binOp op t vx vy:Sem Value).run P w=.ok vc w/\Rep J β h w v vc:=by
 unfold Alp at hh
 split at hh
 ·rename_i L a k2 b
  rw[Rep]at Y hy;subst Y hy
  have I:(eqGuard op t ox oy (.int L a) (.int k2 b)).run P w=.ok () w:=by
   unfold eqGuard;cases op<;>simp
  split at hh
  ·cases D:decide (b<0)<;>rw[D]at hh<;>simp at hh D
   refine⟨_,_,hh,?_,by rw[Rep]⟩
   simp[I,binOp,Op.shift];intro hc;omega
  ·cases D:decide (b<0)<;>rw[D]at hh<;>simp at hh D
   refine⟨_,_,hh,?_,by rw[Rep]⟩
   simp[I,binOp,Op.shift];intro hc;omega
  ·cases T:Lo L k2<;>rw[T]at hh<;>simp at hh
   have G:L=k2:=by simpa[Lo]using T
   subst G
   cases D:(b==0)<;>rw[D]at hh<;>simp at hh D
   refine⟨_,_,hh,?_,by rw[Rep]⟩
   simp[I,binOp,Op.intDiv,D]
  ·cases T:Lo L k2<;>rw[T]at hh<;>simp at hh
   have G:L=k2:=by simpa[Lo]using T
   subst G
   cases D:(b==0)<;>rw[D]at hh<;>simp at hh D
   refine⟨_,_,hh,?_,by rw[Rep]⟩
   simp[I,binOp,Op.intDiv,D]
  ·cases T:Lo L k2<;>rw[T]at hh<;>simp at hh
   have G:L=k2:=by simpa[Lo]using T
   subst G
   cases hi:gV op L a b with
   |none=>rw[hi]at hh;simp at hh
   |some v =>
    rw[hi]at hh
    obtain⟨vc,h1,h2⟩:=yz (P:=P) (J:=J) (β:=β) (h:=h) (w:=w) (t:=t) hi
    exact⟨v,vc,by simpa using hh,by simp[I,h1],h2⟩
 ·rename_i a b
  rw[Rep]at Y hy;subst Y hy
  split at hh
  ·cases D:TU P t<;>rw[D]at hh<;>simp at hh
   have ht:P.underlying t=some .bool:=by unfold TU at D;split at D<;>simp_all
   refine⟨_,_,hh,?_,by rw[Rep]⟩
   have he:(Op.equal t (.bool a) (.bool b)).run P w=.ok (a==b) w:=by
    have:∀ d,(Op.equalIn (d+1) t (.bool a) (.bool b)).run P w=.ok (a==b) w:=fun d=>by
     unfold Op.equalIn;simp only[Sem.run_bind,run_underlying ht,Result.andThen_ok,Sem.run_pure]
    exact this 9999
   have I:∀ op,(eqGuard op t ox oy (.bool a) (.bool b)).run P w=.ok () w:=fun op=>by unfold eqGuard;cases op<;>simp
   simp only[Sem.run_bind,I,Result.andThen_ok,binOp,he,Sem.run_pure]
  ·cases D:TU P t<;>rw[D]at hh<;>simp at hh
   have ht:P.underlying t=some .bool:=by unfold TU at D;split at D<;>simp_all
   refine⟨_,_,hh,?_,by rw[Rep]⟩
   have he:(Op.equal t (.bool a) (.bool b)).run P w=.ok (a==b) w:=by
    have:∀ d,(Op.equalIn (d+1) t (.bool a) (.bool b)).run P w=.ok (a==b) w:=fun d=>by
     unfold Op.equalIn;simp only[Sem.run_bind,run_underlying ht,Result.andThen_ok,Sem.run_pure]
    exact this 9999
   have I:∀ op,(eqGuard op t ox oy (.bool a) (.bool b)).run P w=.ok () w:=fun op=>by unfold eqGuard;cases op<;>simp
   simp only[Sem.run_bind,I,Result.andThen_ok,binOp,he,Sem.run_pure]
  ·simp at hh
 ·simp at hh
end
end Gx
namespace Gx
open Go
section
variable{R:Type}{r:R}{P:Program}{J:Bool->Nat->Prop}{β:Cr}{h:Ap}{w:World}
def ub{α:Type}{o:Option α}{f:α->O R}(hh:o.bind f=some r):∃ x,o=some x/\f x=some r:=by
 cases o with
|none=>simp at hh
|some x=>exact⟨x,rfl,by simpa using hh⟩
def uc{b:Bool}{x:O R}(hh:cond b x none=some r):b=true/\x=some r:=by cases b<;>simp at hh;exact⟨rfl,hh⟩
def Ag4{b:Bool}{x:O R}(hh:cond b none x=some r):b=false/\x=some r:=by cases b<;>simp at hh;exact⟨rfl,hh⟩
def Alu{op:UnOp}{x v:AV}{vx:Value}(hh:Azp op x=some v)(G:Rep J β h w x vx):
  ∃ vc,(Op.unary op vx).run P w=.ok vc w/\Rep J β h w v vc:=by
 unfold Azp at hh
 split at hh
 ·rename_i k n
  rw[Rep]at G;subst G;simp at hh;subst hh
  refine⟨.int k (k.wrap (-n)),by simp[Op.unary,Op.intArith],?_⟩
  rw[Rep]
 ·rename_i k n
  rw[Rep]at G;subst G
  have D:=hh
  rw[gV]at D
  simp only[A3k]at D;subst D
  refine⟨_,rfl,?_⟩
  rw[Rep];cases k.signed<;>rfl
 ·rename_i b
  rw[Rep]at G;subst G;simp at hh;subst hh
  exact⟨.bool (!b),by simp[Op.unary],by rw[Rep]⟩
 ·simp at hh
def lF(P:Program)(J:Bool->Nat->Prop)(β:Cr)(h:Ap)(w:World)(t:TypeId)(rd:Nat->Option Value)(v:AV):Prop :=
 (∃ d,P.underlying t=some d/\d.isRow=false/\∃ u,rd 0=some u/\Rep J β h w v u) \/
 (∃ d,P.underlying t=some d/\d.isRow=true/\∃ us:List Value,(P.info? t).map (·.size)=some us.length/\(∀ j u,us[j]?=some u->rd j=some u)/\Rep J β h w v (.agg us.toArray))
def RepCs.at{J:Nat->Prop}{c:LA}{rd:Nat->Option Value}(hc:RepCs J w c rd 0){j:Nat}{x:AV}(k:c[j]?=some x):∃ u,rd j=some u/\RepC J w x u:=by have:=Cm.1 hc j x k;simpa using this
def RepCs.drop{J:Nat->Prop}{c:LA}{rd:Nat->Option Value}(hc:RepCs J w c rd 0)(n:Nat):RepCs J w (c.drop n) (fun j=>rd (n+j)) 0:=by
 rw[Cm]at hc ⊢
 intro j x k
 rw[A3z]at k
 simpa using hc (n+j) x k
def RepCs.take{J:Nat->Prop}{c:LA}{rd:Nat->Option Value}(hc:RepCs J w c rd 0)(n:Nat):RepCs J w (c.take n) rd 0:=by
 rw[Cm]at hc ⊢
 intro j x k
 rw[A47]at k
 split at k
 ·exact hc j x k
 ·simp at k
def RepCs.list{J:Nat->Prop}{c:LA}{rd:Nat->Option Value}(hc:RepCs J w c rd 0):
  ∃ us:List Value,us.length=c.length/\(∀ j u,us[j]?=some u->rd j=some u)/\RepCs J w c (fun j=>us[j]?) 0:=by
 refine⟨c.zipIdx.map fun p=>(rd p.2).getD undef,by simp,fun j u k=>?_,?_⟩
 ·rw[A5o,A89]at k
  cases G:c[j]? with
  |none=>rw[G]at k;simp at k
  |some x =>
   rw[G]at k
   obtain⟨I,D,_⟩:=hc.at G
   simp[D]at k
   rw[D,k]
 ·rw[Cm]
  intro j x k
  obtain⟨u,D,hr⟩:=hc.at k
  refine⟨u,?_,hr⟩
  simp[k,D]
def lG{J1 J2:Nat->Prop}:∀{c:LA}{rd:Nat->Option Value}{i:Nat},Bb c=true->RepCs J1 w c rd i->RepCs J2 w c rd i
|[],_,_,_,_=>trivial
|x::r,rd,i,k,hc=>by
  rw[RepCs]at hc ⊢
  obtain⟨⟨u,D,I⟩,G⟩:=hc
  have hr:Bb r=true:=by unfold Bb at k;split at k<;>simp_all
  refine⟨⟨u,D,?_⟩,lG hr G⟩
  unfold Bb at k
  split at k<;>simp_all[RepC]
def WO{t:TypeId}{c:LA}{org:Bool}{k:Bool->O R}{rd:Nat->Option Value}{i:Nat}(hh:Xw P t c org k=some r)(hc:RepCs (J org) w c rd i):∃ o,k o=some r/\RepCs (J o) w c rd i:=by
 unfold Xw at hh
 cases D:Ajr P t with
|true=>rw[D]at hh;exact⟨org,hh,hc⟩
|false =>
  rw[D,cond_false]at hh
  obtain⟨G,I⟩:=uc hh
  refine⟨false,I,?_⟩
  cases org with
  |false=>exact hc
  |true=>exact lG (by simpa using G) hc
def Vk{t:TypeId}{c:LA}{org:Bool}{k:AV->O R}{rd:Nat->Option Value}(hh:PP P t c org k=some r)(hc:RepCs (J org) w c rd 0):
  ∃ v,k v=some r/\lF P J β h w t rd v:=by
 unfold PP at hh
 have agg:∀{d:TypeDesc},P.underlying t=some d->d.isRow=true->((Cs P t).bind fun n=>cond (ble n c.length) (Xw P t (c.take n) org fun o=>k (.pagg (c.take n) o)) none)=some r ->
   ∃ v,k v=some r/\lF P J β h w t rd v:=by
  intro d I hd hh
  obtain⟨n,D,hh⟩:=ub hh
  obtain⟨hle,hh⟩:=uc hh
  have hle':n<=c.length:=by simpa using hle
  obtain⟨us,L,G,h3⟩:=(hc.take n).list
  have hl:us.length=n:=by rw[L];simp;omega
  obtain⟨o,hh,h4⟩:=WO hh h3
  refine⟨_,hh,.inr ⟨d,I,hd,us,?_,G,?_⟩⟩
  ·rw[hl];exact D
  ·rw[Rep];exact⟨us,rfl,by rw[L],h4⟩
 split at hh
 ·rename_i kd I
  obtain⟨x,T,hh⟩:=ub hh
  obtain⟨n,D,hh⟩:=ub hh
  obtain⟨u,L,G⟩:=hc.at (by rw[<-A4q];exact T)
  refine⟨_,hh,.inl ⟨_,I,rfl,u,L,?_⟩⟩
  unfold k9 at D
  split at D
  ·obtain⟨hk,hn'⟩:=uc D
   simp[Lo]at hk hn';subst hk;subst hn'
   rw[RepC]at G;rw[Rep];exact G
  ·simp at D
 ·rename_i I
  obtain⟨x,T,hh⟩:=ub hh
  obtain⟨n,D,hh⟩:=ub hh
  obtain⟨u,L,G⟩:=hc.at (by rw[<-A4q];exact T)
  refine⟨_,hh,.inl ⟨_,I,rfl,u,L,?_⟩⟩
  unfold asBool at D
  split at D
  ·simp at D;subst D
   rw[RepC]at G;rw[Rep];exact G
  ·simp at D
 ·rename_i I
  obtain⟨x,T,hh⟩:=ub hh
  obtain⟨n,D,hh⟩:=ub hh
  obtain⟨u,L,G⟩:=hc.at (by rw[<-A4q];exact T)
  refine⟨_,hh,.inl ⟨_,I,rfl,u,L,?_⟩⟩
  unfold Aov at D
  split at D
  ·simp at D;subst D
   rw[RepC]at G;rw[Rep];exact G
  ·simp at D
 ·rename_i e I
  obtain⟨sz,hsz,hh⟩:=ub hh
  obtain⟨x,T,hh⟩:=ub hh
  obtain⟨p,Y,hh⟩:=ub hh
  obtain⟨u,L,G⟩:=hc.at (by rw[<-A4q];exact T)
  refine⟨_,hh,.inl ⟨_,I,rfl,u,L,?_⟩⟩
  unfold Aow at Y
  rw[Rep,RepC]
  split at Y
  ·obtain⟨hk,hp'⟩:=uc Y
   simp at hk hp';subst hk;subst hp'
   rw[RepC]at G
   obtain⟨h3,A,cap,h4,h5,h6,h7⟩:=G
   exact⟨h3,A,cap,h4,h5,by simp,h7⟩
  ·simp at Y;subst Y
   rw[RepC]at G
   exact⟨by simp,none,0,G,by simp,by simp,.inl rfl⟩
  ·simp at Y
 ·rename_i I;exact agg I rfl hh
 ·rename_i I;exact agg I rfl hh
 ·simp at hh
def Ck:∀{c:LA}{cs:List Value},Reps J β h w c cs↔cs.length=c.length/\∀(j:Nat)(x:AV)(u:Value),c[j]?=some x->cs[j]?=some u->Rep J β h w x u
|[],cs=>by rw[Reps];simp
| x::r,cs=>by
  rw[Reps]
  constructor
  ·rintro⟨u,us,rfl,G,I⟩
   rw[Ck]at I
   refine⟨by simp[I.1],fun j y v k D=>?_⟩
   cases j with
   |zero=>simp at k D;subst k D;exact G
   |succ j=>exact I.2 j y v (by simpa using k) (by simpa using D)
  ·rintro⟨L,G⟩
   cases cs with
   |nil=>simp at L
   |cons u us =>
    refine⟨u,us,rfl,G 0 x u (by simp) (by simp),?_⟩
    rw[Ck]
    exact⟨by simpa using L,fun j y v k D=>G (j+1) y v (by simpa using k) (by simpa using D)⟩
def PV{t:TypeId}{c:LA}{k:AV->O R}{rd:Nat->Option Value}(hh:k_ P t c k=some r)
  (hc:∀ j x,c[j]?=some x->∃ u,rd j=some u/\Rep J β h w x u) :
  ∃ v,k v=some r/\lF P J β h w t rd v:=by
 unfold k_ at hh
 have agg:∀{d:TypeDesc},P.underlying t=some d->d.isRow=true->((Cs P t).bind fun n=>cond (ble n c.length) (k (.agg (c.take n))) none)=some r ->
   ∃ v,k v=some r/\lF P J β h w t rd v:=by
  intro d G hd hh
  obtain⟨n,hn,hh⟩:=ub hh
  obtain⟨Y,hh⟩:=uc hh
  have T:n<=c.length:=by simpa using Y
  refine⟨_,hh,.inr ⟨d,G,hd,(c.take n).zipIdx.map fun p=>(rd p.2).getD undef,?_,fun j u L=>?_,?_⟩⟩
  ·simp;rw[A3h T];exact A80.1 hn
  ·rw[A5o,A89]at L
   cases D:(c.take n)[j]? with
   |none=>rw[D]at L;simp at L
   | some x =>
    rw[D]at L
    rw[A47]at D
    split at D
    ·obtain⟨u',I,_⟩:=hc j x D
     simp[I]at L
     rw[I,L]
    ·simp at D
  ·rw[Rep]
   refine⟨_,rfl,Ck.2 ⟨by simp,fun j x u D G=>?_⟩⟩
   simp[D]at G
   rw[A47]at D
   split at D
   ·obtain⟨u',I,hr⟩:=hc j x D
    simp[I]at G;subst G;exact hr
   ·simp at D
 split at hh
 ·rename_i G;exact agg G rfl hh
 ·rename_i G;exact agg G rfl hh
 ·rename_i d _ _ G
  obtain⟨x,D,hh⟩:=ub hh
  obtain⟨u,h1,h2⟩:=hc 0 x (by rw[<-A4q];exact D)
  refine⟨x,hh,.inl ⟨d,G,?_,u,h1,h2⟩⟩
  cases d<;>simp_all
 ·simp at hh
def xE{n:Nat}{k:AV->O R}:∀{c:LA}{i:Nat},IK n k c i=some r->i<=n/\∃ x,c[n - i]?=some x/\k x=some r
|[],i,hh=>by simp[IK]at hh
| v::c,i,hh=>by
  rw[IK]at hh
  cases D:beq n i with
  |true =>
   rw[D]at hh
   have:n=i:=A26 D
   subst this
   exact⟨A2s _,v,by simp,hh⟩
  |false =>
   rw[D]at hh
   obtain⟨L,x,G,I⟩:=xE (c:=c) hh
   refine⟨by omega,x,?_,I⟩
   rw[show n - i=(n - (i+1))+1 by omega];simpa using G
def bY{t:TypeId}{c:LA}{off:Nat}{k:AV->O R}(hh:PQ P t c off k=some r):k_ P t (c.drop off) k=some r:=by
 unfold PQ at hh
 unfold k_
 split at hh
 ·exact hh
 ·exact hh
 ·rename_i d L T Y
  obtain⟨_,x,D,G⟩:=xE hh
  have I:(c.drop off).head?=some x:=by rw[A4q,A3z];simpa using D
  rw[I];exact G
 ·simp at hh
def UB{t:TypeId}{d:TypeDesc}(k:P.underlying t=some d):(isAgg t).run P w=.ok d.isRow w:=by
 unfold isAgg
 rw[Sem.run_bind,run_underlying k w]
 cases d<;>simp
def WP{t:TypeId}{a:Addr}{v:AV}(hr:lF P J β h w t (fun j=>w.cell? (a.add j)) v):∃ vc,(loadVar t a).run P w=.ok vc w/\Rep J β h w v vc:=by
 rcases hr with⟨d,D,G,u,k,I⟩|⟨d,D,G,us,k,I,T⟩
 ·refine⟨u,?_,I⟩
  have L:w.cell? a=some u:=by simpa[Addr.add]using k
  simp[loadVar,UB D,G,L]
 ·refine⟨_,?_,T⟩
  have Y:=run_loadCells_list (P:=P) w a us I
  cases hq:P.info? t with
  |none=>simp[hq]at k
  |some i =>
   have hs:i.size=us.length:=by simpa[hq]using k
   simp[loadVar,Sem.run_bind,UB D,G,Go.sizeOf,typeInfo,hq,hs,Y]
def Um{t:TypeId}{cs:List Value}{off:Nat}{v:AV}(hr:lF P J β h w t (fun j=>cs[off+j]?) v):∃ vc,(part t ⟨cs⟩ off).run P w=.ok vc w/\Rep J β h w v vc:=by
 rcases hr with⟨d,D,G,u,k,I⟩|⟨d,D,G,us,k,I,T⟩
 ·refine⟨u,?_,I⟩
  simp at k
  simp[part,UB D,G,k]
 ·refine⟨_,?_,T⟩
  cases hq:P.info? t with
  |none=>simp[hq]at k
  | some i =>
   have hs:i.size=us.length:=by simpa[hq]using k
   have:(⟨cs⟩:Array Value).extract off (off+us.length)=us.toArray:=by
    apply A44
    simp
    apply List.ext_getElem?
    intro j
    rw[A47,A3z]
    split
    ·rename_i L
     rw[A2r L]
     exact I j _ (A2r L)
    ·rename_i L
     rw[A31 (by omega)]
   simp only[part,Sem.run_bind,UB D,G,Go.sizeOf,typeInfo,run_program,Result.andThen_ok,hq,Sem.run_pure,hs,if_true,this]
end
end Gx
namespace Gx
open Go
section
variable{R:Type}{r:R}{P:Program}{J:Bool->Nat->Prop}{β:Cr}{h:Ap}{w:World}{g:Bp}
def Oy{k:Nat}{cs:Array Value}{ty:TypeId}{fr:Nat×Nat}(D:w.heap[k]?=some (.cells cs ty fr))(i:Nat):w.cell? ⟨k,i,none⟩=cs[i]?:=by simp[World.cell?,D]
def Looks(g:Bp)(h:Ap):Prop:=∀ b x,g b=some x->Ai h b=some x
def Nd{b:Nat}{x:Blk}(D:Looks g h)(k:Iu g b=some x):Ai h b=some x/\x.dead=false:=by
 unfold Iu at k
 obtain⟨y,G,k⟩:=ub k
 obtain⟨I,k⟩:=Ag4 k
 simp at k;subst k
 exact⟨D b _ G,I⟩
def zA{b off:Nat}{x:Blk}{v:Value}(S:SimH J β h w)(L:Ai h b=some x)(T:x.dead=false)(hr:Rep J β h w (.optr b off) v):
  ∃ k o cs ty fr,β b=some (k,o)/\v=.pointer (some ⟨k,o+off,none⟩)/\w.heap[k]?=some (.cells cs ty fr) /\
  FrTy x.ty ty o cs.size fr/\o+x.cells.length<=cs.size/\CellsRep J β h w x (fun j=>cs[o+j]?) /\
  (x.sealed=false->∀ g,¬ J g k)/\(x.sealed=true->J x.taint k):=by
 rw[Rep]at hr
 obtain⟨y,k,o,⟨G,hm⟩,hv,hr⟩:=hr
 rw[L]at G;simp at G;subst G
 rcases hr with hr|I
 ·simp[T]at hr
 ·rcases S.blk b x L T hm with⟨Y,_⟩|⟨k',o',cs,ty,fr,D,h1,h2,h3,h4,h5,h6⟩
  ·rw[I]at Y;simp at Y
  ·rw[I]at D;simp at D;obtain⟨rfl,rfl⟩:=D
   exact⟨k,o,cs,ty,fr,I,hv,h1,h2,h3,h4,h5,h6⟩
def CellsRep.reads{t:TypeId}{x:Blk}{cs:Array Value}{o off:Nat}{k:AV->O R}(hc:CellsRep J β h w x (fun j=>cs[o+j]?))
  (hh:cond x.pure (PP P t (x.cells.drop off) x.taint k) (PQ P t x.cells off k)=some r) :
  ∃ v,k v=some r/\lF P J β h w t (fun j=>cs[o+off+j]?) v:=by
 cases D:x.pure with
|true =>
  rw[D]at hh
  have:=(hc.1 D).drop off
  obtain⟨v,G,I⟩:=Vk (β:=β) (h:=h) hh this
  exact⟨v,G,by simpa[A4d]using I⟩
| false =>
  rw[D]at hh
  obtain⟨v,G,I⟩:=PV (J:=J) (β:=β) (h:=h) (w:=w) (rd:=fun j=>cs[o+(off+j)]?) (bY hh) (fun j y L=>by
   rw[A3z]at L
   obtain⟨u,T,hr,_⟩:=hc.2 D _ _ L
   exact⟨u,T,hr⟩)
  exact⟨v,G,by simpa[A4d]using I⟩
def lH{t:TypeId}{p:AV}{vp:Value}{k:AV->O R}(S:SimH J β h w)(hl:Looks g h)(hh:pu P g t p k=some r)(D:Rep J β h w p vp):
  ∃ v vc,k v=some r/\(Instr.loadAt t vp).run P w=.ok vc w/\Rep J β h w v vc:=by
 unfold pu at hh
 split at hh
 ·rename_i c org
  rw[Rep,RepC]at D
  obtain⟨a,rfl,_,hc⟩:=D
  obtain⟨v,G,I⟩:=Vk (β:=β) (h:=h) hh hc
  obtain⟨vc,L,T⟩:=WP I
  exact⟨v,vc,G,by simp[Instr.loadAt,Instr.sureAddr,L],T⟩
 ·rename_i b off
  obtain⟨x,hx,hh⟩:=ub hh
  obtain⟨hb,hd⟩:=Nd hl hx
  obtain⟨kk,o,cs,ty,fr,hβ,rfl,hk,_,_,hc,_⟩:=zA S hb hd D
  obtain⟨v,G,I⟩:=hc.reads hh
  have Y:lF P J β h w t (fun j=>w.cell? ((⟨kk,o+off,none⟩:Addr).add j)) v:=by
   simpa only[Addr.add_mid,Oy hk]using I
  obtain⟨vc,L,T⟩:=WP Y
  exact⟨v,vc,G,by simp[Instr.loadAt,Instr.sureAddr,L],T⟩
 ·simp at hh
def Eu{t:TypeId}{n:Nat}(hs:Cs P t=some n)(w:World):(Go.sizeOf t).run P w=.ok n w:=by
 unfold Cs at hs
 cases hq:P.info? t with
|none=>simp[hq]at hs
|some i=>simp[hq]at hs;simp[Go.sizeOf,typeInfo,hq,hs]
def Tj{i:Int}{n:Nat}(hi:Ab i n=true):0<=i/\i<(n:Int):=by simpa[Ab]using hi
def bZ{J:Nat->Prop}{c:LA}{a:Addr}(hc:RepCs J w c (fun j=>w.cell? (a.add j)) 0)(n:Nat):RepCs J w (c.drop n) (fun j=>w.cell? ((a.add n).add j)) 0:=by
 have e:∀ j,(a.add n).add j=a.add (n+j):=fun j=>by
  unfold Addr.add
  by_cases k:n=0<;>by_cases D:j=0<;>simp[k,D,A4d]
 simpa[e]using hc.drop n
def Asv{b off n:Nat}{v:Value}(m:Nat)(hr:Rep J β h w (.own b off n) v)(G:n≠0):
  ∃ k o cap,v=.slice (some ⟨k,o,none⟩) n cap/\Rep J β h w (.optr b (off+m)) (.pointer (some ⟨k,o+m,none⟩)):=by
 rw[Rep]at hr
 obtain⟨x,A,cap,D,rfl,I,hr⟩:=hr
 rcases hr with hr|⟨k,o,rfl,hr⟩
 ·omega
 ·refine⟨k,o+off,cap,rfl,?_⟩
  rw[Rep];exact⟨x,k,o,D,by rw[A4d],hr.imp id (·.1)⟩
def WQ{t k:TypeId}{kd:IntKind}{i:Int}{len cap sz:Nat}{a:Addr}(D:P.underlying t=some (.slice k))(hs:Cs P k=some sz)(G:Ab i len=true):
  (Instr.indexAt t (.slice (some a) len cap) (.int kd i)).run P w=.ok (.pointer (some (a.add (i.toNat*sz)))) w:=by
 obtain⟨I,L⟩:=Tj G
 simp[Instr.indexAt,asIntOf,run_underlying D,I,L,Eu hs]
def WR{t k:TypeId}{kd:IntKind}{i:Int}{len sz:Nat}{a:Addr}(D:P.underlying t=some (.array len k))(hs:Cs P k=some sz)(G:Ab i len=true):
  (Instr.indexAt t (.pointer (some a)) (.int kd i)).run P w=.ok (.pointer (some (a.add (i.toNat*sz)))) w:=by
 obtain⟨I,L⟩:=Tj G
 simp[Instr.indexAt,asIntOf,run_underlying D,I,L,Eu hs,Instr.sureAddr]
def iB{t:TypeId}{x i:AV}{vx vi:Value}{k:AV->O R}(hh:Tf P t x i k=some r)(G:Rep J β h w x vx)(hi:Rep J β h w i vi):
  ∃ v vc,k v=some r/\(Instr.indexAt t vx vi).run P w=.ok vc w/\Rep J β h w v vc:=by
 unfold Tf at hh
 split at hh
 ·rename_i Y c len sz tight org kd i I
  obtain⟨sz',hs,L⟩:=ub hh
  obtain⟨he,h2⟩:=uc L
  obtain⟨D,T⟩:=uc h2
  have he':sz'=sz:=by simp at he;exact he.symm
  subst he'
  rw[Rep]at hi;subst hi
  rw[Rep,RepC]at G
  obtain⟨hlen,A,cap,rfl,hcap,_,hA⟩:=G
  rcases hA with hA|⟨a,rfl,hj,hc⟩
  ·have:=Tj D;omega
  refine⟨_,_,T,WQ I hs D,?_⟩
  rw[Rep,RepC]
  exact⟨_,rfl,by rw[Ti];exact hj,bZ hc _⟩
 ·rename_i Y b off len kd i I
  obtain⟨sz,hs,L⟩:=ub hh
  obtain⟨D,T⟩:=uc L
  rw[Rep]at hi;subst hi
  obtain⟨kk,o,cap,rfl,h4⟩:=Asv (i.toNat*sz) G (by have:=Tj D;omega)
  exact⟨_,_,T,WQ I hs D,by rw[Addr.add_mid];exact h4⟩
 ·rename_i len Y c org kd i I
  obtain⟨sz,hs,L⟩:=ub hh
  obtain⟨D,T⟩:=uc L
  rw[Rep]at hi;subst hi
  rw[Rep,RepC]at G
  obtain⟨a,rfl,hj,hc⟩:=G
  refine⟨_,_,T,WR I hs D,?_⟩
  rw[Rep,RepC]
  exact⟨_,rfl,by rw[Ti];exact hj,bZ hc _⟩
 ·rename_i len Y b off kd i I
  obtain⟨sz,hs,L⟩:=ub hh
  obtain⟨D,T⟩:=uc L
  rw[Rep]at hi;subst hi
  rw[Rep]at G
  obtain⟨y,kk,o,hy,rfl,h4⟩:=G
  refine⟨_,_,T,WR I hs D,?_⟩
  rw[Rep,Addr.add_mid]
  exact⟨y,kk,o,hy,by rw[A4d],h4⟩
 ·simp at hh
def b8{t:TypeId}{f:Nat}{p:Nat×TypeId}(k:pL P t f=some p):∃ fs fd,P.underlying t=some (.struct fs)/\fs[f]?=some fd/\fd.offset=p.1/\fd.type=p.2:=by
 unfold pL at k
 split at k
 ·rename_i fs D
  cases hq:fs[f]? with
  |none=>simp[hq]at k
  |some fd=>simp[hq]at k;subst k;exact⟨fs,fd,D,hq,rfl,rfl⟩
 ·simp at k
def iC{t:TypeId}{x:AV}{f:Nat}{vx:Value}{k:AV->O R}(hh:Tg P t x f k=some r)(D:Rep J β h w x vx):
  ∃ v vc,k v=some r/\(Instr.fieldAt t vx f).run P w=.ok vc w/\Rep J β h w v vc:=by
 unfold Tg at hh
 obtain⟨p,L,T⟩:=ub hh
 obtain⟨n,Y,h2⟩:=ub T
 obtain⟨h0,G⟩:=Ag4 h2
 obtain⟨fs,fd,hu,hf,ho,ht⟩:=b8 L
 have I:n≠0:=by intro e;subst e;simp at h0
 have run:∀ a:Addr,(Instr.fieldAt t (.pointer (some a)) f).run P w=.ok (.pointer (some (a.add p.1))) w:=fun a=>by
  simp[Instr.fieldAt,run_underlying hu,hf,Instr.sureAddr,fieldPlace,ht,Eu Y,I,ho]
 split at G
 ·rw[Rep,RepC]at D
  obtain⟨a,rfl,hj,hc⟩:=D
  refine⟨_,_,G,run a,?_⟩
  rw[Rep,RepC]
  exact⟨_,rfl,by rw[Ti];exact hj,bZ hc _⟩
 ·rw[Rep]at D
  obtain⟨y,kk,o,hy,rfl,h4⟩:=D
  refine⟨_,_,G,run _,?_⟩
  rw[Rep,Addr.add_mid]
  exact⟨y,kk,o,hy,by rw[A4d],h4⟩
 ·simp at G
def zB{t:TypeId}{x:AV}{f:Nat}{vx:Value}{k:AV->O R}(hh:gW P t x f k=some r)(D:Rep J β h w x vx):
  ∃ v vc,k v=some r/\(Instr.field t vx f).run P w=.ok vc w/\Rep J β h w v vc:=by
 unfold gW at hh
 obtain⟨p,hp,G⟩:=ub hh
 obtain⟨fs,fd,hu,hf,ho,ht⟩:=b8 hp
 split at G
 ·rename_i c org
  rw[Rep]at D
  obtain⟨cs,rfl,hl,hc⟩:=D
  obtain⟨v,I,L⟩:=Vk (β:=β) (h:=h) G (hc.drop p.1)
  obtain⟨vc,T,Y⟩:=Um L
  exact⟨v,vc,I,by simp[Instr.field,run_underlying hu,hf,asAgg,ht,ho,T],Y⟩
 ·rename_i c
  rw[Rep]at D
  obtain⟨cs,rfl,hc⟩:=D
  rw[Ck]at hc
  obtain⟨v,I,L⟩:=PV (J:=J) (β:=β) (h:=h) (w:=w) (rd:=fun j=>cs[p.1+j]?) G (fun j y hj=>by
   rw[A3z]at hj
   have:p.1+j<cs.length:=by
    rw[hc.1];exact(A29.1 hj).1
   exact⟨cs[p.1+j],A2r this,hc.2 _ _ _ hj (A2r this)⟩)
  obtain⟨vc,T,Y⟩:=Um L
  exact⟨v,vc,I,by simp[Instr.field,run_underlying hu,hf,asAgg,ht,ho,T],Y⟩
 ·simp at G
def zC{t:TypeId}{x i:AV}{vx vi:Value}{k:AV->O R}(hh:gX P t x i k=some r)(D:Rep J β h w x vx)(hi:Rep J β h w i vi):
  ∃ v vc,k v=some r/\(Instr.index t vx vi).run P w=.ok vc w/\Rep J β h w v vc:=by
 unfold gX at hh
 split at hh
 ·rename_i s kd i G
  obtain⟨I,L⟩:=uc hh
  obtain⟨T,h2⟩:=Tj I
  rw[Rep]at hi;rw[Rep]at D;subst hi D
  have Y:i.toNat<s.length:=by omega
  refine⟨_,.int .u8 ((s.getD i.toNat 0).toNat:Int),L,?_,by rw[Rep]⟩
  have hg:(⟨⟨s⟩⟩:ByteArray)[i.toNat]?=some s[i.toNat]:=by
   have:i.toNat<(⟨⟨s⟩⟩:ByteArray).size:=Y
   rw[getElem?_pos (⟨⟨s⟩⟩:ByteArray) i.toNat this];rfl
  simp only[Instr.index,asIntOf,Sem.run_bind,Sem.run_pure,Result.andThen_ok,run_underlying G,T,if_true,hg,A2z,A2r Y,A8t]
 ·rename_i len el c org kd i G
  obtain⟨sz,hs,L⟩:=ub hh
  obtain⟨I,h2⟩:=uc L
  obtain⟨T,h3⟩:=Tj I
  rw[Rep]at hi;rw[Rep]at D;subst hi
  obtain⟨cs,rfl,hl,hc⟩:=D
  obtain⟨v,h4,h5⟩:=Vk (β:=β) (h:=h) h2 (hc.drop (i.toNat*sz))
  obtain⟨vc,h6,h7⟩:=Um h5
  exact⟨v,vc,h4,by simp[Instr.index,asIntOf,run_underlying G,T,h3,Eu hs,h6],h7⟩
 ·rename_i len el c kd i G
  obtain⟨sz,hs,L⟩:=ub hh
  obtain⟨I,h2⟩:=uc L
  obtain⟨T,h3⟩:=Tj I
  rw[Rep]at hi;rw[Rep]at D;subst hi
  obtain⟨cs,rfl,hc⟩:=D
  rw[Ck]at hc
  obtain⟨v,h4,h5⟩:=PV (J:=J) (β:=β) (h:=h) (w:=w) (rd:=fun j=>cs[i.toNat*sz+j]?) (bY h2) (fun j y hj=>by
   rw[A3z]at hj
   have:i.toNat*sz+j<cs.length:=by
    rw[hc.1];exact(A29.1 hj).1
   exact⟨cs[i.toNat*sz+j],A2r this,hc.2 _ _ _ hj (A2r this)⟩)
  obtain⟨vc,h6,h7⟩:=Um h5
  exact⟨v,vc,h4,by simp[Instr.index,asIntOf,run_underlying G,T,h3,Eu hs,h6],h7⟩
 ·simp at hh
def Wj(J:Bool->Nat->Prop)(β:Cr)(h:Ap)(w:World):Option AV->Option Value->Prop
|none,none=>True
|some x,some v=>Rep J β h w x v
|_,_=>False
def PW{o:Option AV}{vo:Option Value}{d:Nat}{i:Int}(D:bS o d=some i)(G:Wj J β h w o vo):
  (o=none/\vo=none/\i=d)\/∃ k,vo=some (.int k i):=by
 unfold bS at D
 split at D
 ·simp at D;subst D
  cases vo with
  |none=>exact .inl ⟨rfl,rfl,rfl⟩
  |some v=>simp[Wj]at G
 ·rename_i k j
  simp at D;subst D
  cases vo with
  |none=>simp[Wj]at G
  |some v=>rw[Wj,Rep]at G;subst G;exact .inr ⟨k,rfl⟩
 ·simp at D
def Uq{lo hi mx:Option AV}{vlo vhi vmx:Option Value}{n cap:Nat}{k:Nat->Nat->O R}{isSlice:Bool}(hh:Xx lo hi mx n k=some r)
  (hlo:Wj J β h w lo vlo)
  (I:Wj J β h w hi vhi)
  (L:Wj J β h w mx vmx) (hcap:n<=cap) :
  ∃ l G m,k l G=some r/\l<=G/\G<=n/\G<=m/\m<=cap/\(mx=none->m=cap)/\(∀ kd i,vmx=some (.int kd i)->(m:Int)=i)/\(∀ kd i,vhi=some (.int kd i)->(G:Int)=i)/\(hi=none->G=n) /\
   (Instr.sliceBounds isSlice n cap vlo vhi vmx).run P w=.ok (l,G,m) w:=by
 unfold Xx at hh
 obtain⟨l,h1,h2⟩:=ub hh
 obtain⟨D,h3,h4⟩:=ub h2
 obtain⟨m,h5,h6⟩:=ub h4
 obtain⟨hm,h6⟩:=Ag4 h6
 obtain⟨hc,h7⟩:=uc h6
 simp at hc hm
 obtain⟨c1,c2,c3,c4⟩:=hc
 have run:∀(kd:IntKind)(i:Int)(y:Nat)(code:BoundsCode),0<=i->i<=(y:Int)->(Instr.sliceBound (.int kd i) y code).run P w=.ok i.toNat w:=fun kd i y code a b=>by
  simp[Instr.sliceBound,asIntOf,a,b]
 have bl:=PW (J:=J) (β:=β) (h:=h) (w:=w) h1 hlo
 have bh:=PW (J:=J) (β:=β) (h:=h) (w:=w) h3 I
 have bm:=PW (J:=J) (β:=β) (h:=h) (w:=w) h5 L
 rcases bm with⟨rfl,rfl,rfl⟩|⟨km,rfl⟩
 ·refine⟨l.toNat,D.toNat,cap,h7,by omega,by omega,by omega,by omega,fun _=>rfl,by simp,?_,?_,?_⟩
  ·intro kd i T
   rcases bh with⟨_,rfl,_⟩|⟨kh,rfl⟩
   ·simp at T
   ·simp at T;omega
  ·intro Y
   rcases bh with⟨_,_,rfl⟩|⟨kh,rfl⟩
   ·simp
   ·subst Y;simp[Wj]at I
  ·rcases bh with⟨_,rfl,rfl⟩|⟨kh,rfl⟩<;>rcases bl with⟨_,rfl,rfl⟩|⟨kl,rfl⟩
   ·simp[Instr.sliceBounds]
   ·simp[Instr.sliceBounds,run _ l n _ c1 (by omega)]
   ·simp[Instr.sliceBounds,run _ D cap _ (by omega) (by omega)]
   ·simp[Instr.sliceBounds,run _ D cap _ (by omega) (by omega),run _ l D.toNat _ c1 (by omega)]
 ·rcases bh with⟨rfl,rfl,rfl⟩|⟨kh,rfl⟩
  ·have:mx.isSome=true:=by
    cases mx with
    |none=>simp[Wj]at L
    |some _=>rfl
   have:=hm this;simp at this
  ·refine⟨l.toNat,D.toNat,m.toNat,h7,by omega,by omega,by omega,by omega,?_,?_,?_,?_,?_⟩
   ·intro Y;subst Y;simp[Wj]at L
   ·intro kd i T;simp at T;omega
   ·intro kd i T;simp at T;omega
   ·intro Y;subst Y;simp[Wj]at I
   ·rcases bl with⟨_,rfl,rfl⟩|⟨kl,rfl⟩
    ·simp[Instr.sliceBounds,run _ m cap _ (by omega) (by omega),run _ D m.toNat _ (by omega) (by omega)]
    ·simp[Instr.sliceBounds,run _ m cap _ (by omega) (by omega),run _ D m.toNat _ (by omega) (by omega),run _ l D.toNat _ c1 (by omega)]
def zD {t:TypeId} {x:AV} {lo hi mx:Option AV} {vx:Value} {vlo vhi vmx:Option Value} {k:AV->O R} (S:SimH J β h w) (hl:Looks g h) (hh:gY P g t x lo hi mx k=some r)
  (hx:Rep J β h w x vx) (hlo:Wj J β h w lo vlo) (G:Wj J β h w hi vhi) (L:Wj J β h w mx vmx) :
  ∃ v vc,k v=some r/\(Instr.sliceAt t vx vlo vhi vmx).run P w=.ok vc w/\Rep J β h w v vc:=by
 unfold gY at hh
 split at hh
 ·rename_i s hu
  obtain⟨hm,h1⟩:=Ag4 hh
  have hmn:mx=none:=by cases mx<;>simp_all
  subst hmn
  have hv:vmx=none:=by cases vmx<;>simp_all[Wj]
  subst hv
  rw[Rep]at hx;subst hx
  obtain⟨l,D,m,h2,h3,h4,_,_,h5,_,_,_,h6⟩:=Uq (P:=P) (isSlice:=false) h1 hlo G (vmx:=none) (by simp[Wj]) (A2s _)
  refine⟨_,_,h2,?_,by rw[Rep]⟩
  have hs:(⟨⟨s⟩⟩:ByteArray).size=s.length:=rfl
  have he:(⟨⟨s⟩⟩:ByteArray).extract l D=⟨⟨(s.drop l).take (D - l)⟩⟩:=by
   apply ByteArray.ext
   rw[ByteArray.data_extract]
   simp
  simp[Instr.sliceAt,Instr.slice,run_underlying hu,hs,h6,he]
 ·rename_i el hu
  rw[Rep]at hx;subst hx
  obtain⟨sz,hs,hh⟩:=ub hh
  obtain⟨l,D,m,h2,h3,h4,h5,h6,_,_,_,_,h7⟩:=Uq (P:=P) (isSlice:=true) hh hlo G L (A2s _)
  have:l=0:=by omega
  have:D=0:=by omega
  have:m=0:=by omega
  subst l;subst D;subst m
  refine⟨_,.slice none 0 0,h2,?_,by rw[Rep]⟩
  simp[Instr.sliceAt,Instr.slice,run_underlying hu,h7,Eu hs]
 ·rename_i el c n sz tight org hu
  obtain⟨sz',hs,h1⟩:=ub hh
  obtain⟨he,h2⟩:=uc h1
  have he':sz'=sz:=by simp at he;exact he.symm
  subst he'
  rw[Rep,RepC]at hx
  obtain⟨hlen,A,cap,rfl,T,ht,hA⟩:=hx
  obtain⟨l,D,m,h3,h4,h5,h6,h7,h8,h9,h10,h11,h12⟩:=Uq (P:=P) (isSlice:=true) h2 hlo G L T
  refine⟨_,.slice (if m=l then A else A.map (·.add (l*sz'))) (D - l) (m - l),h3,?_,?_⟩
  ·simp[Instr.sliceAt,Instr.slice,run_underlying hu,h12,Eu hs]
  ·rw[Rep,RepC]
   refine⟨?_,_,_,rfl,by omega,?_,?_⟩
   ·simp;rw[hlen,<-Nat.sub_mul]
    exact A3h (A2x _ (by omega))
   ·intro Y
    unfold Ajs at Y
    split at Y
    ·have:=ht Y
     have:=h8 rfl
     have:=h11 rfl
     omega
    ·rename_i ka a kb b
     cases vhi with
     |none=>simp[Wj]at G
     | some u1=>cases vmx with
      |none=>simp[Wj]at L
      |some u2 =>
       rw[Wj,Rep]at G L;subst G L
       have e1:=h10 _ _ rfl
       have e2:=h9 _ _ rfl
       simp at Y
       omega
    ·simp at Y
   ·by_cases hz:D - l=0
    ·exact .inl hz
    ·right
     rcases hA with hA|⟨a,rfl,hj,hc⟩
     ·omega
     ·refine⟨a.add (l*sz'),by rw[if_neg (by omega)];rfl,by rw[Ti];exact hj,(bZ hc _).take _⟩
 ·rename_i el b off n hu
  obtain⟨sz,hs,h1⟩:=ub hh
  obtain⟨y,hy,h2⟩:=ub h1
  obtain⟨he,h3⟩:=uc h2
  obtain⟨hb,hd⟩:=Nd hl hy
  have he':sz=y.sz:=by simpa using he
  rw[Rep]at hx
  obtain⟨x,A,cap,⟨I,hmp⟩,rfl,T,hr⟩:=hx
  rw[hb]at I;simp at I;subst I
  obtain⟨l,D,m,h4,h5,h6,h7,h8,_,_,_,_,h9⟩:=Uq (P:=P) (isSlice:=true) h3 hlo G L T
  refine⟨_,.slice (if m=l then A else A.map (·.add (l*sz))) (D - l) (m - l),h4,?_,?_⟩
  ·simp[Instr.sliceAt,Instr.slice,run_underlying hu,h9,Eu hs]
  ·rw[Rep]
   refine⟨y,_,_,⟨hb,hmp⟩,rfl,by omega,?_⟩
   by_cases hz:m - l=0
   ·exact .inl hz
   ·right
    rcases hr with hr|⟨kk,o,rfl,hr⟩
    ·omega
    ·refine⟨kk,o,by rw[if_neg (by omega)];simp[Addr.add_mid,A4d],?_⟩
     rcases hr with hr|⟨r1,r2,r3⟩
     ·simp[hd]at hr
     ·refine .inr ⟨r1,?_,?_⟩
      ·have:l*sz+(m - l)*y.sz<=cap*y.sz:=by
        rw[he',<-A23];exact A2x _ (by omega)
       omega
      ·have:l*sz+(D - l)*y.sz<=n*y.sz:=by
        rw[he',<-A23];exact A2x _ (by omega)
       omega
 ·rename_i n el b off hu
  obtain⟨sz,hs,h1⟩:=ub hh
  obtain⟨y,hy,h2⟩:=ub h1
  obtain⟨he,h3⟩:=uc h2
  simp at he
  obtain⟨e1,e2,e3,e4,e5⟩:=he
  subst e3;subst e4;subst e5
  obtain⟨hb,hd⟩:=Nd hl hy
  have nlo:vlo=none:=by cases vlo<;>simp_all[Wj]
  have nhi:vhi=none:=by cases vhi<;>simp_all[Wj]
  have nmx:vmx=none:=by cases vmx<;>simp_all[Wj]
  subst nlo;subst nhi;subst nmx
  rw[Rep]at hx
  obtain⟨x,kk,o,⟨I,hmp⟩,rfl,hr⟩:=hx
  rw[hb]at I;simp at I;subst I
  refine⟨_,.slice (some ⟨kk,o+off,none⟩) n n,h3,?_,?_⟩
  ·have e1:(Addr.add ⟨kk,o+off,none⟩ 0)=⟨kk,o+off,none⟩:=rfl
   simp[Instr.sliceAt,Instr.sureAddr,run_underlying hu,Instr.sliceBounds,Eu hs,e1]
  ·rw[Rep]
   refine⟨y,_,_,⟨hb,hmp⟩,rfl,A2s _,.inr ⟨kk,o,rfl,?_⟩⟩
   rcases hr with hr|hr
   ·exact .inl hr
   ·rcases S.blk b y hb hd hmp with⟨hn',_⟩|⟨k',o',cs,ty',fr,hβ',g1,g2,g3,_⟩
    ·rw[hr]at hn';simp at hn'
    ·rw[hr]at hβ';simp at hβ';obtain⟨rfl,rfl⟩:=hβ'
     refine .inr ⟨hr,?_,?_⟩
     ·rw[e1,show Ba w kk=cs.size by simp[Ba,g1]];omega
     ·rw[e1];omega
 ·simp at hh
def Ag5{t:TypeId}{x v:AV}{vx:Value}{ty:TypeId}(hh:Avn P t x=some v)(D:Rep J β h w x vx):
  ∃ vc,(Builtin.len_ #[t] ty #[vx]).run P w=.ok vc w/\Rep J β h w v vc:=by
 unfold Avn at hh
 split at hh
 ·rename_i k
  simp at hh;subst hh;rw[Rep]at D;subst D
  exact⟨.int .i64 0,by simp[Builtin.len_,run_underlying k,goInt],by rw[Rep]⟩
 ·rename_i n _ _ _ k
  simp at hh;subst hh;rw[Rep,RepC]at D
  obtain⟨_,A,cap,rfl,_⟩:=D
  exact⟨.int .i64 n,by simp[Builtin.len_,run_underlying k,goInt],by rw[Rep]⟩
 ·rename_i n k
  simp at hh;subst hh;rw[Rep]at D
  obtain⟨_,A,cap,_,rfl,_⟩:=D
  exact⟨.int .i64 n,by simp[Builtin.len_,run_underlying k,goInt],by rw[Rep]⟩
 ·rename_i s k
  simp at hh;subst hh;rw[Rep]at D;subst D
  refine⟨.int .i64 s.length,?_,by rw[Rep]⟩
  have hs:(⟨⟨s⟩⟩:ByteArray).size=s.length:=rfl
  simp[Builtin.len_,run_underlying k,goInt,hs]
 ·rename_i n _ k
  simp at hh;subst hh
  exact⟨.int .i64 n,by simp[Builtin.len_,run_underlying k,goInt],by rw[Rep]⟩
 ·simp at hh
def qH{J:Nat->Prop}:∀{x:AV}{u:Value},RepC J w x u->u.oneCell'=true
|.int ..,_,hr=>by rw[RepC]at hr;subst hr;rfl
|.bool _,_,hr=>by rw[RepC]at hr;subst hr;rfl
|.str _,_,hr=>by rw[RepC]at hr;subst hr;rfl
|.nsl,_,hr=>by rw[RepC]at hr;subst hr;rfl
|.imm ..,_,hr=>by rw[RepC]at hr;obtain⟨_,A,cap,rfl,_⟩:=hr;rfl
|.iptr ..,_,hr=>by rw[RepC]at hr;obtain⟨a,rfl,_⟩:=hr;rfl
|.nilptr,_,hr=>by rw[RepC]at hr;subst hr;rfl
|.nilfn,_,hr=>by rw[RepC]at hr;subst hr;rfl
|.fn _ [],_,hr=>by rw[RepC]at hr;subst hr;rfl
|.fn _ (_::_),_,hr=>by simp[RepC]at hr
|.pagg ..,_,hr=>by simp[RepC]at hr
|.agg _,_,hr=>by simp[RepC]at hr
|.tup _,_,hr=>by simp[RepC]at hr
|.own ..,_,hr=>by simp[RepC]at hr
|.optr ..,_,hr=>by simp[RepC]at hr
|.undef,_,hr=>by simp[RepC]at hr
|.omap _,_,hr=>by simp[RepC]at hr
def RepCs.one{J:Nat->Prop}{c:LA}{us:List Value}(hc:RepCs J w c (fun j=>us[j]?) 0)(L:us.length=c.length):∀ u∈us,u.oneCell'=true:=by
 intro u G
 obtain⟨j,I,rfl⟩:=A9j G
 have D:j<c.length:=by omega
 obtain⟨T,k,hr⟩:=hc.at (A2r D)
 simp[A2r I]at k
 rw[k];exact qH hr
structure Yield(P:Program)(w:World)(sz:Nat)(vx:Value)(n:Nat)(us:List Value):Prop where
 len:∀ w':World,(Builtin.lenOf vx).run P w'=.ok n w'
 cells:∀(w':World)(m:Nat),(∀ a,w'.cell? a=w.cell? a)->m<=n->(Builtin.firstCells sz m vx).run P w'=.ok (us.take (m*sz)).toArray w'
 length:us.length=n*sz
def Acd{sz:Nat}{x:AV}{vx:Value}{q:LA×Nat×Bool}(S:SimH J β h w)(hl:Looks g h)(hh:Ajt g sz x=some q)(I:Rep J β h w x vx):
  ∃ us:List Value,Yield P w sz vx q.2.1 us/\q.1.length=us.length/\RepCs (J q.2.2) w q.1 (fun j=>us[j]?) 0:=by
 have ofSlice:∀(a:Addr)(n cap:Nat)(us:List Value),us.length=n*sz->(∀ j u,us[j]?=some u->w.cell? (a.add j)=some u)->Yield P w sz (.slice (some a) n cap) n us:=fun a n cap us D hu =>
  ⟨fun _=>rfl,fun w' m G hm=>by
   have hle:m*sz<=n*sz:=A2x _ hm
   refine run_firstCells_some (P:=P) w' sz m a n cap (us.take (m*sz)) (by simp;omega) (fun j v hv=>?_)
   rw[G]
   rw[A47]at hv
   split at hv
   ·exact hu j v hv
   ·simp at hv,D⟩
 have ofEmpty:∀(A:Option Addr)(cap:Nat),Yield P w sz (.slice A 0 cap) 0 []:=fun A cap =>
  ⟨fun _=>rfl,fun w' m G hm=>by
   have:m=0:=by omega
   subst this
   cases A with
   |none=>simp[run_firstCells_none]
   | some a=>have:=run_firstCells_some (P:=P) w' sz 0 a 0 cap [] (by simp) (fun j v hv=>by simp at hv);simpa using this,by simp⟩
 unfold Ajt at hh
 split at hh
 ·simp at hh;subst hh;rw[Rep]at I;subst I
  exact⟨[],ofEmpty _ _,rfl,by simp[RepCs]⟩
 ·rename_i c n sz' tight org
  obtain⟨G,T⟩:=uc hh
  have he':sz'=sz:=by simp at G;exact G.symm
  subst he'
  simp at T;subst T
  rw[Rep,RepC]at I
  obtain⟨D,A,cap,rfl,hcap,ht,hA⟩:=I
  rcases hA with rfl|⟨a,rfl,hj,hc⟩
  ·have:c=[]:=by simpa using D
   subst this
   exact⟨[],ofEmpty _ _,rfl,by simp[RepCs]⟩
  ·obtain⟨us,L,h3,h4⟩:=hc.list
   exact⟨us,ofSlice a n cap us (by rw[L,D]) h3,L.symm,h4⟩
 ·rename_i b off n
  obtain⟨y,hy,T⟩:=ub hh
  obtain⟨G,L⟩:=uc T
  obtain⟨hb,hd⟩:=Nd hl hy
  simp at G L
  obtain⟨hp,G⟩:=G
  subst L;subst G
  rw[Rep]at I
  obtain⟨x,A,cap,⟨Y,hmp⟩,rfl,hcap,hr⟩:=I
  rw[hb]at Y;simp at Y;subst Y
  rcases hr with hr|⟨kk,o,rfl,hr⟩
  ·have:n=0:=by omega
   subst this
   exact⟨[],ofEmpty _ _,by simp,by simp[RepCs]⟩
  ·rcases hr with hr|⟨r1,r2,r3⟩
   ·simp[hd]at hr
   ·rcases S.blk b y hb hd hmp with⟨hn,_⟩|⟨k',o',cs,ty,fr,hβ',g1,g2,g3,g4,g5,g6⟩
    ·rw[r1]at hn;simp at hn
    ·rw[r1]at hβ';simp at hβ';obtain⟨rfl,rfl⟩:=hβ'
     obtain⟨us,L,h3,h4⟩:=(((g4.1 hp).drop off).take (n*y.sz)).list
     have D:us.length=n*y.sz:=by rw[L];simp;omega
     refine⟨us,ofSlice _ n cap us D (fun j u hj=>?_),L.symm,h4⟩
     have:=h3 j u hj
     rw[Addr.add_mid,Oy g1,A4d];exact this
 ·rename_i s
  obtain⟨G,T⟩:=uc hh
  simp at G T
  subst G;subst T
  rw[Rep]at I;subst I
  refine⟨s.map fun b=>.int .u8 (b.toNat:Int),⟨fun _=>rfl,fun w' m _ hm=>?_,by simp⟩,by simp,?_⟩
  ·simp[Builtin.firstCells]
  ·rw[Cm]
   intro j x hj
   simp at hj
   obtain⟨b,hb,rfl⟩:=hj
   exact⟨_,by simp[hb];rfl,by rw[RepC]⟩
 ·simp at hh
def b9{I:TypeId}{sz:Nat}{x:AV}{vx:Value}{k:LA×Nat×Bool->O R}(S:SimH J β h w)(L:Looks g h)(hh:gZ P I g sz x k=some r)(T:Rep J β h w x vx):
  ∃(q:LA×Nat×Bool)(us:List Value),k q=some r/\Yield P w sz vx q.2.1 us/\q.1.length=us.length/\RepCs (J q.2.2) w q.1 (fun j=>us[j]?) 0:=by
 unfold gZ at hh
 obtain⟨q,hq,h1⟩:=ub hh
 obtain⟨us,Y,D,G⟩:=Acd (P:=P) S L hq T
 obtain⟨o,h2,h3⟩:=WO h1 G
 exact⟨_,us,h2,Y,D,h3⟩
end
end Gx
namespace Gx
open Go
def PX{a b:Nat}(h:a≠b):beq a b=false:=by
 cases k:beq a b with
|false=>rfl
|true=>exact absurd (A26 k) h
def W1{a b:Nat}(h:beq a b=false):a≠b:=fun e=>by subst e;rw[A9v]at h;cases h
def Ah:∀(h:Ap)(b:Nat)(y:Blk)(c:Nat),Ai (Hr h b y) c=if c=b then some y else Ai h c
| [],b,y,c=>by
  by_cases e:c=b
  ·subst e;simp[Hr,Ai]
  ·have:beq b c=false:=PX (fun e'=>e e'.symm)
   simp[Hr,Ai,e,this]
| (i,x)::r,b,y,c=>by
  rw[Hr]
  cases G:beq i b with
  | true =>
   have k:i=b:=by simpa using G
   subst k
   by_cases e:c=i
   ·subst e;simp[Ai]
   ·have:beq i c=false:=PX (fun e'=>e e'.symm)
    simp[Ai,e,this]
  | false =>
   have k:i≠b:=W1 G
   cases L:Nat.blt b i with
   | true =>
    by_cases e:c=b
    ·subst e;simp[Ai]
    ·have:beq b c=false:=PX (fun e'=>e e'.symm)
     simp[Ai,e,this]
   | false =>
    simp only[cond_false]
    rw[Ai]
    cases I:beq i c with
    |true =>
     have D:i=c:=by simpa using I
     subst D
     simp[Ai,k]
    |false=>simp[Ai,I,Ah r b y c]
def K7:∀(h:Gv)(b:Nat)(y:AV)(c:Nat),Fu (PO h b y) c=if c=b then y else Fu h c
| [],b,y,c=>by
  by_cases e:c=b
  ·subst e;simp[PO,Fu]
  ·have:beq b c=false:=PX (fun e'=>e e'.symm)
   simp[PO,Fu,e,this]
| (i,x)::r,b,y,c=>by
  rw[PO]
  cases G:beq i b with
  | true =>
   have k:i=b:=by simpa using G
   subst k
   by_cases e:c=i
   ·subst e;simp[Fu]
   ·have:beq i c=false:=PX (fun e'=>e e'.symm)
    simp[Fu,e,this]
  | false =>
   have k:i≠b:=W1 G
   cases L:Nat.blt b i with
   | true =>
    by_cases e:c=b
    ·subst e;simp[Fu]
    ·have:beq b c=false:=PX (fun e'=>e e'.symm)
     simp[Fu,e,this]
   | false =>
    simp only[cond_false]
    rw[Fu]
    cases I:beq i c with
    |true =>
     have D:i=c:=by simpa using I
     subst D
     simp[Fu,k]
    |false=>simp[Fu,I,K7 r b y c]
def Ace(β:Cr)(h:Ap)(k:Nat):Prop:=∃ b x o,Ai h b=some x/\x.dead=false/\x.sealed=false/\β b=some (k,o)
structure Step(J:Bool->Nat->Prop)(β:Cr)(h:Ap)(w:World)(J':Bool->Nat->Prop)(β':Cr)(h':Ap)(w':World):Prop where
 ext:Ext J β h w J' β' h' w'
 sim:SimH J' β' h' w'
 os:w'.os=w.os
 tape:w'.tape=w.tape
 output:w'.output=w.output
 size:w.heap.size<=w'.heap.size
 frame:∀ k,k<w.heap.size->¬ Ace β h k->w'.heap[k]?=w.heap[k]?
 wr:∀ k,Ace β' h' k->k<w.heap.size->Ace β h k
 jup:∀ o k,J' o k->J o k\/Ace β h k\/w.heap.size<=k
section
variable{J J' J'':Bool->Nat->Prop}{β β' β'':Cr}{h h' h'':Ap}{w w' w'':World}
def Ext.refl:Ext J β h w J β h w:=⟨fun _ _ k=>k,fun _ _ _=>rfl,fun b x D=>⟨x,⟨D,rfl⟩,by cases G:x.dead<;>simp⟩,fun _ _ _ _=>A2s _⟩
def Ext.trans(A:Ext J β h w J' β' h' w')(B:Ext J' β' h' w' J'' β'' h'' w'')(hs:∀ b k o,β b=some (k,o)->Ba w k<=Ba w'' k):Ext J β h w J'' β'' h'' w'' where
 jsub o k G:=B.jsub o k (A.jsub o k G)
 keep o k G:=(B.keep o k (A.jsub o k G)).trans (A.keep o k G)
 blk b x T:=by
  obtain⟨x',⟨Y,m1⟩,I⟩:=A.blk b x T
  obtain⟨x'',⟨h3,m3⟩,D⟩:=B.blk b x' Y
  refine⟨x'',⟨h3,m3.trans m1⟩,?_⟩
  rcases D with D|⟨D,h5,h6,h7⟩
  ·exact .inl D
  ·rcases I with I|⟨g1,g2,g3,g4⟩
   ·simp[D]at I
   ·exact .inr ⟨g1,h5.trans g2,h6.trans g3,fun L=>(h7 (m1.trans L)).trans (g4 L)⟩
 size:=hs
def Step.refl(S:SimH J β h w):Step J β h w J β h w:=⟨Ext.refl,S,rfl,rfl,rfl,A2s _,fun _ _ _=>rfl,fun _ k _=>k,fun _ _ D=>.inl D⟩
def Step.trans(A:Step J β h w J' β' h' w')(B:Step J' β' h' w' J'' β'' h'' w'')(hs:∀ b k o,β b=some (k,o)->Ba w k<=Ba w'' k):Step J β h w J'' β'' h'' w'' where
 ext:=A.ext.trans B.ext hs
 sim:=B.sim
 os:=B.os.trans A.os
 tape:=B.tape.trans A.tape
 output:=B.output.trans A.output
 size:=A4f A.size B.size
 frame k D I:=(B.frame k (A3e D A.size) (fun L=>I (A.wr k L D))).trans (A.frame k D I)
 wr k I D:=A.wr k (B.wr k I (A3e D A.size)) D
 jup o k T:=by
  rcases B.jup o k T with G|G|G
  ·exact A.jup o k G
  ·by_cases D:k<w.heap.size
   ·exact .inr (.inl (A.wr k G D))
   ·exact .inr (.inr (by omega))
  ·exact .inr (.inr (A4f A.size G))
def CellsRep.ext(E:Ext J β h w J' β' h' w'){x:Blk}{rd:Nat->Option Value}(hc:CellsRep J β h w x rd):CellsRep J' β' h' w' x rd :=
 ⟨fun k=>RepCs.keep (E.jsub _) (E.keep _) (fun _=>rfl) (hc.1 k),fun k j c D=>by
  obtain⟨u,G,I,L⟩:=hc.2 k j c D
  exact⟨u,G,Rep.ext E I,L⟩⟩
def G0{k:Nat}{cs:Array Value}{ty:TypeId}{fr:Nat×Nat}(D:w.heap[k]?=some (.cells cs ty fr)):Ba w k=cs.size:=by simp[Ba,D]
def UC{k:Nat}{o:Obj}(I:w.heap[k]?=some o):k<w.heap.size:=by
 rcases A78 k w.heap.size with D|G
 ·exact D
 ·rw[A4z G]at I;cases I
def MapRep.keep{b:Nat}{x:Blk}(M:MapRep J β w b x)(G:β' b=β b)(I:∀ k o,β b=some (k,o)->w'.heap[k]?=w.heap[k]?)(L:∀ g k o,β b=some (k,o)->J' g k->J g k):MapRep J' β' w' b x:=by
 obtain⟨T,Y,k,ob,D,h4,h5,h6⟩:=M
 exact⟨T,Y,k,ob,by rw[G];exact D,by rw[I k 0 D];exact h4,h5,fun g hg=>h6 g (L g k 0 D hg)⟩
def Step.drew(S:SimH J β h w):Step J β h w J β h w.drew where
 ext:=⟨fun _ _ D=>D,fun _ _ _=>rfl,fun b x G=>⟨x,⟨G,rfl⟩,by cases I:x.dead<;>simp⟩,fun _ _ _ _=>A2s _⟩
 sim:=by
  have E:Ext J β h w J β h w.drew:=⟨fun _ _ D=>D,fun _ _ _=>rfl,fun b x G=>⟨x,⟨G,rfl⟩,by cases I:x.dead<;>simp⟩,fun _ _ _ _=>A2s _⟩
  refine⟨S.jlt,S.jft,S.gl.ext E,fun b x G I L=>?_,fun b x G I L=>(S.mblk b x G I L).keep rfl (fun _ _ _=>rfl) (fun _ _ _ _ D=>D),S.sep⟩
  rcases S.blk b x G I L with T|⟨k,o,cs,ty,fr,T,Y,h3,h4,h5,h6⟩
  ·exact .inl T
  ·exact .inr ⟨k,o,cs,ty,fr,T,Y,h3,h4,h5.ext E,h6⟩
 os:=rfl
 tape:=rfl
 output:=rfl
 size:=A2s _
 frame _ _ _:=rfl
 wr _ L _:=L
 jup _ _ D:=.inl D
def K8(w:World)(o:Obj){k:Nat}(D:k<w.heap.size):(w.alloc o).heap[k]?=w.heap[k]?:=by
 show(w.heap.push o)[k]?=_
 rw[Array.getElem?_push,if_neg (by omega)]
def E'(S:SimH J β h w){b:Nat}{x:Blk}{k o:Nat}(L:Ai h b=some x)(T:x.dead=false)(G:β b=some (k,o)):k<w.heap.size:=by
 cases Y:x.mp with
|false =>
  rcases S.blk b x L T Y with⟨hn,_⟩|⟨k',o',cs,ty,fr,D,I,_⟩
  ·rw[G]at hn;simp at hn
  ·rw[G]at D;simp at D;obtain⟨rfl,rfl⟩:=D;exact UC I
|true =>
  obtain⟨_,_,k',ob,D,I,_⟩:=S.mblk b x L T Y
  rw[G]at D;simp at D;obtain⟨rfl,_⟩:=D;exact UC I
def Step.new(S:SimH J β h w){d:Nat}{x:Blk}{cs:Array Value}{ty:TypeId}{fr:Nat×Nat}(hn:Ai h d=none)(hxd:x.dead=false)(hxs:x.sealed=false)
  (hfr:FrTy x.ty ty 0 cs.size fr) (hlen:x.cells.length<=cs.size) (hc:CellsRep J β h w x (fun j=>cs[j]?)) (hxm:x.mp=false:=by rfl) :
  Step J β h w J (fun b=>if b=d then some (w.heap.size,0)else β b) (Hr h d x) (w.alloc (.cells cs ty fr)):=by
 have ne:∀{b y},Ai h b=some y->b≠d:=fun D e=>by subst e;rw[hn]at D;cases D
 have E:Ext J β h w J (fun b=>if b=d then some (w.heap.size,0)else β b) (Hr h d x) (w.alloc (.cells cs ty fr)):=by
  refine⟨fun _ _ I=>I,fun o k I=>K8 w _ (S.jlt o k I),fun b y D=>⟨y,⟨by rw[Ah,if_neg (ne D)];exact D,rfl⟩,?_⟩,fun b k o G=>?_⟩
  ·cases Y:y.dead
   ·exact .inr ⟨rfl,by simp[ne D],rfl,fun _=>rfl⟩
   ·exact .inl rfl
  ·by_cases hk:k<w.heap.size
   ·simp[Ba,K8 w _ hk]
   ·simp[Ba,A4z (A5k hk)]
 have hnew:(w.alloc (.cells cs ty fr)).heap[w.heap.size]?=some (.cells cs ty fr):=by
  show(w.heap.push _)[_]?=_;simp
 have hsz:(w.alloc (.cells cs ty fr)).heap.size=w.heap.size+1:=by show(w.heap.push _).size=_;simp
 refine⟨E,⟨fun o k I=>by have:=S.jlt o k I;omega,S.jft,S.gl.ext E,fun b y D Y hm=>?_,fun b y D Y hm=>by
   rw[Ah]at D
   by_cases e:b=d
   ·rw[if_pos e]at D;simp at D;subst D;simp[hxm]at hm
   ·rw[if_neg e]at D
    exact(S.mblk b y D Y hm).keep (by simp[e]) (fun k o G=>K8 w _ (E' S D Y G)) (fun _ _ _ _ I=>I),?_⟩,rfl,rfl,rfl,by omega,fun k hk _=>K8 w _ hk,?_,fun _ _ I=>.inl I⟩
 ·rw[Ah]at D
  by_cases e:b=d
  ·subst e;simp at D;subst D
   exact .inr ⟨w.heap.size,0,cs,ty,fr,by simp,hnew,hfr,by omega,by simpa using hc.ext E,fun _ g I=>by have:=S.jlt g _ I;omega,fun hs=>by simp[hxs]at hs⟩
  ·rw[if_neg e]at D
   rcases S.blk b y D Y hm with h1|⟨k,o,cs',ty',fr',h1,h2,h3,h4,h5,h6⟩
   ·exact .inl ⟨by simp[e,h1.1],h1.2⟩
   ·exact .inr ⟨k,o,cs',ty',fr',by simp[e,h1],by rw[K8 w _ (UC h2)];exact h2,h3,h4,h5.ext E,h6⟩
 ·intro b b' y y' k o o' D L Y hd' hs G T
  rw[Ah]at D L
  by_cases e:b=d<;>by_cases e':b'=d
  ·rw[e,e']
  ·rw[if_neg e']at L
   simp[e]at G;simp[e']at T
   have:=E' S L hd' T;omega
  ·rw[if_neg e]at D
   simp[e']at T;simp[e]at G
   have:=E' S D Y G;omega
  ·rw[if_neg e]at D;rw[if_neg e']at L
   simp[e]at G;simp[e']at T
   exact S.sep b b' y y' k o o' D L Y hd' hs G T
 ·rintro k ⟨b,y,o,D,Y,hs,G⟩ hk
  rw[Ah]at D
  by_cases e:b=d
  ·simp[e]at G;omega
  ·rw[if_neg e]at D;simp[e]at G
   exact⟨b,y,o,D,Y,hs,G⟩
def Step.newNone(S:SimH J β h w){d:Nat}{x:Blk}(hn:Ai h d=none)(hc:x.cells=[])(hxm:x.mp=false:=by rfl):
  Step J β h w J (fun b=>if b=d then none else β b) (Hr h d x) w:=by
 have ne:∀{b y},Ai h b=some y->b≠d:=fun D e=>by subst e;rw[hn]at D;cases D
 have E:Ext J β h w J (fun b=>if b=d then none else β b) (Hr h d x) w:=by
  refine⟨fun _ _ Y=>Y,fun o k Y=>rfl,fun b y D=>⟨y,⟨by rw[Ah,if_neg (ne D)];exact D,rfl⟩,?_⟩,fun b k o G=>A2s _⟩
  cases I:y.dead
  ·exact .inr ⟨rfl,by simp[ne D],rfl,fun _=>rfl⟩
  ·exact .inl rfl
 refine⟨E,⟨S.jlt,S.jft,S.gl.ext E,fun b y D I hm=>?_,fun b y D I hm=>by
   rw[Ah]at D
   by_cases e:b=d
   ·rw[if_pos e]at D;simp at D;subst D;simp[hxm]at hm
   ·rw[if_neg e]at D
    exact(S.mblk b y D I hm).keep (by simp[e]) (fun k o G=>rfl) (fun _ _ _ _ Y=>Y),?_⟩,rfl,rfl,rfl,A2s _,fun k hk _=>rfl,?_,fun _ _ Y=>.inl Y⟩
 ·rw[Ah]at D
  by_cases e:b=d
  ·subst e;simp at D;subst D
   exact .inl ⟨by simp,hc⟩
  ·rw[if_neg e]at D
   rcases S.blk b y D I hm with h1|⟨k,o,cs',ty',fr',h1,h2,h3,h4,h5,h6⟩
   ·exact .inl ⟨by simp[e,h1.1],h1.2⟩
   ·exact .inr ⟨k,o,cs',ty',fr',by simp[e,h1],h2,h3,h4,h5.ext E,h6⟩
 ·intro b b' y y' k o o' D L I hd' hs G T
  rw[Ah]at D L
  by_cases e:b=d
  ·simp[e]at G
  ·by_cases e':b'=d
   ·simp[e']at T
   ·rw[if_neg e]at D;rw[if_neg e']at L
    simp[e]at G;simp[e']at T
    exact S.sep b b' y y' k o o' D L I hd' hs G T
 ·rintro k ⟨b,y,o,D,I,hs,G⟩ hk
  rw[Ah]at D
  by_cases e:b=d
  ·simp[e]at G
  ·rw[if_neg e]at D;simp[e]at G
   exact⟨b,y,o,D,I,hs,G⟩
def Step.kill(S:SimH J β h w){d:Nat}{x y:Blk}(hx:Ai h d=some x)(L:y.dead=true)(hym:y.mp=x.mp:=by rfl):Step J β h w J β (Hr h d y) w:=by
 have E:Ext J β h w J β (Hr h d y) w:=by
  refine⟨fun _ _ T=>T,fun o k T=>rfl,fun b z D=>?_,fun b k o Y=>A2s _⟩
  by_cases e:b=d
  ·subst e;rw[hx]at D;simp at D;subst D;exact⟨y,⟨by rw[Ah,if_pos rfl],hym⟩,.inl L⟩
  ·refine⟨z,⟨by rw[Ah,if_neg e];exact D,rfl⟩,?_⟩
   cases I:z.dead
   ·exact .inr ⟨rfl,rfl,rfl,fun _=>rfl⟩
   ·exact .inl rfl
 refine⟨E,⟨S.jlt,S.jft,S.gl.ext E,fun b z D I hm=>?_,fun b z D I hm=>by
   rw[Ah]at D
   by_cases e:b=d
   ·rw[if_pos e]at D;simp at D;subst D;simp[L]at I
   ·rw[if_neg e]at D
    exact(S.mblk b z D I hm).keep rfl (fun k o Y=>rfl) (fun _ _ _ _ T=>T),?_⟩,rfl,rfl,rfl,A2s _,fun k hk _=>rfl,?_,fun _ _ T=>.inl T⟩
 ·rw[Ah]at D
  by_cases e:b=d
  ·rw[if_pos e]at D;simp at D;subst D;simp[L]at I
  ·rw[if_neg e]at D
   rcases S.blk b z D I hm with h1|⟨k,o,cs',ty',fr',h1,h2,h3,h4,h5,h6⟩
   ·exact .inl h1
   ·exact .inr ⟨k,o,cs',ty',fr',h1,h2,h3,h4,h5.ext E,h6⟩
 ·intro b b' z z' k o o' D G I hd' hs Y hβ'
  rw[Ah]at D G
  by_cases e:b=d
  ·rw[if_pos e]at D;simp at D;subst D;simp[L]at I
  ·by_cases e':b'=d
   ·rw[if_pos e']at G;simp at G;subst G;simp[L]at hd'
   ·rw[if_neg e]at D;rw[if_neg e']at G
    exact S.sep b b' z z' k o o' D G I hd' hs Y hβ'
 ·rintro k ⟨b,z,o,D,I,hs,Y⟩ hk
  rw[Ah]at D
  by_cases e:b=d
  ·rw[if_pos e]at D;simp at D;subst D;simp[L]at I
  ·rw[if_neg e]at D
   exact⟨b,z,o,D,I,hs,Y⟩
end
end Gx
namespace Gx
open Go
section
variable{J J' J'':Bool->Nat->Prop}{β β' β'':Cr}{h h' h'':Ap}{w w' w'':World}
def Step.shutB(S:SimH J β h w){d:Nat}{x:Blk}(hx:Ai h d=some x)(Y:x.dead=false)(hxm:x.mp=false):
  Step J β h w (fun o k=>J o k\/∃ o',β d=some (k,o')/\(x.taint=true->o=true)) β (Hr h d {x with sealed:=true}) w:=by
 have E:Ext J β h w (fun o k=>J o k\/∃ o',β d=some (k,o')/\(x.taint=true->o=true)) β (Hr h d {x with sealed:=true}) w:=by
  refine⟨fun _ _ I=>.inl I,fun o k I=>rfl,fun b z D=>?_,fun b k o G=>A2s _⟩
  by_cases e:b=d
  ·subst e;rw[hx]at D;simp at D;subst D
   exact⟨{x with sealed:=true},⟨by rw[Ah,if_pos rfl],rfl⟩,.inr ⟨Y,rfl,rfl,fun _=>rfl⟩⟩
  ·refine⟨z,⟨by rw[Ah,if_neg e];exact D,rfl⟩,?_⟩
   cases Y:z.dead
   ·exact .inr ⟨rfl,rfl,rfl,fun _=>rfl⟩
   ·exact .inl rfl
 refine⟨E,⟨?_,?_,S.gl.ext E,fun b z D T hm=>?_,fun b z D T hm=>by
   rw[Ah]at D
   by_cases e:b=d
   ·rw[if_pos e]at D;simp at D;subst D;simp[hxm]at hm
   ·rw[if_neg e]at D
    have M:=S.mblk b z D T hm
    refine M.keep rfl (fun k o G=>rfl) (fun g k o G I=>?_)
    rcases I with I|⟨o',hβ',_⟩
    ·exact I
    ·exact absurd (S.sep b d z x k o o' D hx T Y M.2.1 G hβ') e,?_⟩,rfl,rfl,rfl,A2s _,fun k hk _=>rfl,?_,?_⟩
 ·rintro o k (I|⟨o',G,_⟩)
  ·exact S.jlt o k I
  ·exact E' S hx Y G
 ·rintro k (I|⟨o',G,ht⟩)
  ·exact .inl (S.jft k I)
  ·exact .inr ⟨o',G,fun _=>rfl⟩
 ·rw[Ah]at D
  by_cases e:b=d
  ·rw[if_pos e]at D;simp at D;subst D;subst e
   rcases S.blk b x hx Y hxm with L|⟨k,o,cs',ty',fr',L,h2,h3,h4,h5,h6,h7⟩
   ·exact .inl L
   ·exact .inr ⟨k,o,cs',ty',fr',L,h2,h3,h4,h5.ext E,fun hs=>by simp at hs,fun _=>.inr ⟨o,L,id⟩⟩
  ·rw[if_neg e]at D
   rcases S.blk b z D T hm with L|⟨k,o,cs',ty',fr',L,h2,h3,h4,h5,h6,h7⟩
   ·exact .inl L
   ·refine .inr ⟨k,o,cs',ty',fr',L,h2,h3,h4,h5.ext E,fun hs g I=>?_,fun hs=>.inl (h7 hs)⟩
    rcases I with I|⟨o',G,_⟩
    ·exact h6 hs g I
    ·exact e (S.sep b d z x k o o' D hx T Y hs L G)
 ·intro b b' z z' k o o' D hb' hd1 hd2 hs G hβ'
  have get:∀{c y},Ai (Hr h d {x with sealed:=true}) c=some y->y.dead=false->∃ y',Ai h c=some y'/\y'.dead=false/\(y.sealed=false->y'.sealed=false):=by
   intro c y hc hyd
   rw[Ah]at hc
   by_cases e:c=d
   ·subst e;exact⟨x,hx,Y,fun hs=>by simp at hc;subst hc;simp at hs⟩
   ·rw[if_neg e]at hc;exact⟨y,hc,hyd,id⟩
  obtain⟨y1,g1,g2,g3⟩:=get D hd1
  obtain⟨y2,g4,g5,g6⟩:=get hb' hd2
  exact S.sep b b' y1 y2 k o o' g1 g4 g2 g5 (g3 hs) G hβ'
 ·rintro k ⟨b,z,o,D,T,hs,G⟩ hk
  rw[Ah]at D
  by_cases e:b=d
  ·rw[if_pos e]at D;simp at D;subst D;simp at hs
  ·rw[if_neg e]at D
   exact⟨b,z,o,D,T,hs,G⟩
 ·rintro o k (I|⟨o',G,ht⟩)
  ·exact .inl I
  ·cases hs:x.sealed with
   |false=>exact .inr (.inl ⟨d,x,o',hx,Y,hs,G⟩)
   | true =>
    left
    rcases S.blk d x hx Y hxm with⟨L,_⟩|⟨k',o1,cs',ty',fr',L,h2,h3,h4,h5,h6,h7⟩
    ·rw[G]at L;simp at L
    ·rw[G]at L;simp at L;obtain⟨rfl,rfl⟩:=L
     have:=h7 hs
     cases htt:x.taint with
     |true=>rw[htt]at this;rw[ht htt];exact this
     |false =>
      rw[htt]at this
      cases o
      ·exact this
      ·exact S.jft _ this
structure OnlyBlk(w w':World)(k:Nat)(cs cs':Array Value)(ty:TypeId)(fr:Nat×Nat):Prop where
 old:w.heap[k]?=some (.cells cs ty fr)
 new:w'.heap[k]?=some (.cells cs' ty fr)
 sz:cs'.size=cs.size
 other:∀ j,j≠k->w'.heap[j]?=w.heap[j]?
 size:w'.heap.size=w.heap.size
 os:w'.os=w.os
 tape:w'.tape=w.tape
 output:w'.output=w.output
def OnlyBlk.setCell{k i:Nat}{cs:Array Value}{ty:TypeId}{fr:Nat×Nat}(D:w.heap[k]?=some (.cells cs ty fr))(u:Value):
  OnlyBlk w (w.setCell ⟨k,i,none⟩ u) k cs (cs.setIfInBounds i u) ty fr:=by
 refine⟨D,?_,by simp,fun j G=>?_,by simp[World.setCell],rfl,rfl,rfl⟩
 ·simp[World.setCell,A6i,D]
 ·simp only[World.setCell,A6i];rw[if_neg (fun e=>G e.symm)]
def OnlyBlk.setCells{k:Nat}{ty:TypeId}{fr:Nat×Nat}:∀(us:List Value)(i:Nat)(w:World)(cs:Array Value),w.heap[k]?=some (.cells cs ty fr) ->
  ∃ D,OnlyBlk w (w.setCells k i us) k cs D ty fr/\∀ j,D[j]?=if i<=j/\j<i+us.length/\j<cs.size then us[j - i]? else cs[j]?
|[],i,w,cs,G=>⟨cs,⟨G,G,rfl,fun _ _=>rfl,rfl,rfl,rfl,rfl⟩,fun j=>by rw[if_neg (by simp;omega)]⟩
| u::us,i,w,cs,G=>by
  have A:=OnlyBlk.setCell (i:=i) G u
  obtain⟨D,B,hB⟩:=OnlyBlk.setCells us (i+1) (w.setCell ⟨k,i,none⟩ u) _ A.new
  refine⟨D,⟨G,B.new,B.sz.trans A.sz,fun j I=>(B.other j I).trans (A.other j I),B.size.trans A.size,B.os.trans A.os,B.tape.trans A.tape,B.output.trans A.output⟩,fun j=>?_⟩
  rw[hB j]
  simp only[A8k,A3a]
  by_cases I:j=i
  ·subst I
   rw[if_neg (by omega)]
   by_cases hs:j<cs.size
   ·rw[if_pos (by omega)];simp[hs]
   ·rw[if_neg (by omega)];simp[hs]
  ·by_cases L:i+1<=j/\j<i+1+us.length/\j<cs.size
   ·rw[if_pos L,if_pos (by omega),show j - i=(j - (i+1))+1 by omega];simp
   ·rw[if_neg L,if_neg (by omega),A7g (by omega)]
def Step.set(S:SimH J β h w){d k o:Nat}{x x':Blk}{cs Y:Array Value}{ty:TypeId}{fr:Nat×Nat}(hx:Ai h d=some x)(L:x.dead=false)(hs:x.sealed=false)(hβ:β d=some (k,o))
  (O:OnlyBlk w w' k cs Y ty fr) (hd':x'.dead=false) (hs':x'.sealed=false) (hz:x'.sz=x.sz) (hl:x'.cells.length=x.cells.length) (hc:CellsRep J β h w x' (fun j=>Y[o+j]?)) (hxm:x.mp=false) (T:x'.mp=x.mp:=by rfl) (hty:x'.ty=x.ty:=by rfl) :
  Step J β h w J β (Hr h d x') w':=by
 obtain⟨k',o',cs0,ty0,fr0,hβ',h2,h3,h4,h5,h6,h7⟩:∃ k' o' cs0 ty0 fr0,β d=some (k',o')/\w.heap[k']?=some (.cells cs0 ty0 fr0) /\
   FrTy x.ty ty0 o' cs0.size fr0/\o'+x.cells.length<=cs0.size/\CellsRep J β h w x (fun j=>cs0[o'+j]?)/\(x.sealed=false->∀ g,¬ J g k')/\(x.sealed=true->J x.taint k'):=by
  rcases S.blk d x hx L hxm with⟨h1,_⟩|h1
  ·rw[hβ]at h1;simp at h1
  ·exact h1
 rw[hβ]at hβ';simp at hβ';obtain⟨rfl,rfl⟩:=hβ'
 rw[O.old]at h2;simp at h2;obtain⟨rfl,rfl,rfl⟩:=h2
 have nj:∀ g j,J g j->j≠k:=fun g j I e=>by subst e;exact h6 hs g I
 have E:Ext J β h w J β (Hr h d x') w':=by
  refine⟨fun _ _ I=>I,fun o j I=>O.other j (nj o j I),fun b z D=>?_,fun b j oo D=>?_⟩
  ·by_cases e:b=d
   ·subst e;rw[hx]at D;simp at D;subst D
    exact⟨_,⟨by rw[Ah,if_pos rfl],T⟩,.inr ⟨L,rfl,hz,fun _=>hl⟩⟩
   ·refine⟨z,⟨by rw[Ah,if_neg e];exact D,rfl⟩,?_⟩
    cases L:z.dead
    ·exact .inr ⟨rfl,rfl,rfl,fun _=>rfl⟩
    ·exact .inl rfl
  ·by_cases e:j=k
   ·subst e;rw[G0 O.old,G0 O.new,O.sz];exact A2s _
   ·simp[Ba,O.other j e]
 refine⟨E,⟨fun g j I=>by rw[O.size];exact S.jlt g j I,S.jft,S.gl.ext E,fun b z D G hm=>?_,fun b z D G hm=>by
   rw[Ah]at D
   by_cases e:b=d
   ·rw[if_pos e]at D;simp at D;subst D;simp[T,hxm]at hm
   ·rw[if_neg e]at D
    exact(S.mblk b z D G hm).keep rfl (fun k2 o2 hβ2=>O.other k2 (fun e2=>by subst e2;exact e (S.sep d b x z k2 o o2 hx D L G hs hβ hβ2).symm)) (fun _ _ _ _ I=>I),?_⟩,O.os,O.tape,O.output,by rw[O.size];exact A2s _,fun j I hm=>?_,?_,fun _ _ I=>.inl I⟩
 ·rw[Ah]at D
  by_cases e:b=d
  ·rw[if_pos e]at D;simp at D;subst D;subst e
   refine .inr ⟨k,o,Y,ty,fr,hβ,O.new,?_,by rw[hl,O.sz];exact h4,hc.ext E,fun _=>h6 hs,fun hh=>by simp[hs']at hh⟩
   rw[O.sz,hty];exact h3
  ·rw[if_neg e]at D
   rcases S.blk b z D G hm with g1|⟨k2,o2,cs2,ty2,fr2,g1,g2,g3,g4,g5,g6,g7⟩
   ·exact .inl g1
   ·have hne:k2≠k:=fun e2=>by
     subst e2;exact e (S.sep d b x z k2 o o2 hx D L G hs hβ g1).symm
    exact .inr ⟨k2,o2,cs2,ty2,fr2,g1,by rw[O.other k2 hne];exact g2,g3,g4,g5.ext E,g6,g7⟩
 ·intro b b' z z' kk oo oo' D hb' hd1 hd2 hs1 hβ1 hβ2
  have get:∀{c y},Ai (Hr h d x') c=some y->y.dead=false->∃ y',Ai h c=some y'/\y'.dead=false/\(y.sealed=false->y'.sealed=false):=by
   intro c y hc hyd
   rw[Ah]at hc
   by_cases e:c=d
   ·subst e;exact⟨x,hx,L,fun _=>hs⟩
   ·rw[if_neg e]at hc;exact⟨y,hc,hyd,id⟩
  obtain⟨y1,g1,g2,g3⟩:=get D hd1
  obtain⟨y2,g4,g5,g6⟩:=get hb' hd2
  exact S.sep b b' y1 y2 kk oo oo' g1 g4 g2 g5 (g3 hs1) hβ1 hβ2
 ·exact O.other j (fun e=>hm (by subst e;exact⟨d,x,o,hx,L,hs,hβ⟩))
 ·rintro j ⟨b,z,oo,D,G,hsz,hβz⟩ I
  rw[Ah]at D
  by_cases e:b=d
  ·subst e;exact⟨b,x,oo,hx,L,hs,hβz⟩
  ·rw[if_neg e]at D
   exact⟨b,z,oo,D,G,hsz,hβz⟩
def Step.move(S:SimH J β h w){d d' k o o':Nat}{x x' y:Blk}{cs cs':Array Value}{ty:TypeId}{fr:Nat×Nat}(Y:Ai h d=some x)(hd:x.dead=false)(hs:x.sealed=false)(hβ:β d=some (k,o))
  (hn:Ai h d'=none) (hy:y.dead=true)
  (O:OnlyBlk w w' k cs cs' ty fr) (hd':x'.dead=false) (hs':x'.sealed=false) (hl:o'+x'.cells.length<=cs.size) (hc:CellsRep J β h w x' (fun j=>cs'[o'+j]?)) (hxm:x.mp=false) (hym:y.mp=x.mp:=by rfl) (hxm':x'.mp=false:=by rfl) (hty:TyOk x'.ty ty o' cs.size:=by exact TyOk.none) :
  Step J β h w J (fun b=>if b=d' then some (k,o')else β b) (Hr (Hr h d y) d' x') w':=by
 obtain⟨k',o1,cs0,ty0,fr0,hβ',h2,h3,h4,h5,h6,h7⟩:∃ k' o' cs0 ty0 fr0,β d=some (k',o')/\w.heap[k']?=some (.cells cs0 ty0 fr0) /\
   FrTy x.ty ty0 o' cs0.size fr0/\o'+x.cells.length<=cs0.size/\CellsRep J β h w x (fun j=>cs0[o'+j]?)/\(x.sealed=false->∀ g,¬ J g k')/\(x.sealed=true->J x.taint k'):=by
  rcases S.blk d x Y hd hxm with⟨h1,_⟩|h1
  ·rw[hβ]at h1;simp at h1
  ·exact h1
 rw[hβ]at hβ';simp at hβ';obtain⟨rfl,rfl⟩:=hβ'
 rw[O.old]at h2;simp at h2;obtain⟨rfl,rfl,rfl⟩:=h2
 have nj:∀ g j,J g j->j≠k:=fun g j L e=>by subst e;exact h6 hs g L
 have ndd:d≠d':=fun e=>by subst e;rw[hn]at Y;cases Y
 have ne:∀{b z},Ai h b=some z->b≠d':=fun D e=>by subst e;rw[hn]at D;cases D
 have get:∀ b,Ai (Hr (Hr h d y) d' x') b=if b=d' then some x' else if b=d then some y else Ai h b:=fun b=>by rw[Ah,Ah]
 have E:Ext J β h w J (fun b=>if b=d' then some (k,o')else β b) (Hr (Hr h d y) d' x') w':=by
  refine⟨fun _ _ L=>L,fun o j L=>O.other j (nj o j L),fun b z D=>?_,fun b j oo D=>?_⟩
  ·by_cases e:b=d
   ·have hb0:=D;subst e;rw[Y]at D;simp at D;subst D;exact⟨y,⟨by rw[get,if_neg (ne hb0),if_pos rfl],hym⟩,.inl hy⟩
   ·refine⟨z,⟨by rw[get,if_neg (ne D),if_neg e];exact D,rfl⟩,?_⟩
    cases hd:z.dead
    ·exact .inr ⟨rfl,by simp[ne D],rfl,fun _=>rfl⟩
    ·exact .inl rfl
  ·by_cases e:j=k
   ·subst e;rw[G0 O.old,G0 O.new,O.sz];exact A2s _
   ·simp[Ba,O.other j e]
 have live:∀{b z},Ai (Hr (Hr h d y) d' x') b=some z->z.dead=false->(b=d'/\z=x')\/(b≠d'/\b≠d/\Ai h b=some z):=by
  intro b z D hz
  rw[get]at D
  by_cases e:b=d'
  ·rw[if_pos e]at D;simp at D;exact .inl ⟨e,D.symm⟩
  ·rw[if_neg e]at D
   by_cases e2:b=d
   ·rw[if_pos e2]at D;simp at D;subst D;simp[hy]at hz
   ·rw[if_neg e2]at D;exact .inr ⟨e,e2,D⟩
 refine⟨E,⟨fun g j L=>by rw[O.size];exact S.jlt g j L,S.jft,S.gl.ext E,fun b z D G hm=>?_,fun b z D G hm=>by
   rcases live D G with⟨rfl,rfl⟩|⟨e1,e2,D⟩
   ·simp[hxm']at hm
   ·exact(S.mblk b z D G hm).keep (by simp[e1]) (fun k2 o2 I=>O.other k2 (fun e=>by subst e;exact e2 (S.sep d b x z k2 o o2 Y D hd G hs hβ I).symm)) (fun _ _ _ _ L=>L),?_⟩,O.os,O.tape,O.output,by rw[O.size];exact A2s _,fun j L hm=>?_,?_,fun _ _ L=>.inl L⟩
 ·rcases live D G with⟨rfl,rfl⟩|⟨e1,e2,D⟩
  ·refine .inr ⟨k,o',cs',ty,fr,by simp,O.new,?_,by rw[O.sz];exact hl,hc.ext E,fun _=>h6 hs,fun hh=>by simp[hs']at hh⟩
   rw[O.sz];exact⟨h3.1,hty⟩
  ·rcases S.blk b z D G hm with g1|⟨k2,o2,cs2,ty2,fr2,g1,g2,g3,g4,g5,g6,g7⟩
   ·exact .inl ⟨by simp[e1,g1.1],g1.2⟩
   ·have hne:k2≠k:=fun e=>by
     subst e;exact e2 (S.sep d b x z k2 o o2 Y D hd G hs hβ g1).symm
    exact .inr ⟨k2,o2,cs2,ty2,fr2,by simp[e1,g1],by rw[O.other k2 hne];exact g2,g3,g4,g5.ext E,g6,g7⟩
 ·intro b b' z z' kk oo oo' D hb' hd1 hd2 hs1 T I
  rcases live D hd1 with⟨e0,_⟩|⟨e1,e2,hbb⟩<;>rcases live hb' hd2 with⟨e0',_⟩|⟨e3,e4,hbb'⟩
  ·rw[e0,e0']
  ·simp[e0]at T;simp[e3]at I
   obtain⟨rfl,rfl⟩:=T
   exact absurd (S.sep d b' x z' k o oo' Y hbb' hd hd2 hs hβ I).symm e4
  ·simp[e0']at I;simp[e1]at T
   obtain⟨rfl,rfl⟩:=I
   exact absurd (S.sep d b x z k o oo Y hbb hd hd1 hs hβ T).symm e2
  ·simp[e1]at T;simp[e3]at I
   exact S.sep b b' z z' kk oo oo' hbb hbb' hd1 hd2 hs1 T I
 ·exact O.other j (fun e=>hm (by subst e;exact⟨d,x,o,Y,hd,hs,hβ⟩))
 ·rintro j ⟨b,z,oo,D,G,hsz,hβz⟩ L
  rcases live D G with⟨rfl,rfl⟩|⟨e1,e2,D⟩
  ·simp at hβz;obtain⟨rfl,rfl⟩:=hβz
   exact⟨d,x,o,Y,hd,hs,hβ⟩
  ·simp[e1]at hβz;exact⟨b,z,oo,D,G,hsz,hβz⟩
end
end Gx
namespace Gx
open Go
def Ct:∀(a b:Gw)(h:Ap),Al (a++b) h=Al b (Al a h)
|[],_,_=>rfl
|(_,some _)::r,b,h=>by simp only[A4e,Al];exact Ct r b _
|(_,none)::r,b,h=>by simp only[A4e,Al];exact Ct r b _
def LooksS(g:Bp)(h:Ap):Prop:=∀ b x,g b=some x->∃ y,Ai h b=some y/\{y with sealed:=true}={x with sealed:=true}
def Looks.s{g:Bp}{h:Ap}(k:Looks g h):LooksS g h:=fun b x D=>⟨x,k b x D,rfl⟩
section
variable{R:Type}{r:R}{P:Program}{J J':Bool->Nat->Prop}{β:Cr}{h:Ap}{w:World}{g:Bp}
def LooksS.shutB(k:LooksS g h){b:Nat}{x:Blk}(D:g b=some x):LooksS g (Hr h b {x with sealed:=true}):=by
 intro c y hc
 rw[Ah]
 by_cases e:c=b
 ·subst e;rw[D]at hc;simp at hc;subst hc
  exact⟨{x with sealed:=true},by simp,rfl⟩
 ·rw[if_neg e];exact k c y hc
def Ajz(S:SimH J β h w){b off n:Nat}{y:Blk}{v:Value}(hb:Ai h b=some y)(hd:y.dead=false)(hp:y.pure=true)(hr:Rep J β h w (.own b off n) v)
  (hJ:∀ k o,β b=some (k,o)->J' y.taint k) (L:∀ o k,J o k->J' o k) (t o:Bool):RepC (J' y.taint) w (.imm ((y.cells.drop off).take (n*y.sz)) n y.sz t o) v↔(t=true->∃ A cap,v=.slice A n cap/\cap=n):=by
 rw[Rep]at hr
 obtain⟨x,A,cap,⟨G,Y⟩,rfl,D,hr⟩:=hr
 rw[hb]at G;simp at G;subst G
 rw[RepC]
 constructor
 ·rintro⟨_,A',cap',hv,_,ht,_⟩ h1
  exact⟨A',cap',hv,ht h1⟩
 ·intro ht
  have T:t=true->cap=n:=fun h1=>by
   obtain⟨A',cap',hv,hc⟩:=ht h1
   simp at hv;omega
  rcases hr with hr|⟨kk,oo,rfl,hr⟩
  ·have:n=0:=by omega
   subst this
   exact⟨by simp,A,cap,rfl,D,T,.inl rfl⟩
  ·rcases hr with hr|⟨r1,r2,r3⟩
   ·simp[hd]at hr
   ·rcases S.blk b y hb hd Y with⟨hn,_⟩|⟨k',o',cs,ty,fr,I,g1,g2,g3,g4,g5,g6⟩
    ·rw[r1]at hn;simp at hn
    ·rw[r1]at I;simp at I;obtain⟨rfl,rfl⟩:=I
     refine⟨by simp;omega,_,cap,rfl,D,T,.inr ⟨_,rfl,hJ _ _ r1,?_⟩⟩
     have:=((g4.1 hp).drop off).take (n*y.sz)
     refine RepCs.keep (fun k hk=>L _ k hk) (fun _ _=>rfl) (fun j=>?_) this
     rw[Addr.add_mid,Oy g1,A4d]
def Ao4{b off n:Nat}{y:Blk}{v:Value}(G:Ai h b=some y)(hr:Rep J β h w (.own b off n) v):y.mp=false:=by
 rw[Rep]at hr
 obtain⟨x,A,cap,⟨k,D⟩,_⟩:=hr
 rw[G]at k;simp at k;subst k;exact D
def Asw{b off:Nat}{y:Blk}{v:Value}(I:Ai h b=some y)(hr:Rep J β h w (.optr b off) v):y.mp=false:=by
 rw[Rep]at hr
 obtain⟨x,k,o,⟨D,G⟩,_⟩:=hr
 rw[I]at D;simp at D;subst D;exact G
def PY{v v':AV}{ups:Gw}{org:Bool}{vc:Value}(S:SimH J β h w)(T:LooksS g h)(hh:WL g v=some (v',ups,org))(I:Rep J β h w v vc):
    ∃ J',Step J β h w J' β (Al ups h) w/\RepC (J' org) w v' vc/\LooksS g (Al ups h):=by
  unfold WL at hh
  split at hh
  · rename_i b off n
    obtain⟨x,G,h1⟩:=ub hh
    obtain⟨hp,h2⟩:=uc h1
    simp at h2
    obtain⟨rfl,rfl,rfl⟩:=h2
    unfold Iu at G
    obtain⟨x0,L,G⟩:=ub G
    obtain⟨hd,G⟩:=Ag4 G
    simp at G;subst G
    obtain⟨y,Y,D⟩:=T b _ L
    have e1:y.cells=x0.cells:=by have:=congrArg Blk.cells D;simpa using this
    have e2:y.sz=x0.sz:=by have:=congrArg Blk.sz D;simpa using this
    have e3:y.taint=x0.taint:=by have:=congrArg Blk.taint D;simpa using this
    have e4:y.dead=x0.dead:=by have:=congrArg Blk.dead D;simpa using this
    have e5:y.pure=x0.pure:=by have:=congrArg Blk.pure D;simpa using this
    have A:=Step.shutB S Y (by rw[e4];exact hd) (Ao4 Y I)
    refine⟨_,by simp only[Al];rw[<-D];exact A,?_,by simp only[Al];exact T.shutB L⟩
    have:=(Ajz (J':=fun o k=>J o k\/∃ o',β b=some (k,o')/\(y.taint=true->o=true)) S Y (by rw[e4];exact hd) (by rw[e5];exact hp) I (fun k o hβ=>.inr ⟨o,hβ,id⟩) (fun o k hj=>.inl hj) false x0.taint).2 (by simp)
    rw[e1,e2,e3]at this
    rw[e3]
    exact this
  all_goals first
    |(simp at hh;done)
    | (simp at hh; obtain ⟨rfl, rfl, rfl⟩ := hh
       refine⟨J,Step.refl S,?_,T⟩
       first
         |(rw[Rep]at I;exact I)
         | skip)
  · cases v
    case imm=>rename_i hi _ _;exact absurd rfl (hi _ _ _ _ _)
    case iptr=>rename_i hi _;exact absurd rfl (hi _ _)
    case pagg=>rename_i hi;exact absurd rfl (hi _ _)
    all_goals first|(rw[Rep]at I;rw[RepC];exact I)|simp_all
def Qy:∀{c c':LA}{ups:Gw}{org:Bool}{cs:List Value}{J:Bool->Nat->Prop}{h:Ap},SimH J β h w->LooksS g h->Zc g c=some (c',ups,org)->Reps J β h w c cs ->
  ∃ J',Step J β h w J' β (Al ups h) w/\RepCs (J' org) w c' (fun j=>cs[j]?) 0/\c'.length=cs.length/\LooksS g (Al ups h)
|[],c',ups,org,cs,J,h,S,L,hh,G=>by
  simp[Zc]at hh;obtain⟨rfl,rfl,rfl⟩:=hh
  rw[Reps]at G;subst G
  exact⟨J,Step.refl S,by simp[RepCs],rfl,L⟩
| v::r,c',ups,org,cs,J,h,S,L,hh,G=>by
  rw[Zc]at hh
  obtain⟨⟨v1,u1,o1⟩,hp,h1⟩:=ub hh
  obtain⟨⟨r2,u2,o2⟩,hq,h2⟩:=ub h1
  simp at h2
  obtain⟨rfl,rfl,rfl⟩:=h2
  rw[Reps]at G
  obtain⟨u,us,rfl,T,Y⟩:=G
  obtain⟨J1,A,hA,hl1⟩:=PY S L hp T
  obtain⟨J2,B,hB,I,hl2⟩:=Qy A.sim hl1 hq (Reps.ext A.ext Y)
  refine⟨J2,by rw[Ct];exact A.trans B (fun _ _ _ _=>A2s _),?_,by simp[I],by rw[Ct];exact hl2⟩
  have mono:∀{a b:Bool}(k:Nat),J2 a k->J2 (a||b) k:=fun{a b} k D=>by
   cases a
   ·cases b
    ·exact D
    ·exact B.sim.jft k D
   ·exact D
  have mono':∀{a b:Bool}(k:Nat),J2 b k->J2 (a||b) k:=fun{a b} k D=>by rw[A8u];exact mono k D
  rw[RepCs]
  refine⟨⟨u,by simp,?_⟩,?_⟩
  ·exact RepC.keep (J:=J1 o1) (fun k D=>mono k (B.ext.jsub _ k D)) (fun _ _=>rfl) hA
  ·have:=RepCs.keep (J':=J2 (o1||o2)) (w':=w) (fun k D=>mono' k D) (fun _ _=>rfl) (rd':=fun j=>us[j]?) (fun _=>rfl) hB
   rw[Cm]at this ⊢
   intro j x hj
   have h3:=this j x hj
   simp only[A22]at h3
   rw[show 1+j=j+1 by omega]
   simpa using h3
def NF{v:AV}{c':LA}{ups:Gw}{org:Bool}{vc:Value}(S:SimH J β h w)(I:LooksS g h)(hh:Yw g v=some (c',ups,org))(D:Rep J β h w v vc):
  ∃ J',Step J β h w J' β (Al ups h) w/\RepCs (J' org) w c' (fun j=>vc.cells.toList[j]?) 0/\c'.length=vc.cells.toList.length/\LooksS g (Al ups h):=by
 unfold Yw at hh
 split at hh
 ·rename_i c org'
  simp at hh;obtain⟨rfl,rfl,rfl⟩:=hh
  rw[Rep]at D
  obtain⟨cs,rfl,Y,G⟩:=D
  exact⟨J,Step.refl S,G,by simp[Value.cells,Y],I⟩
 ·rename_i c
  rw[Rep]at D
  obtain⟨cs,rfl,G⟩:=D
  exact Qy S I hh G
 ·rename_i v Y G
  obtain⟨J',A,hA,k,L⟩:=Qy (cs:=[vc]) S I hh (by rw[Reps];exact⟨vc,[],rfl,D,by rw[Reps]⟩)
  have h3:vc.oneCell'=true:=by
   have T:c'.length=1:=k
   cases hc:c' with
   |nil=>simp[hc]at T
   |cons x r =>
    obtain⟨u,hu,hr⟩:=hA.at (j:=0) (x:=x) (by simp[hc])
    simp at hu;subst hu
    exact qH hr
  have h4:vc.cells=#[vc]:=by cases vc<;>simp_all[Value.cells,Value.oneCell']
  rw[h4]
  exact⟨J',A,hA,k,L⟩
end
end Gx
namespace Gx
open Go
def B3:∀(ups:Gw)(h:Ap)(b:Nat),A6 ups b=false->Ai (Al ups h) b=Ai h b
|[],_,_,_=>rfl
| (i,some x)::r,h,b,hi=>by
  rw[A6]at hi
  cases k:beq i b with
  |true=>rw[k]at hi;simp at hi
  |false =>
   rw[k]at hi
   rw[Al,B3 r _ b hi,Ah,if_neg (fun e=>W1 k e.symm)]
| (i,none)::r,h,b,hi=>by
  rw[A6]at hi
  cases k:beq i b with
  |true=>rw[k]at hi;simp at hi
  |false =>
   rw[k]at hi
   rw[Al,B3 r _ b hi]
   split
   ·rw[Ah,if_neg (fun e=>W1 k e.symm)]
   ·rfl
def Zi{c vs:LA}{off:Nat}(G:off+vs.length<=c.length)(j:Nat):(D2 c off vs)[j]?=if off<=j/\j<off+vs.length then vs[j - off]? else c[j]?:=by
 unfold D2
 rw[A38,A36]
 simp only[A3b,A3h (show off<=c.length by omega)]
 by_cases k:j<off
 ·rw[if_pos k,if_neg (by omega),A47,if_pos k]
 ·rw[if_neg k,A36]
  by_cases D:j - off<vs.length
  ·rw[if_pos D,if_pos (by omega)]
  ·rw[if_neg D,if_neg (by omega),A3z];congr 1;omega
def Oz{c vs:LA}{off:Nat}(k:off+vs.length<=c.length):(D2 c off vs).length=c.length:=by unfold D2;simp;omega
def IT{c vs:LA}{off:Nat}(k:off+vs.length<=c.length)(j:Nat):(setCells c off vs)[j]?=if off<=j/\j<off+vs.length then vs[j - off]? else c[j]?:=by
 unfold setCells
 split
 ·rename_i y
  simp at k
  rw[List.getElem?_set]
  by_cases e:off=j
  ·subst e;simp;omega
  ·rw[if_neg e,if_neg (by simp;omega)]
 ·exact Zi k j
def Wk{c vs:LA}{off:Nat}(k:off+vs.length<=c.length):(setCells c off vs).length=c.length:=by
 unfold setCells
 split
 ·simp
 ·exact Oz k
section
variable{R:Type}{r:R}{P:Program}{J J':Bool->Nat->Prop}{β:Cr}{h:Ap}{w w':World}{g:Bp}
def Nf{v:AV}{vc:Value}(hs:FZ g v=true)(D:Rep J β h w v vc):vc.oneCell'=true:=by
 cases v<;>simp[FZ]at hs
 case own=>rw[Rep]at D;obtain⟨x,A,cap,_,rfl,_⟩:=D;rfl
 case optr=>rw[Rep]at D;obtain⟨x,k,o,_,rfl,_⟩:=D;rfl
 case fn=>rw[Rep]at D;obtain⟨cs,rfl,_⟩:=D;rfl
 case imm=>rw[Rep,RepC]at D;obtain⟨_,A,cap,rfl,_⟩:=D;rfl
 case iptr=>rw[Rep,RepC]at D;obtain⟨a,rfl,_⟩:=D;rfl
 all_goals (rw[Rep]at D;subst D;rfl)
def Qz:∀{c:LA},Th g c=true->∀(j:Nat)(x:AV),c[j]?=some x->FZ g x=true
|[],_,j,x,k=>by simp at k
|v::r,hs,j,x,k=>by
  rw[Th]at hs;simp at hs
  cases j with
  |zero=>simp at k;subst k;exact hs.1
  |succ j=>exact Qz hs.2 j x (by simpa using k)
def Ag6{k:Nat}{cs D:Array Value}{ty:TypeId}{fr:Nat×Nat}(O:OnlyBlk w w' k cs D ty fr):∀ j,Ba w j<=Ba w' j:=fun j=>by
 by_cases e:j=k
 ·subst e;rw[G0 O.old,G0 O.new,O.sz];exact A2s _
 ·simp[Ba,O.other j e]
def PZ{t:TypeId}{k o:Nat}{vc:Value}{cs:Array Value}{ty:TypeId}{fr:Nat×Nat}(I:w.heap[k]?=some (.cells cs ty fr))(L:FrOk cs.size fr)
  (hs:Cs P t=some vc.cells.toList.length) (T:o+vc.cells.toList.length<=cs.size) (Y:∀ u∈vc.cells.toList,u.oneCell'=true) :
  (Instr.storeAt t (.pointer (some ⟨k,o,none⟩)) vc).run P w=.ok () (w.setCells k o vc.cells.toList):=by
 have D:=run_storeCells_cells (P:=P) k o vc.cells.toList 0 w (fun j hj=>by
   rw[A30,Oy I];simp;omega)
  (fun j hj=>by
   rw[A30];simp only[World.frozen?,I]
   have:=L.at (o+j) (by omega)
   cases fr;simp at this ⊢;omega) Y
 simp only[A30]at D
 have G:=Eu hs w
 simp only[A6v]at G
 simp[Instr.storeAt,Instr.sureAddr,storeVar,G,D]
def P_{c:LA}{org:Bool}{cs:List Value}(hc:RepCs (J org) w c (fun j=>cs[j]?) 0):∀{L:List (Nat×TypeId)}{D:LA}{k:LA->O R},NA P c org L D k=some r ->
  (∀(j:Nat) x,D[j]?=some x->∃ u,cs[j]?=some u/\Rep J β h w x u)->∃ l:LA,k l=some r/\∀(j:Nat) x,l[j]?=some x->∃ u,cs[j]?=some u/\Rep J β h w x u
|[],D,k,hh,I=>⟨D,hh,I⟩
| (off,t)::L,D,k,hh,I=>by
  rw[NA]at hh
  obtain⟨T,h1⟩:=uc hh
  simp at T
  obtain⟨v,h2,h3⟩:=Vk (β:=β) (h:=h) h1 (hc.drop off)
  refine P_ hc h2 (fun j x G=>?_)
  rw[A36]at G
  split at G
  ·exact I j x G
  ·have Y:j=D.length:=by
    have:=(A29.1 G).1
    simp at this;omega
   subst Y
   simp at G;subst G
   rcases h3 with⟨d,hu,hd,u,h4,h5⟩|⟨d,hu,hd,_⟩
   ·refine⟨u,?_,h5⟩
    rw[T.1]at h4;simpa using h4
   ·exfalso
    have h6:=T.2
    unfold Aoy at h6
    rw[hu]at h6
    split at h6<;>simp_all[TypeDesc.isRow]
def zE{t:TypeId}{p v:AV}{vp vv:Value}{k:AV->Gw->O R}(S:SimH J β h w)(hl:Looks g h)(hh:g8 P g t p v k=some r)(hp:Rep J β h w p vp)(hv:Rep J β h w v vv):
  ∃ val ups,k val ups=some r/\∃ J' β' w',(Instr.storeAt t vp vv).run P w=.ok () w'/\Step J β h w J' β' (Al ups h) w'/\val=.undef:=by
 unfold g8 at hh
 split at hh
 ·rename_i b off
  obtain⟨x,hx,h1⟩:=ub hh
  obtain⟨n,hn,h2⟩:=ub h1
  obtain⟨hs,h3⟩:=Ag4 h2
  obtain⟨hb,hd⟩:=Nd hl hx
  have hmpx:=Asw hb hp
  cases hpu:x.pure with
  | true =>
   rw[hpu]at h3
   obtain⟨⟨c',u1,org⟩,hq,h4⟩:=ub h3
   obtain⟨hc,h5⟩:=uc h4
   simp at hc
   obtain⟨I,L,hc3⟩:=hc
   obtain⟨J1,A,hA,Y,_⟩:=NF S hl.s hq hv
   have hb1:Ai (Al u1 h) b=some x:=by rw[B3 _ _ _ hc3];exact hb
   obtain⟨kk,o,cs,ty,fr,hβ,rfl,T,hf,hle,hcr,_,_⟩:=zA A.sim hb1 hd (Rep.ext A.ext hp)
   obtain⟨cs',O,hO⟩:=OnlyBlk.setCells (k:=kk) vv.cells.toList (o+off) w cs T
   have hlen':off+c'.length<=x.cells.length:=by omega
   have hone:=RepCs.one hA Y.symm
   have B:=Step.set (x':={ x with pure:=true,cells:=setCells x.cells off c',taint:=x.taint||org }) A.sim hb1 hd hs hβ O hd hs rfl (Wk hlen') (by
    refine⟨fun _=>?_,fun hh=>by simp at hh⟩
    have hold:=hcr.1 hpu
    rw[Cm]
    intro j y D
    simp only[IT hlen']at D
    simp only[A22]
    have mono:∀{a b:Bool}(k:Nat),J1 a k->J1 (a||b) k:=fun{a b} k T=>by
     cases a
     ·cases b
      ·exact T
      ·exact A.sim.jft k T
     ·exact T
    split at D
    ·rename_i hj'
     obtain⟨u,hu,hr⟩:=hA.at D
     refine⟨u,?_,RepC.keep (J:=J1 org) (fun k T=>by rw[A8u];exact mono k T) (fun _ _=>rfl) hr⟩
     rw[hO,if_pos (by omega),<-hu];congr 1;omega
    ·rename_i hj'
     obtain⟨u,hu,hr⟩:=hold.at D
     refine⟨u,?_,RepC.keep (J:=J1 x.taint) (fun k T=>mono k T) (fun _ _=>rfl) hr⟩
     rw[hO,if_neg (by omega)];exact hu)
   refine⟨_,_,h5,J1,β,_,PZ T hf.1 (by rw[<-Y,I];exact hn) (by omega) hone,?_,rfl⟩
   rw[Ct]
   exact A.trans (B hmpx) (fun _ k _ _=>Ag6 O k)
  | false =>
   rw[hpu]at h3
   obtain⟨kk,o,cs,ty,fr,hβ,rfl,T,hf,hle,hcr,_,_⟩:=zA S hb hd hp
   have go:∀(c:LA)(cells':LA),(∀(j:Nat)(y:AV),c[j]?=some y->∃ u,vv.cells.toList[j]?=some u/\Rep J β h w y u/\u.oneCell'=true)->c.length=vv.cells.toList.length->c.length=n->off+c.length<=x.cells.length ->
     cells'.length=x.cells.length->(∀ j:Nat,cells'[j]?=if off<=j/\j<off+c.length then c[j - off]? else x.cells[j]?) ->
     ∃ J' β' w',(Instr.storeAt t (.pointer (some ⟨kk,o+off,none⟩)) vv).run P w=.ok () w'/\Step J β h w J' β' (Al [(b,some {x with pure:=false,cells:=cells'})] h) w':=by
    intro c cells' hc Y hcn hoff hcl hget'
    obtain⟨cs',O,hO⟩:=OnlyBlk.setCells (k:=kk) vv.cells.toList (o+off) w cs T
    have B:=Step.set (x':={ x with pure:=false,cells:=cells' }) S hb hd hs hβ O hd hs rfl hcl (by
     refine⟨fun hh=>by simp at hh,fun _ j y D=>?_⟩
     simp only[hget']at D
     split at D
     ·rename_i hj'
      obtain⟨u,hu,hr,ho⟩:=hc _ _ D
      refine⟨u,?_,hr,ho⟩
      show cs'[o+j]?=some u
      rw[hO,if_pos (by omega),<-hu];congr 1;omega
     ·rename_i hj'
      obtain⟨u,hu,hr⟩:=hcr.2 hpu j y D
      refine⟨u,?_,hr⟩
      show cs'[o+j]?=some u
      rw[hO,if_neg (by omega)];exact hu)
    refine⟨J,β,_,PZ T hf.1 (by rw[hn,<-hcn,Y]) (by omega) (fun u hu=>?_),B hmpx⟩
    obtain⟨j,D,rfl⟩:=A9j hu
    obtain⟨u',hu',_,ho⟩:=hc j c[j] (A2r (by omega))
    rw[A2r D]at hu';simp only[A3k]at hu';rw[hu'];exact ho
   simp only[cond_false]at h3
   split at h3
   ·rename_i c
    obtain⟨hc,h5⟩:=uc h3
    simp at hc
    obtain⟨I,L,hc3⟩:=hc
    rw[Rep]at hv
    obtain⟨us,rfl,G⟩:=hv
    rw[Ck]at G
    obtain⟨J',β',w',g1,g2⟩:=go c (D2 x.cells off c) (fun j y D=>by
      have hlt:j<us.length:=by rw[G.1];exact(A29.1 D).1
      refine⟨us[j],by simp[Value.cells,A2r hlt],G.2 j y _ D (A2r hlt),Nf (Qz I j y D) (G.2 j y _ D (A2r hlt))⟩)
     (by simp[Value.cells,G.1]) L (by omega) (Oz (by omega)) (Zi (by omega))
    exact⟨_,_,h5,J',β',w',g1,g2,rfl⟩
   ·rename_i c org
    cases hwh:beq off 0&&(beq c.length n&&beq x.cells.length n)with
    | false =>
     rw[hwh,cond_false]at h3
     obtain⟨_,h3⟩:=Ag4 h3
     rw[Rep]at hv
     obtain⟨us,rfl,G,hrc⟩:=hv
     obtain⟨l,h4,h6⟩:=P_ (β:=β) (h:=h) hrc h3 (fun j x D=>by simp at D)
     obtain⟨hc,h5⟩:=uc h4
     simp at hc
     obtain⟨hc0,I,L,hc3⟩:=hc
     obtain⟨J',β',w',g1,g2⟩:=go l (D2 x.cells off l) (fun j y D=>by
       obtain⟨u,hu,hr⟩:=h6 j y D
       exact⟨u,by simpa[Value.cells] using hu,hr,Nf (Qz I j y D) hr⟩)
      (by simp[Value.cells];omega) L (by omega) (Oz (by omega)) (Zi (by omega))
     exact⟨_,_,h5,J',β',w',g1,g2,rfl⟩
    |true =>
    rw[hwh,cond_true]at h3
    have h5:=h3
    have hc:=hwh
    simp at hc
    obtain⟨rfl,L,hc3⟩:=hc
    rw[Rep]at hv
    obtain⟨us,rfl,G,hrc⟩:=hv
    obtain⟨cs',O,hO⟩:=OnlyBlk.setCells (k:=kk) us (o+0) w cs T
    have B:=Step.set (x':={ x with pure:=true,taint:=org,cells:=c }) S hb hd hs hβ O hd hs rfl (by simp;omega) (by
     refine⟨fun _=>?_,fun hh=>by simp at hh⟩
     rw[Cm]
     intro j y D
     obtain⟨u,hu,hr⟩:=hrc.at D
     have hlt:j<us.length:=by rw[G];exact(A29.1 D).1
     refine⟨u,?_,hr⟩
     show cs'[o+(0+j)]?=some u
     rw[hO,if_pos (by omega),<-hu];congr 1;omega)
    exact⟨_,_,h5,J,β,_,PZ (vc:=.agg ⟨us⟩) T hf.1 (by simp[Value.cells];rw[G,L];exact hn) (by simp[Value.cells];omega) (by simpa[Value.cells]using RepCs.one hrc G),B hmpx,rfl⟩
   ·rename_i hna
    obtain⟨hc,h5⟩:=uc h3
    simp at hc
    obtain⟨I,L,hc3⟩:=hc
    have ho:=Nf I hv
    have hcells:vv.cells=#[vv]:=by cases vv<;>simp_all[Value.cells,Value.oneCell']
    obtain⟨J',β',w',g1,g2⟩:=go [v] (x.cells.set off v) (fun j y D=>by
      cases j with
      |zero=>simp at D;subst D;exact⟨vv,by simp[hcells],hv,ho⟩
      |succ j=>simp at D) (by simp[hcells]) (by simp;omega) (by simp;omega) (by simp) (fun j=>by
      have:=IT (c:=x.cells) (vs:=[v]) (off:=off) (by simp;omega) j
      simpa[setCells] using this)
    exact⟨_,_,h5,J',β',w',g1,g2,rfl⟩
 ·simp at hh
end
end Gx
namespace Gx
open Go
section
variable{R:Type}{r:R}{P:Program}{J J':Bool->Nat->Prop}{β:Cr}{h:Ap}{w w':World}{g:Bp}
def xF{v v':AV}{ups:Gw}{org:Bool}(hh:WL g v=some (v',ups,org))(b:Nat)(G:A6 ups b=true):∃ x,g b=some x:=by
 unfold WL at hh
 split at hh
 ·rename_i I off n
  obtain⟨x,k,T⟩:=ub hh
  obtain⟨Y,L⟩:=uc T
  simp at L
  obtain⟨rfl,rfl,rfl⟩:=L
  unfold Iu at k
  obtain⟨x0,D,k⟩:=ub k
  have:I=b:=by
   cases e:beq I b with
   |true=>exact A26 e
   |false=>simp[A6,e]at G
  subst this;exact⟨x0,D⟩
 all_goals first
  |(simp at hh;done)
  |(simp at hh;obtain⟨rfl,rfl,rfl⟩:=hh;simp[A6]at G)
def Hs:∀(a b:Gw)(c:Nat),A6 (a++b) c=(A6 a c||A6 b c)
|[],_,_=>by simp[A6]
|(i,_)::r,b,c=>by
  rw[A4e,A6,A6,Hs r b c]
  cases beq i c<;>simp
def Zj:∀{c c':LA}{ups:Gw}{org:Bool},Zc g c=some (c',ups,org)->∀ b,A6 ups b=true->∃ x,g b=some x
|[],c',ups,org,hh,b,k=>by simp[Zc]at hh;obtain⟨rfl,rfl,rfl⟩:=hh;simp[A6]at k
|v::r,c',ups,org,hh,b,k=>by
  rw[Zc]at hh
  obtain⟨⟨v1,u1,o1⟩,I,L⟩:=ub hh
  obtain⟨⟨r2,u2,o2⟩,hq,D⟩:=ub L
  simp at D
  obtain⟨rfl,rfl,rfl⟩:=D
  rw[Hs]at k
  cases G:A6 u1 b with
  |true=>exact xF I b G
  |false=>rw[G]at k;exact Zj hq b (by simpa using k)
def vE{v:AV}{c':LA}{ups:Gw}{org:Bool}(hh:Yw g v=some (c',ups,org))(b:Nat)(k:A6 ups b=true):∃ x,g b=some x:=by
 unfold Yw at hh
 split at hh
 ·simp at hh;obtain⟨rfl,rfl,rfl⟩:=hh;simp[A6]at k
 ·exact Zj hh b k
 ·exact Zj hh b k
def Aj0{ups:Gw}{d:Nat}(D:Looks g h)(G:∀ b,A6 ups b=true->∃ x,g b=some x)(k:Ai h (nid d)=none):Ai (Al ups h) (nid d)=none:=by
 rw[B3]
 ·exact k
 ·cases I:A6 ups (nid d)with
  |false=>rfl
  |true =>
   obtain⟨x,L⟩:=G _ I
   rw[D _ _ L]at k;cases k
def OpDone(J:Bool->Nat->Prop)(β:Cr)(h:Ap)(w:World)(ups:Gw)(val:AV)(vc:Value)(w':World):Prop:=∃ J' β',Step J β h w J' β' (Al ups h) w'/\Rep J' β' (Al ups h) w' val vc
def UpsFree(d:Nat)(h:Ap)(ups:Gw):Prop:=∀ b,A6 ups b=true->GB d b=true->Ai h b=none
def UpsFree.nid {d:Nat} {h:Ap} {ups:Gw} (k:UpsFree d h ups) (hi:A6 ups (nid d)=true):Ai h (nid d)=none:=k _ hi (by
 have D:ble (Gx.nid d) (Gx.nid d)=true:=by simp
 have G:Nat.blt (Gx.nid d) (Gx.nid d+16)=true:=by simp
 rw[GB,D,G];rfl)
def UD{d:Nat}{x:Blk}{cs:Array Value}{ty:TypeId}(S:SimH J β h w)(G:Ai h (nid d)=none)(I:x.dead=false)(hs:x.sealed=false)(k:x.cells.length<=cs.size)(hc:CellsRep J β h w x (fun j=>cs[j]?))(D:x.mp=false:=by rfl)(hty:TyOk x.ty ty 0 cs.size:=by exact TyOk.none):
  OpDone J β h w [(nid d,some x)] (.optr (nid d) 0) (.pointer (some ⟨w.heap.size,0,none⟩)) (w.alloc (.cells cs ty)):=by
 have A:=Step.new (ty:=ty) (fr:=(0,0)) S G I hs ⟨.inl rfl,hty⟩ k hc D
 refine⟨_,_,A,?_⟩
 rw[Rep]
 exact⟨x,w.heap.size,0,⟨by simp[Al,Ah],D⟩,rfl,.inr (by simp)⟩
def OpDone.after{ups ups':Gw}{val:AV}{vc:Value}{J1:Bool->Nat->Prop}{β1:Cr}{D:World}(A:Step J β h w J1 β1 (Al ups h) D)(B:OpDone J1 β1 (Al ups h) D ups' val vc w')
  (hs:∀ k,Ba w k<=Ba w' k):OpDone J β h w (ups++ups') val vc w':=by
 obtain⟨J2,β2,B1,B2⟩:=B
 exact⟨J2,β2,by rw[Ct];exact A.trans B1 (fun _ k _ _=>hs k),by rw[Ct];exact B2⟩
def Tk(w:World)(o:Obj):∀ k,Ba w k<=Ba (w.alloc o) k:=fun k=>by
 by_cases D:k<w.heap.size
 ·simp[Ba,K8 w _ D]
 ·simp[Ba,A4z (A5k D)]
def IU{t:TypeId}{vc:Value}:(Instr.box t vc).run P w=.ok (.pointer (some ⟨w.heap.size,0,none⟩)) (w.alloc (.cells vc.cells t)):=by simp[Instr.box,newVar,newRow]
def zF{co:Bool}{t:TypeId}{v:AV}{vv:Value}{k:AV->O R}(hh:g_ P co t v k=some r)(G:Rep J β h w v vv):∃ v',k v'=some r/\Rep J β h w v' vv:=by
 unfold g_ at hh
 split at hh
 ·rename_i c org
  rw[Rep]at G
  obtain⟨cs,rfl,h1,I⟩:=G
  obtain⟨l,L,T⟩:=P_ (β:=β) (h:=h) I hh (fun j x Y=>by simp at Y)
  obtain⟨h5,h6⟩:=uc L
  simp at h5
  refine⟨_,h6,?_⟩
  rw[Rep]
  refine⟨cs,rfl,Ck.2 ⟨by omega,fun j x u hx hu=>?_⟩⟩
  obtain⟨u',D,hr⟩:=T j x hx
  rw[hu]at D;simp at D;subst D;exact hr
 ·exact⟨_,hh,G⟩
def Alv{t q m:Nat}(h:yp P t=some (q,m)):t=q/\Cs P t=some m:=by
 have key:∀{o:Option Nat},o=Cs P t->(o.map fun n=>(t,n))=some (q,m)->t=q/\Cs P t=some m:=by
  intro o k h
  cases o with
  |none=>simp at h
  |some n=>simp at h;exact⟨h.1,by rw[<-k,h.2]⟩
 unfold yp at h
 split at h
 ·obtain⟨f,_,h⟩:=ub h
  split at h
  ·obtain⟨_,h⟩:=uc h;exact key rfl h
  ·obtain⟨g,_,h⟩:=ub h
   split at h
   ·obtain⟨_,h⟩:=uc h;exact key rfl h
   ·cases h
  ·cases h
 ·cases h
def qI{d:Nat}{t:TypeId}{v:AV}{vv:Value}{k:AV->Gw->O R}(S:SimH J β h w)(hl:Looks g h)(hh:Ab5 P g d t v k=some r)(hv:Rep J β h w v vv):
  ∃ val ups,k val ups=some r/\(UpsFree d h ups->∃ vc w',(Instr.box t vv).run P w=.ok vc w'/\OpDone J β h w ups val vc w'):=by
 unfold Ab5 at hh
 split at hh
 ·rename_i c org
  refine⟨_,_,hh,fun D=>⟨_,_,IU,?_⟩⟩
  replace D:=D.nid (by simp[Zd,A6])
  rw[Rep]at hv
  obtain⟨cs,rfl,h1,L⟩:=hv
  exact UD S D rfl rfl (by simp[Value.cells,h1]) ⟨fun _=>by simpa[Value.cells]using L,fun T=>by simp at T⟩
 ·rename_i c
  cases T:Ajr P t with
  | true =>
   rw[T]at hh
   obtain⟨I,hh⟩:=uc hh
   simp only[A2y]at I
   obtain⟨I,Y⟩:=I
   have Y:=A26 Y
   refine⟨_,_,hh,fun D=>⟨_,_,IU,?_⟩⟩
   replace D:=D.nid (by simp[A6])
   rw[Rep]at hv
   obtain⟨cs,rfl,L⟩:=hv
   rw[Ck]at L
   have hty:TyOk (yp P t) t 0 (Value.agg ⟨cs⟩).cells.size:=fun q m hq=>by
    obtain⟨e1,e2⟩:=Alv hq
    refine⟨e1,rfl,.inr ?_⟩
    rw[e2]at Y
    simp[Value.cells,L.1];simpa using Y
   refine UD S D rfl rfl (by simp[Value.cells,L.1]) ⟨fun T=>by simp at T,fun _ j y hj=>?_⟩ rfl hty
   have hlt:j<cs.length:=by rw[L.1];exact(A29.1 hj).1
   exact⟨cs[j],by simp[Value.cells,hlt],L.2 j y _ hj (A2r hlt),Nf (Qz I j y hj) (L.2 j y _ hj (A2r hlt))⟩
  |false =>
   rw[T]at hh
   obtain⟨⟨c',u1,o1⟩,hq,h1⟩:=ub hh
   refine⟨_,_,h1,fun D=>⟨_,_,IU,?_⟩⟩
   replace D:=D.nid (by simp[Hs,Zd,A6])
   rw[Rep]at hv
   obtain⟨cs,rfl,L⟩:=hv
   obtain⟨J1,A,hA,hlen,_⟩:=Qy S hl.s hq L
   refine OpDone.after A (UD A.sim (Aj0 hl (Zj hq) D) rfl rfl (by simp[Value.cells,hlen]) ⟨fun _=>?_,fun T=>by simp at T⟩) (Tk _ _)
   simpa[Value.cells]using hA
 ·rename_i v h1 L
  obtain⟨I,hh⟩:=uc hh
  refine⟨_,_,hh,fun D=>⟨_,_,IU,?_⟩⟩
  replace D:=D.nid (by simp[Zd,A6])
  have ho:=Nf I hv
  have G:vv.cells=#[vv]:=by cases vv<;>simp_all[Value.cells,Value.oneCell']
  refine UD S D rfl rfl (by simp[G]) ⟨fun T=>by simp at T,fun _ j y hj=>?_⟩
  cases j with
  |zero=>simp at hj;subst hj;exact⟨vv,by simp[G],hv,ho⟩
  |succ j=>simp at hj
end
end Gx
namespace Gx
open Go
def zG(z:LA):∀(l j:Nat),j<l*z.length->(Gy l z)[j]?=z[j%z.length]?:=by
 have flat:∀(l j:Nat),j<l*z.length->((replicate l z).flatten)[j]?=z[j%z.length]?:=by
  intro l
  induction l with
  |zero=>intro j k;simp at k
  | succ l G =>
   intro j k
   rw[A76,List.flatten_cons,A36]
   by_cases D:j<z.length
   ·rw[if_pos D,A3s D]
   ·rw[if_neg D,G _ (by rw[Nat.succ_mul]at k;omega)]
    rw[Nat.mod_eq_sub_mod (a:=j) (by omega)]
 intro l j k
 unfold Gy
 split
 ·rename_i v
  simp at k
  simp[k,Nat.mod_one]
 ·exact flat l j k
def Ko(l:Nat)(z:LA):(Gy l z).length=l*z.length:=by
 unfold Gy
 split
 ·simp
 ·simp
section
variable{R:Type}{r:R}{P:Program}{J J':Bool->Nat->Prop}{β:Cr}{h:Ap}{w w':World}{g:Bp}
def YM{J:Nat->Prop}:∀{cs:List Value},Bb (Md cs)=true->∀(j:Nat)(u:Value),cs[j]?=some u->∃ x,(Md cs)[j]?=some x/\RepC J w x u
|[],_,j,u,k=>by simp at k
| v::r,D,j,u,k=>by
  have key:∃ x,gU v=x/\Bb (Md r)=true/\RepC J w x v:=by
   rw[Md]at D
   have hr:=T_ (J:=fun _=>J) (β:=fun _=>none) (h:=[]) (w:=w) v
   cases G:gU v<;>rw[G]at D hr<;>simp[Bb]at D<;>refine⟨_,rfl,D,?_⟩<;>(rw[Rep]at hr;rw[RepC];exact hr)
  obtain⟨x,G,I,hr⟩:=key
  cases j with
  |zero=>simp at k;subst k;exact⟨x,by simp[Md,G],hr⟩
  |succ j =>
   obtain⟨y,L,T⟩:=YM (J:=J) (cs:=r) I j u (by simpa using k)
   exact⟨y,by simpa[Md]using L,T⟩
def CE:∀ cs:List Value,(Md cs).length=cs.length
|[]=>rfl
|v::r=>by simp[Md,CE r]
def Zk{t:TypeId}{z:LA}(k:k8 P t=some z):∃ i v,P.info? t=some i/\i.zero=some v/\z=Md v.cells.toList/\Bb z=true/\v.cells.size=i.size/\z.length=i.size:=by
 unfold k8 at k
 obtain⟨i,hi,G⟩:=ub k
 obtain⟨v,I,L⟩:=ub G
 obtain⟨hc,D⟩:=uc L
 simp at D hc
 subst D
 exact⟨i,v,hi,I,rfl,hc.1,by simpa using hc.2,by rw[CE];simpa using hc.2⟩
def YN{J:Nat->Prop}{v:Value}(hp:Bb (Md v.cells.toList)=true)(l n:Nat)(hl:l*v.cells.size<=n):
  RepCs J w (Gy l (Md v.cells.toList)) (fun j=>(madeCells v.cells n)[j]?) 0:=by
 rw[Cm]
 intro j x I
 have D:(Md v.cells.toList).length=v.cells.size:=by rw[CE];simp
 have k:j<l*(Md v.cells.toList).length:=by
  have:=(A29.1 I).1
  rwa [Ko]at this
 rw[zG _ _ _ k]at I
 rw[D]at I k
 have G:0<v.cells.size:=by
  rcases A3j v.cells.size with L|L
  ·rw[L]at k;simp at k
  ·exact L
 have Y:j%v.cells.size<v.cells.size:=A4r _ G
 obtain⟨y,T,h2⟩:=YM (w:=w) (J:=J) hp (j%v.cells.size) v.cells[j%v.cells.size] (by simp[Y])
 rw[I]at T;simp at T;subst T
 refine⟨_,?_,h2⟩
 have:j<n:=by omega
 simp[madeCells,this,getElem!_pos,Y]
def zH{d n cap sz:Nat}{x:Blk}{cs:Array Value}{ty:TypeId}{fr:Nat×Nat}(S:SimH J β h w)(hn:Ai h (nid d)=none)(hd:x.dead=false)(hs:x.sealed=false)(T:x.sz=sz)
  (L:FrTy x.ty ty 0 cs.size fr) (k:x.cells.length=n*sz) (Y:cap*sz<=cs.size) (D:n<=cap) (hc:CellsRep J β h w x (fun j=>cs[j]?)) (G:x.mp=false:=by rfl) :
  OpDone J β h w [(nid d,some x)] (.own (nid d) 0 n) (.slice (some ⟨w.heap.size,0,none⟩) n cap) (w.alloc (.cells cs ty fr)):=by
 have hle:n*sz<=cap*sz:=A2x _ D
 have A:=Step.new (ty:=ty) (fr:=fr) S hn hd hs L (by omega) hc G
 refine⟨_,_,A,?_⟩
 rw[Rep]
 refine⟨x,_,cap,⟨by simp[Al,Ah],G⟩,rfl,D,.inr ⟨w.heap.size,0,rfl,.inr ⟨by simp,?_,by rw[T,k];omega⟩⟩⟩
 have I:(w.alloc (.cells cs ty fr)).heap[w.heap.size]?=some (.cells cs ty fr):=by show(w.heap.push _)[_]?=_;simp
 rw[G0 I,T];omega
def Acf{d:Nat}{t:TypeId}{l c:AV}{vl vc:Value}{k:AV->Gw->O R}(S:SimH J β h w)(hh:wz P d t l c k=some r)(T:Rep J β h w l vl)(hc:Rep J β h w c vc):
  ∃ val ups,k val ups=some r/\(UpsFree d h ups->∃ u w',(Instr.makeSlice t vl vc).run P w=.ok u w'/\OpDone J β h w ups val u w'):=by
 unfold wz at hh
 split at hh
 ·rename_i el l c hu
  obtain⟨sz,hs,h1⟩:=ub hh
  obtain⟨by_,Y,h2⟩:=ub h1
  obtain⟨z,hz,h3⟩:=ub h2
  obtain⟨hq,h4⟩:=uc h3
  simp at hq
  obtain⟨q1,q2,q3,q4⟩:=hq
  rw[Rep]at T hc;subst T hc
  obtain⟨i,v,hi,hv,rfl,G,e1,e2⟩:=Zk hz
  have D:i.size=sz:=by simp[Cs,hi]at hs;exact hs
  have I:i.bytes=by_:=by simp[yj,hi]at Y;exact Y
  have L:A6 (Zd d true false sz (Gy l.toNat (Md v.cells.toList))) (nid d)=true:=by simp[Zd,A6]
  refine⟨_,_,h4,fun hn=>⟨_,_,run_make w t el i v hu hi hv _ _ l c q1 q2 (by rw[I,Int.mul_comm];omega) (by omega),?_⟩⟩
  refine zH (sz:=sz) S (hn.nid L) rfl rfl rfl FrTy.un0 ?_ (by rw[size_madeCells,D];exact A2s _) (by omega) ⟨fun _=>?_,fun G=>by simp at G⟩
  ·show(Gy l.toNat (Md v.cells.toList)).length=_
   rw[Ko,e2,D]
  ·exact YN G _ _ (by rw[e1];exact A2x _ (by omega))
 ·simp at hh
def Yield.src{sz n:Nat}{tx:TypeId}{vx:Value}{us:List Value}(Y:Yield P w sz vx n us)(k:yv P tx=true)(G:∀ u∈us,u.oneCell'=true):Src P sz tx vx n us w:=by
 refine⟨?_,Y.len,?_,?_,Y.length,G⟩
 ·unfold yv at k
  split at k
  ·rename_i e D;exact .inl ⟨e,D⟩
  ·rename_i D;exact .inr D
  ·simp at k
 ·have:=Y.cells w n (fun _=>rfl) (A2s _)
  rwa [<-Y.length,A3l]at this
 ·have:=Y.cells w.drew n (fun _=>rfl) (A2s _)
  rwa [<-Y.length,A3l]at this
def zI{J:Nat->Prop}{a b:LA}{us vs:List Value}(I:RepCs J w a (fun j=>us[j]?) 0)(L:RepCs J w b (fun j=>vs[j]?) 0)(T:a.length=us.length)(tail:List Value):
  RepCs J w (a++b) (fun j=>(us++vs++tail)[j]?) 0:=by
 rw[Cm]
 intro j x k
 rw[A36]at k
 simp only[A22]
 by_cases G:j<a.length
 ·rw[if_pos G]at k
  obtain⟨u,D,hr⟩:=I.at k
  refine⟨u,?_,hr⟩
  rw[A38,A36,if_pos (by omega)];exact D
 ·rw[if_neg G]at k
  obtain⟨u,D,hr⟩:=L.at k
  refine⟨u,?_,hr⟩
  have Y:j - a.length<vs.length:=(A29.1 D).1
  rw[A38,A36,if_neg (by omega),A36,if_pos (by omega),<-T];exact D
def b_(w:World)(k:Nat):Ba w.drew k=Ba w k:=rfl
def qJ{d sz n1 n2 cap0:Nat}{t tx ty D:TypeId}{i:TypeInfo}{z vx:Value}{A:Option Addr}{olds news:List Value}{c1 G:LA}{o:Bool}(S:SimH J β h w)(hn:Ai h (nid d)=none)
  (hu:P.underlying t=some (.slice D)) (hi:P.info? D=some i) (hz:i.zero=some z) (hsz:i.size=sz) (hzs:z.cells.size=sz)
  (I:∀ w':World,(∀ a,w'.cell? a=w.cell? a)->(Builtin.firstCells sz n1 (.slice A n1 cap0)).run P w'=.ok olds.toArray w') (L:olds.length=n1*sz)
  (Y:Yield P w sz vx n2 news) (ht:yv P tx=true) (ho:∀ u∈news,u.oneCell'=true)
  (h1:RepCs (J o) w c1 (fun j=>olds[j]?) 0) (T:c1.length=olds.length) (h2:RepCs (J o) w G (fun j=>news[j]?) 0) (h2l:G.length=news.length)
  (hg:cap0<n1+n2) (hb1:n1+n2<=140737488355328) (hb2:(n1+n2)*i.bytes<=140737488355328) {X:Option (Nat×Nat)} (hX:∀ q,X=some q->q=(D,0)) :
  ∃ u w',(Builtin.append_ #[t,tx] ty #[.slice A n1 cap0,vx]).run P w=.ok u w' /\
   OpDone J β h w [(nid d,some {dead:=false,sealed:=false,pure:=true,taint:=o,sz:=sz,cells:=c1++G,ty:=X})] (.own (nid d) 0 (n1+n2)) u w'/\(∀ k,Ba w k<=Ba w' k):=by
 subst hsz
 have run:=run_append_grow_src (P:=P) w t tx ty D i z hu hi hz A n1 cap0 olds (I w.drew (fun _=>rfl)) vx n2 news (Y.src ht ho) hg (by omega) (growslice_fits hg hb2)
 have hcap:n1+n2<=grownCap w (n1+n2) cap0 D:=by
  unfold grownCap;simp[Question.cut]
 refine⟨_,_,run,?_,?_⟩
 ·obtain⟨J',β',B1,B2⟩:=zH (d:=d) (n:=n1+n2) (cap:=grownCap w (n1+n2) cap0 D) (sz:=i.size) (ty:=D) (fr:=(0,0)) (x:={dead:=false,sealed:=false,pure:=true,taint:=o,sz:=i.size,cells:=c1++G,ty:=X})
   (cs:=(olds++news).toArray++Builtin.zeroCells z.cells (grownCap w (n1+n2) cap0 D - (n1+n2))) (Step.drew S).sim hn rfl rfl rfl ⟨.inl rfl,fun t m hm=>by have:=hX _ hm;simp at this;exact⟨this.1.symm,rfl,.inl this.2⟩⟩
   (by simp[T,h2l,L,Y.length,A23]) (by
    simp[Builtin.zeroCells,L,Y.length,hzs]
    rw[<-A23,<-A23];exact A2x _ (by omega)) hcap
   ⟨fun _=>by
    have:=zI h1 h2 T (Builtin.zeroCells z.cells (grownCap w (n1+n2) cap0 D - (n1+n2))).toList
    show RepCs (J o) w.drew (c1++G) _ 0
    refine RepCs.keep (J:=J o) (w:=w) (w':=w.drew) (fun _ hj=>hj) (fun _ _=>rfl) (fun j=>?_) this
    rw[<-A83]
    simp,fun hp=>by simp at hp⟩
  exact⟨J',β',(Step.drew S).trans B1 (fun _ k _ _=>by rw[<-b_];exact Tk _ _ k),B2⟩
 ·intro k;rw[<-b_];exact Tk _ _ k
def UE{J:Bool->Nat->Prop}(G:∀ k,J false k->J true k)(a b:Bool)(k:Nat)(D:J a k):J (a||b) k:=by
 cases a
 ·cases b
  ·exact D
  ·exact G k D
 ·exact D
def qK{J:Bool->Nat->Prop}(D:∀ k,J false k->J true k)(a b:Bool)(k:Nat)(G:J b k):J (a||b) k:=by rw[A8u];exact UE D b a k G
def Acg{d sz:Nat}{x:Blk}{A:Option Addr}(S:SimH J β h w)(D:Ai h (nid d)=none)(hc:x.cells=[])(k:x.mp=false:=by rfl):
  OpDone J β h w [(nid d,some x)] (.own (nid d) 0 0) (.slice A 0 0) w:=by
 refine⟨_,_,Step.newNone S D hc k,?_⟩
 rw[Rep]
 exact⟨x,A,0,⟨by simp[Al,Ah],k⟩,rfl,A2s _,.inl rfl⟩
def Ach{g:Bp}{k tx:TypeId}{s:AV}{q:Nat×Nat}(h:lC P g k tx s=some q):q=(k,0):=by
 unfold lC at h
 split at h
 ·split at h
  ·simp at h;exact h.symm
  ·cases h
 ·obtain⟨x,_,h⟩:=ub h
  obtain⟨y,_,h⟩:=ub h
  obtain⟨_,h⟩:=uc h
  simp at h;exact h.symm
 ·cases h
def Ao5{g:Bp}{D tx b off n o m:Nat}{ty:TypeId}{y:Blk}(G:Iu g b=some y)(I:TyOk y.ty ty o m):TyOk (lC P g D tx (.own b off n)) ty (o+off) m:=by
 intro t k h
 have e:=Ach h
 simp at e;obtain⟨rfl,rfl⟩:=e
 unfold lC at h
 simp only[G,A34]at h
 obtain⟨q,hq,h⟩:=ub h
 obtain⟨hc,_⟩:=uc h
 simp only[A2y]at hc
 have c1:=A26 hc.1
 have T:=A26 hc.2.1
 have c3:=A26 hc.2.2
 obtain⟨L,Y,_⟩:=I q.1 q.2 hq
 exact⟨by rw[L,c1],by omega,.inl rfl⟩
def vF {d:Nat} {t tx ty:TypeId} {s x:AV} {vs vx:Value} {k:AV->Gw->O R} (S:SimH J β h w) (hl:Looks g h) (hh:TW P g d t tx s x k=some r) (hs:Rep J β h w s vs) (hx:Rep J β h w x vx) :
  ∃ val ups,k val ups=some r/\(UpsFree d h ups->∃ u w',(Builtin.append_ #[t,tx] ty #[vs,vx]).run P w=.ok u w'/\OpDone J β h w ups val u w'):=by
 unfold TW at hh
 split at hh
 ·rename_i el hu
  obtain⟨ht,h0⟩:=uc hh
  obtain⟨sz,hsz,h1⟩:=ub h0
  obtain⟨by_,hby,h2⟩:=ub h1
  obtain⟨zz,hz,h3⟩:=ub h2
  obtain⟨old,G,h4⟩:=ub h3
  obtain⟨new,us,h5,Y,L,hur⟩:=b9 (P:=P) S hl h4 hx
  obtain⟨hq,h6⟩:=uc h5
  simp at hq
  obtain⟨q1,q2⟩:=hq
  obtain⟨i,z,hi,hiz,rfl,hp,e1,e2⟩:=Zk hz
  have D:i.size=sz:=by simp[Cs,hi]at hsz;exact hsz
  have hb':i.bytes=by_:=by simp[yj,hi]at hby;exact hby
  have I:=RepCs.one hur L.symm
  have hur':RepCs (J (old.2.2.1||new.2.2)) w new.1 (fun j=>us[j]?) 0:=RepCs.keep (J:=J new.2.2) (w:=w) (qK S.jft _ _) (fun _ _=>rfl) (fun _=>rfl) hur
  refine⟨_,_,h6,fun hn=>?_⟩
  replace hn:=hn.nid (by simp[Hs,A6])
  have hX:∀ q,lC P g el tx s=some q->q=(el,0):=fun q=>Ach
  have empty:∀(A:Option Addr),vs=.slice A 0 0->old.1=[]->old.2.1=0->old.2.2.2=[] ->
    ∃ u w',(Builtin.append_ #[t,tx] ty #[vs,vx]).run P w=.ok u w'/\OpDone J β h w (old.2.2.2++[(nid d,some {dead:=false,sealed:=false,pure:=true,taint:=old.2.2.1||new.2.2,sz,cells:=old.1++new.1,ty:=lC P g el tx s})]) (.own (nid d) 0 (old.2.1+new.2.1)) u w':=by
   intro A hA o1 o2 o3
   subst hA
   rw[o1,o2,o3]
   rcases A3j new.2.1 with h0|h0
   ·have hus:us=[]:=by have:=Y.length;rw[h0]at this;simpa using this
    subst hus
    have T:=Y.src ht I
    rw[h0]at T
    refine⟨_,_,run_append_nothing (P:=P) w t tx ty el i hu hi A 0 0 (A2s _) vx (by rw[D];exact T),?_⟩
    rw[h0]
    have hnc:new.1=[]:=by simpa using L
    exact Acg (sz:=sz) S hn (by simp[hnc])
   ·obtain⟨u,w',g1,g2,_⟩:=qJ (ty:=ty) (c1:=[]) (olds:=[]) (n1:=0) (cap0:=0) (A:=A) S hn hu hi hiz D (by rw[e1,D]) (fun w' _=>by
      cases A with
      |none=>exact run_firstCells_none (P:=P) w' sz 0 0 0
      | some a=>exact run_firstCells_some (P:=P) w' sz 0 a 0 0 [] (by simp) (fun j v hv=>by simp at hv)) (by simp) Y ht I (by simp[RepCs]) rfl hur' L (by omega) (by rw[o2] at q1;omega) (by rw[o2,<-hb'] at q2;exact q2) hX
    exact⟨u,w',g1,g2⟩
  unfold Ajv at G
  split at G
  ·simp at G;subst G
   rw[Rep]at hs
   exact empty none hs rfl rfl rfl
  ·rename_i c n sz' org
   obtain⟨hz0,h7⟩:=uc G
   simp at hz0 h7;subst hz0;subst h7
   rw[Rep,RepC]at hs
   obtain⟨_,A,cap,hv,_,hcap,_⟩:=hs
   have:=hcap rfl;subst this
   exact empty A hv rfl rfl rfl
  ·rename_i b off n
   obtain⟨y,hy,h7⟩:=ub G
   obtain⟨hc,h8⟩:=uc h7
   simp at hc h8
   obtain⟨c1,c2,c3⟩:=hc
   subst h8;subst c3
   obtain⟨hb,hd⟩:=Nd hl hy
   simp only at *
   rw[Rep]at hs
   obtain⟨y',A,cap,⟨hy1,hmp⟩,rfl,hcap,hr⟩:=hs
   rw[hb]at hy1;simp at hy1;subst hy1
   have kill:=Step.kill (y:={y with dead:=true,pure:=true,cells:=[]}) S hb rfl
   have hkn:Ai (Hr h b {y with dead:=true,pure:=true,cells:=[]}) (nid d)=none:=by
    rw[Ah,if_neg (fun e=>by rw[<-e,hn]at hb;cases hb)];exact hn
   have hap:Al [(b,none)] h=Hr h b {y with dead:=true,pure:=true,cells:=[]}:=by simp[Al,hb]
   by_cases hc0:cap=0
   ·have hn0:n=0:=by omega
    subst hc0;subst hn0
    have S':=kill.sim
    rcases A3j new.2.1 with h0|h0
    ·have hus:us=[]:=by have:=Y.length;rw[h0]at this;simpa using this
     subst hus
     have T:=Y.src ht I
     rw[h0]at T
     refine⟨_,_,run_append_nothing (P:=P) w t tx ty el i hu hi A 0 0 (A2s _) vx (by rw[D];exact T),?_⟩
     rw[h0]
     have hnc:new.1=[]:=by simpa using L
     refine OpDone.after (ups:=[(b,none)]) (by rw[hap];exact kill) ?_ (fun _=>A2s _)
     rw[hap]
     exact Acg (sz:=y.sz) S' hkn (by simp[hnc])
    ·obtain⟨u,w',g1,g2,g3⟩:=qJ (ty:=ty) (c1:=[]) (olds:=[]) (n1:=0) (cap0:=0) (A:=A) S' hkn hu hi hiz D (by rw[e1,D]) (fun w' _=>by
       cases A with
       |none=>exact run_firstCells_none (P:=P) w' y.sz 0 0 0
       | some a=>exact run_firstCells_some (P:=P) w' y.sz 0 a 0 0 [] (by simp) (fun j v hv=>by simp at hv)) (by simp) Y ht I (by simp[RepCs]) rfl hur' L (by omega) (by omega) (by rw[<-hb'] at q2;exact q2) hX
     refine⟨u,w',g1,OpDone.after (ups:=[(b,none)]) (by rw[hap];exact kill) ?_ g3⟩
     rw[hap];simpa[Zd]using g2
   ·rcases hr with hr | ⟨kk,o,rfl,hr⟩
    ·exact absurd hr hc0
    ·rcases hr with hr|⟨r1,r2,r3⟩
     ·simp[hd]at hr
     ·rcases S.blk b y hb hd hmp with⟨hn',_⟩|⟨k',o',cs,ty',fr,hβ',g1,g2,g3,g4,g5,g6⟩
      ·rw[r1]at hn';simp at hn'
      ·rw[r1]at hβ';simp at hβ';obtain⟨rfl,rfl⟩:=hβ'
       have hbs:=G0 g1
       have hpure:=((g4.1 c1).drop off).take (n*y.sz)
       have hpl:((y.cells.drop off).take (n*y.sz)).length=n*y.sz:=by simp;omega
       by_cases hroom:n+new.2.1<=cap
       ·
        have hle:(n+new.2.1)*y.sz<=cap*y.sz:=A2x _ hroom
        rw[A23]at hle
        have run:=run_append_room_src (P:=P) w t tx ty el i hu hi kk (o+off) n cap vx new.2.1 us (by rw[D];exact Y.src ht I) hroom (fun j hj=>by
          rw[D,Oy g1];have:=Y.length;simp;omega) (fun j hj=>by
          rw[D];simp only[World.frozen?,g1]
          have h9:=Y.length
          have:=g2.1.at (o+off+n*y.sz+j) (by omega)
          cases fr;simp at this ⊢;omega)
        rw[D]at run
        obtain⟨cs',O,hO⟩:=OnlyBlk.setCells (k:=kk) us (o+off+n*y.sz) w cs g1
        have h9:=Y.length
        have B:=Step.move (y:={y with dead:=true,pure:=true,cells:=[]}) (o':=o+off) (x':={dead:=false,sealed:=false,pure:=true,taint:=y.taint||new.2.2,sz:=y.sz,cells:=(y.cells.drop off).take (n*y.sz)++new.1,ty:=lC P g el tx (.own b off n)}) S hb hd c2 r1 hn rfl O rfl rfl
         (by rw[A3d,hpl,L];omega) ⟨fun _=>by
          show RepCs (J (y.taint||new.2.2)) w ((y.cells.drop off).take (n*y.sz)++new.1) _ 0
          rw[Cm]
          intro j q hj
          rw[A36,hpl]at hj
          simp only[A22]
          by_cases hjn:j<n*y.sz
          ·rw[if_pos hjn]at hj
           obtain⟨v,hv,hvr⟩:=hpure.at hj
           refine⟨v,?_,RepC.keep (J:=J y.taint) (w:=w) (UE S.jft _ _) (fun _ _=>rfl) hvr⟩
           rw[hO,if_neg (by omega),A4d];exact hv
          ·rw[if_neg hjn]at hj
           obtain⟨v,hv,hvr⟩:=hur'.at hj
           refine⟨v,?_,hvr⟩
           have:j - n*y.sz<us.length:=(A29.1 hv).1
           rw[hO,if_pos (by omega),<-hv];congr 1;omega,fun hp=>by simp at hp⟩ hmp (hty:=Ao5 (P:=P) (tx:=tx) (n:=n) hy g2.2)
        refine⟨_,_,run,J,(fun b=>if b=nid d then some (kk,o+off)else β b),?_,?_⟩
        ·rw[Ct,hap];exact B
        ·rw[Ct,hap,Rep]
         refine⟨_,_,cap,⟨by simp[Zd,Al,Ah];rfl,rfl⟩,rfl,hroom,.inr ⟨kk,o+off,rfl,.inr ⟨by simp,?_,?_⟩⟩⟩
         ·rw[G0 O.new,O.sz];simp;omega
         ·simp only[A3d,hpl,L,h9,A22];rw[A23];exact A2s _
       ·
        obtain⟨olds,l1,l2,l3⟩:=hpure.list
        obtain⟨u,w',g1',g2',g3'⟩:=qJ (ty:=ty) (c1:=(y.cells.drop off).take (n*y.sz)) (olds:=olds) (n1:=n) (cap0:=cap) (A:=some ⟨kk,o+off,none⟩) kill.sim hkn hu hi hiz D (by rw[e1,D]) (fun w' he =>
          run_firstCells_some (P:=P) w' y.sz n _ n cap olds (by rw[l1,hpl]) (fun j v hv=>by
           rw[he,Addr.add_mid,Oy g1,A4d];exact l2 j v hv)) (by rw[l1,hpl]) Y ht I
          (RepCs.keep (J:=J y.taint) (w:=w) (UE S.jft _ _) (fun _ _=>rfl) (fun _=>rfl) l3) l1.symm hur' L (by omega) (by omega) (by rw[<-hb']at q2;exact q2) hX
        refine⟨u,w',g1',OpDone.after (ups:=[(b,none)]) (by rw[hap];exact kill) ?_ g3'⟩
        rw[hap];exact g2'
  ·simp at G
 ·simp at hh
end
end Gx
namespace Gx
open Go
section
variable{R:Type}{r:R}{P:Program}{J J':Bool->Nat->Prop}{β:Cr}{h:Ap}{w w':World}{g:Bp}
def Step.retaint(S:SimH J β h w){d:Nat}{x:Blk}(hx:Ai h d=some x)(hd:x.dead=false)(hs:x.sealed=false)(hp:x.pure=true)(hxm:x.mp=false)(o:Bool):
  Step J β h w J β (Hr h d {x with taint:=x.taint||o}) w:=by
 have E:Ext J β h w J β (Hr h d {x with taint:=x.taint||o}) w:=by
  refine⟨fun _ _ hj=>hj,fun o k hj=>rfl,fun b z D=>?_,fun b k o hβ=>A2s _⟩
  by_cases e:b=d
  ·subst e;rw[hx]at D;simp at D;subst D
   exact⟨{x with taint:=x.taint||o},⟨by rw[Ah,if_pos rfl],rfl⟩,.inr ⟨hd,rfl,rfl,fun _=>rfl⟩⟩
  ·refine⟨z,⟨by rw[Ah,if_neg e];exact D,rfl⟩,?_⟩
   cases hd:z.dead
   ·exact .inr ⟨rfl,rfl,rfl,fun _=>rfl⟩
   ·exact .inl rfl
 refine⟨E,⟨S.jlt,S.jft,S.gl.ext E,fun b z D G hm=>?_,fun b z D G hm=>by
   rw[Ah]at D
   by_cases e:b=d
   ·rw[if_pos e]at D;simp at D;subst D;simp[hxm]at hm
   ·rw[if_neg e]at D
    exact(S.mblk b z D G hm).keep rfl (fun k o hβ=>rfl) (fun _ _ _ _ hj=>hj),?_⟩,rfl,rfl,rfl,A2s _,fun k hk _=>rfl,?_,fun _ _ hj=>.inl hj⟩
 ·rw[Ah]at D
  by_cases e:b=d
  ·rw[if_pos e]at D;simp at D;subst D;subst e
   rcases S.blk b x hx hd hxm with I|⟨k,o',L,T,Y,I,h2,h3,h4,h5,h6,h7⟩
   ·exact .inl I
   ·refine .inr ⟨k,o',L,T,Y,I,h2,h3,h4,CellsRep.ext E ⟨fun _=>?_,fun hh=>?_⟩,fun _=>h6 hs,fun hh=>by simp[hs]at hh⟩
    ·exact RepCs.keep (J:=J x.taint) (w:=w) (UE S.jft _ _) (fun _ _=>rfl) (fun _=>rfl) (h5.1 hp)
    ·simp[hp]at hh
  ·rw[if_neg e]at D
   rcases S.blk b z D G hm with I|⟨k,o,L,T,Y,I,h2,h3,h4,h5,h6,h7⟩
   ·exact .inl I
   ·exact .inr ⟨k,o,L,T,Y,I,h2,h3,h4,h5.ext E,h6,h7⟩
 ·intro b b' z z' k oo oo' D hb' hd1 hd2 hs1 hβ hβ'
  have get:∀{c y},Ai (Hr h d {x with taint:=x.taint||o}) c=some y->y.dead=false->∃ y',Ai h c=some y'/\y'.dead=false/\(y.sealed=false->y'.sealed=false):=by
   intro c y hc hyd
   rw[Ah]at hc
   by_cases e:c=d
   ·subst e;exact⟨x,hx,hd,fun _=>hs⟩
   ·rw[if_neg e]at hc;exact⟨y,hc,hyd,id⟩
  obtain⟨y1,g1,g2,g3⟩:=get D hd1
  obtain⟨y2,g4,g5,g6⟩:=get hb' hd2
  exact S.sep b b' y1 y2 k oo oo' g1 g4 g2 g5 (g3 hs1) hβ hβ'
 ·rintro k ⟨b,z,o,D,G,hs1,hβ⟩ hk
  rw[Ah]at D
  by_cases e:b=d
  ·subst e;exact⟨b,x,o,hx,hd,hs,hβ⟩
  ·rw[if_neg e]at D
   exact⟨b,z,o,D,G,hs1,hβ⟩
def qL(c:LA)(off:Nat):D2 c off []=c:=by simp[D2]
def Aci {t tx ty:TypeId} {s x:AV} {vs vx:Value} {k:AV->Gw->O R} (S:SimH J β h w) (hl:Looks g h) (hh:xA P g t s x k=some r) (hs:Rep J β h w s vs) (hx:Rep J β h w x vx) :
  ∃ val ups,k val ups=some r/\∃ u w',(Builtin.copy_ #[t,tx] ty #[vs,vx]).run P w=.ok u w'/\OpDone J β h w ups val u w':=by
 unfold xA at hh
 split at hh
 ·rename_i el b off n hu
  obtain⟨sz,I,h1⟩:=ub hh
  obtain⟨y,hy,h2⟩:=ub h1
  obtain⟨new,us,h3,Y,hul,hur⟩:=b9 (P:=P) S hl h2 hx
  obtain⟨hb,hd⟩:=Nd hl hy
  cases L:(y.pure&&(!y.sealed&&beq sz y.sz))with
  |false=>rw[L]at h3;cases h3
  |true =>
  rw[L]at h3
  have h4:=h3
  simp only[cond_true]at h4
  have hc:=L
  simp at hc
  obtain⟨c1,c2,c3⟩:=hc
  subst c3
  have hone:=RepCs.one hur hul.symm
  refine⟨_,_,h4,?_⟩
  rw[Rep]at hs
  obtain⟨y',A,cap,⟨hy1,hmp⟩,rfl,hcap,hr⟩:=hs
  rw[hb]at hy1;simp at hy1;subst hy1
  have hm:Nat.min new.2.1 n<=new.2.1:=Nat.min_le_left _ _
  have D:=Y.cells w (Nat.min new.2.1 n) (fun _=>rfl) hm
  have G:=Y.len w
  by_cases hn0:Nat.min new.2.1 n*y.sz=0
  ·
   refine⟨.int .i64 (Nat.min new.2.1 n:Nat),w,?_,J,β,?_,by rw[Rep]⟩
   ·have e:us.take (Nat.min new.2.1 n*y.sz)=[]:=by rw[hn0];rfl
    rw[e]at D
    cases A with
    |none=>simp[Builtin.copy_,run_underlying hu,G,Eu I,D,goInt]
    |some a=>simp[Builtin.copy_,run_underlying hu,G,Eu I,D,goInt,storeCells]
   ·have e:(new.1.take (min new.2.1 n*y.sz))=[]:=by
     have:min new.2.1 n*y.sz=0:=hn0
     rw[this];rfl
    have T:=Step.retaint S hb hd c2 c1 hmp new.2.2
    simp only[Al]
    rw[e,qL]
    exact T
  ·rcases hr with hr|⟨kk,o,rfl,hr⟩
   ·have:n=0:=by omega
    subst this;simp at hn0
   ·rcases hr with hr|⟨r1,r2,r3⟩
    ·simp[hd]at hr
    ·rcases S.blk b y hb hd hmp with⟨hn',_⟩|⟨k',o',cs,ty',fr,hβ',g1,g2,g3,g4,g5,g6⟩
     ·rw[r1]at hn';simp at hn'
     ·rw[r1]at hβ';simp at hβ';obtain⟨rfl,rfl⟩:=hβ'
      have hle1:Nat.min new.2.1 n*y.sz<=new.2.1*y.sz:=A2x _ hm
      have hle2:Nat.min new.2.1 n*y.sz<=n*y.sz:=A2x _ (Nat.min_le_right _ _)
      have hul':=Y.length
      have htl:(us.take (Nat.min new.2.1 n*y.sz)).length=Nat.min new.2.1 n*y.sz:=by rw[A3b];omega
      have htl':(new.1.take (Nat.min new.2.1 n*y.sz)).length=Nat.min new.2.1 n*y.sz:=by rw[A3b];omega
      obtain⟨cs',O,hO⟩:=OnlyBlk.setCells (k:=kk) (us.take (Nat.min new.2.1 n*y.sz)) (o+off) w cs g1
      have hst:=run_storeCells_cells (P:=P) kk (o+off) (us.take (Nat.min new.2.1 n*y.sz)) 0 w (fun j hj=>by
        rw[A30,Oy g1];simp;omega)
       (fun j hj=>by
        rw[A30];simp only[World.frozen?,g1]
        have:=g2.1.at (o+off+j) (by omega)
        cases fr;simp at this ⊢;omega) (fun u hu=>hone u (A7v hu))
      simp only[A30]at hst
      have B:=Step.set (x':={ y with cells:=D2 y.cells off (new.1.take (Nat.min new.2.1 n*y.sz)),taint:=y.taint||new.2.2 }) S hb hd c2 r1 O hd c2 rfl (Oz (by omega)) ⟨fun _=>by
       show RepCs (J (y.taint||new.2.2)) w (D2 y.cells off (new.1.take (Nat.min new.2.1 n*y.sz))) _ 0
       rw[Cm]
       intro j q hj
       rw[Zi (by omega),htl']at hj
       simp only[A22]
       split at hj
       ·obtain⟨u,hu',hr⟩:=(hur.take _).at hj
        refine⟨u,?_,RepC.keep (J:=J new.2.2) (w:=w) (qK S.jft _ _) (fun _ _=>rfl) hr⟩
        rw[hO,if_pos (by omega),A47,if_pos (by omega),<-hu'];congr 1;omega
       ·obtain⟨u,hu',hr⟩:=(g4.1 c1).at hj
        refine⟨u,?_,RepC.keep (J:=J y.taint) (w:=w) (UE S.jft _ _) (fun _ _=>rfl) hr⟩
        rw[hO,if_neg (by omega)];exact hu',fun hp=>by simp[c1] at hp⟩ hmp
      refine⟨.int .i64 (Nat.min new.2.1 n:Nat),_,?_,J,β,B,by rw[Rep]⟩
      simp[Builtin.copy_,run_underlying hu,G,Eu I,D,goInt,hst]
 ·simp at hh
def zJ {t ty:TypeId} {s:AV} {vs:Value} {k:AV->Gw->O R} (S:SimH J β h w) (hl:Looks g h) (hh:hI P g t s k=some r) (hs:Rep J β h w s vs) :
  ∃ val ups,k val ups=some r/\∃ u w',(Builtin.clear_ #[t] ty #[vs]).run P w=.ok u w'/\OpDone J β h w ups val u w':=by
 unfold hI at hh
 split at hh
 ·rename_i el b off n hu
  obtain⟨sz,hsz,h1⟩:=ub hh
  obtain⟨z,hz,h2⟩:=ub h1
  obtain⟨y,hy,h3⟩:=ub h2
  obtain⟨hc,h4⟩:=uc h3
  simp at hc
  obtain⟨c1,c2,c3⟩:=hc
  subst c3
  obtain⟨hb,hd⟩:=Nd hl hy
  obtain⟨i,v,hi,hv,rfl,hp,e1,e2⟩:=Zk hz
  have hs':i.size=y.sz:=by simp[Cs,hi]at hsz;exact hsz
  have hzv:∀ w,(zeroValue el).run P w=.ok v w:=fun w=>by simp[zeroValue,typeInfo,hi,hv]
  have D:=Ko n (Md v.cells.toList)
  rw[e2,hs']at D
  have hzc:Builtin.zeroCells v.cells n=madeCells v.cells (n*v.cells.size):=rfl
  have hul:(Builtin.zeroCells v.cells n).toList.length=n*y.sz:=by rw[hzc,A6v,size_madeCells,e1,hs']
  have hur:RepCs (J y.taint) w (Gy n (Md v.cells.toList)) (fun j=>(Builtin.zeroCells v.cells n).toList[j]?) 0:=by
   have:=YN (J:=J y.taint) (w:=w) hp n (n*v.cells.size) (A2s _)
   rw[<-hzc]at this
   simpa using this
  have hone:=RepCs.one hur (by rw[hul,D])
  refine⟨_,_,h4,?_⟩
  rw[Rep]at hs
  obtain⟨y',A,cap,⟨I,L⟩,rfl,hcap,hr⟩:=hs
  rw[hb]at I;simp at I;subst I
  by_cases G:n*y.sz=0
  ·have e0:(Builtin.zeroCells v.cells n).toList=[]:=A7t (by rw[hul,G])
   refine⟨.tuple #[],w,?_,J,β,?_,by rw[Rep];exact⟨[],rfl,by rw[Reps]⟩⟩
   ·cases n with
    |zero=>cases A<;>simp[Builtin.clear_,run_underlying hu]
    |succ n =>
     cases A with
     |none=>simp[Builtin.clear_,run_underlying hu]
     |some a=>simp[Builtin.clear_,run_underlying hu,hzv,e0,storeCells]
   ·have e:Gy n (Md v.cells.toList)=[]:=A7t (by rw[D,G])
    have T:=Step.retaint S hb hd c2 c1 L false
    simp only[Al]
    rw[e,qL]
    simpa using T
  ·rcases hr with hr|⟨kk,o,rfl,hr⟩
   ·have:n=0:=by omega
    subst this;simp at G
   ·rcases hr with hr|⟨r1,r2,r3⟩
    ·simp[hd]at hr
    ·rcases S.blk b y hb hd L with⟨hn',_⟩|⟨k',o',cs,ty',fr,Y,g1,g2,g3,g4,g5,g6⟩
     ·rw[r1]at hn';simp at hn'
     ·rw[r1]at Y;simp at Y;obtain⟨rfl,rfl⟩:=Y
      obtain⟨cs',O,hO⟩:=OnlyBlk.setCells (k:=kk) (Builtin.zeroCells v.cells n).toList (o+off) w cs g1
      have hst:=run_storeCells_cells (P:=P) kk (o+off) (Builtin.zeroCells v.cells n).toList 0 w (fun j hj=>by
        rw[A30,Oy g1];simp;omega)
       (fun j hj=>by
        rw[A30];simp only[World.frozen?,g1]
        have:=g2.1.at (o+off+j) (by omega)
        cases fr;simp at this ⊢;omega) (fun u hu=>hone u hu)
      simp only[A30]at hst
      have B:=Step.set (x':={ y with cells:=D2 y.cells off (Gy n (Md v.cells.toList)) }) S hb hd c2 r1 O hd c2 rfl (Oz (by omega)) ⟨fun _=>by
       show RepCs (J y.taint) w (D2 y.cells off (Gy n (Md v.cells.toList))) _ 0
       rw[Cm]
       intro j q hj
       rw[Zi (by omega),D]at hj
       simp only[A22]
       split at hj
       ·obtain⟨u,hu',hr⟩:=hur.at hj
        refine⟨u,?_,hr⟩
        rw[hO,if_pos (by omega),<-hu'];congr 1;omega
       ·obtain⟨u,hu',hr⟩:=(g4.1 c1).at hj
        refine⟨u,?_,hr⟩
        rw[hO,if_neg (by omega)];exact hu',fun hp=>by simp[c1] at hp⟩ L
      refine⟨.tuple #[],_,?_,J,β,B,by rw[Rep];exact⟨[],rfl,by rw[Reps]⟩⟩
      cases n with
      |zero=>simp at G
      |succ n=>simp[Builtin.clear_,run_underlying hu,hzv,hst]
 ·simp at hh
def Acj{d:Nat}{src dst:TypeId}{x:AV}{vx:Value}{k:AV->Gw->O R}(S:SimH J β h w)(Y:Looks g h)(hh:xB P g d src dst x k=some r)(G:Rep J β h w x vx):
  ∃ val ups,k val ups=some r/\(UpsFree d h ups->∃ u w',(convert src dst vx).run P w=.ok u w'/\OpDone J β h w ups val u w'):=by
 unfold xB at hh
 split at hh
 ·rename_i kd I
  split at hh
  ·rename_i L n
   rw[Rep]at G;subst G
   obtain⟨D,T⟩:=uc hh
   obtain⟨s,hs⟩:=A55.1 D
   refine⟨_,_,T,fun _=>⟨.int kd (kd.wrap n),w,?_,J,β,Step.refl S,by rw[Rep]⟩⟩
   cases s<;>simp[convert,run_underlying hs,run_underlying I,Conv.intToInt]
  ·simp at hh
 ·simp at hh
end
end Gx
namespace Gx
open Go
def P'(CR:AV->Value->Prop)(c:LA)(cs:List Value):Prop:=c.length=cs.length/\∀(j:Nat)(x:AV)(u:Value),c[j]?=some x->cs[j]?=some u->CR x u
def PartsRel(CR:AV->Value->Prop):List (Nat×LA)->List (Nat×Value)->Prop
|[],vs=>vs=[]
|(i,c)::r,vs=>∃ v vs',vs=(i,v)::vs'/\P' CR c v.cells.toList/\PartsRel CR r vs'
def Aj1:∀(vs:List Value)(n off:Nat)(cells:Array Value)(j:Nat),
  ((vs.zipIdx n).foldl (fun(cs:Array Value)(p:Value×Nat)=>cs.setIfInBounds (off+p.2) p.1) cells)[j]?=if off+n<=j/\j<off+n+vs.length/\j<cells.size then vs[j - (off+n)]? else cells[j]?
|[],n,off,cells,j=>by simp;omega
| v::r,n,off,cells,j=>by
  rw[List.zipIdx_cons,A5q,Aj1 r (n+1) off]
  simp only[A8k,A3a]
  by_cases D:j=off+n
  ·subst D
   rw[if_neg (by omega)]
   by_cases k:off+n<cells.size
   ·rw[if_pos (by omega)];simp[k]
   ·rw[if_neg (by omega)];simp[k]
  ·by_cases k:off+(n+1)<=j/\j<off+(n+1)+r.length/\j<cells.size
   ·rw[if_pos k,if_pos (by omega),show j - (off+n)=(j - (off+(n+1)))+1 by omega];simp
   ·rw[if_neg k,if_neg (by omega),A7g (by omega)]
def cA:∀(vs:List Value)(n off:Nat)(cells:Array Value),((vs.zipIdx n).foldl (fun(cs:Array Value)(p:Value×Nat)=>cs.setIfInBounds (off+p.2) p.1) cells).size=cells.size
|[],_,_,_=>rfl
|v::r,n,off,cells=>by rw[List.zipIdx_cons,A5q,cA r];simp
def QA{CR:AV->Value->Prop}{place:Nat->Option (Nat×Nat)}:∀{parts:List (Nat×LA)}{vparts:List (Nat×Value)}{c c':LA}{cs:Array Value},PartsRel CR parts vparts->P' CR c cs.toList ->
  Sp place parts c=some c'->∃ k,Instr.fill place cs vparts=some k/\P' CR c' k.toList
|[],vparts,c,c',cs,I,hc,L=>by
  rw[PartsRel]at I;subst I
  simp[Sp]at L;subst L
  exact⟨cs,rfl,hc⟩
| (i,vs)::r,vparts,c,c',cs,I,hc,L=>by
  rw[PartsRel]at I
  obtain⟨v,vs',rfl,hv,hr⟩:=I
  rw[Sp]at L
  obtain⟨p,hpl,h1⟩:=ub L
  obtain⟨hb,h2⟩:=uc h1
  simp at hb
  obtain⟨b1,b2⟩:=hb
  have e1:vs.length=v.cells.size:=by have:=hv.1;simpa using this
  have e2:c.length=cs.size:=by have:=hc.1;simpa using this
  have T:p.1+vs.length<=c.length:=by omega
  have key:P' CR (setCells c p.1 vs) (v.cells.zipIdx.foldl (fun(cs:Array Value)(q:Value×Nat)=>cs.setIfInBounds (p.1+q.2) q.1) cs).toList:=by
   have D:v.cells.zipIdx.foldl (fun(cs:Array Value)(q:Value×Nat)=>cs.setIfInBounds (p.1+q.2) q.1) cs=(v.cells.toList.zipIdx 0).foldl (fun(cs:Array Value)(q:Value×Nat)=>cs.setIfInBounds (p.1+q.2) q.1) cs:=by
    rw[<-Array.foldl_toList];simp
   rw[D]
   refine⟨by rw[Wk T,e2];exact(cA _ 0 _ _).symm,fun j x u Y G=>?_⟩
   rw[IT T]at Y
   rw[A83,Aj1]at G
   simp only[A30,A6v]at G
   split at Y
   ·rename_i hj
    rw[if_pos (by omega)]at G
    exact hv.2 _ x u Y G
   ·rename_i hj
    rw[if_neg (by omega)]at G
    exact hc.2 j x u Y (by simpa using G)
  obtain⟨k,g1,g2⟩:=QA hr key h2
  refine⟨k,?_,g2⟩
  rw[Instr.fill,hpl]
  have:¬ (v.cells.size≠p.2||p.1+v.cells.size>cs.size)=true:=by simp;omega
  simp only[this]
  exact g1
section
variable{R:Type}{r:R}{P:Program}{J J':Bool->Nat->Prop}{β:Cr}{h:Ap}{w w':World}{g:Bp}
def RepParts(J:Bool->Nat->Prop)(β:Cr)(h:Ap)(w:World):List (Nat×AV)->List (Nat×Value)->Prop
|[],vs=>vs=[]
|(i,x)::r,vs=>∃ v vs',vs=(i,v)::vs'/\Rep J β h w x v/\RepParts J β h w r vs'
def RepParts.ext{β':Cr}{h':Ap}(E:Ext J β h w J' β' h' w'):∀{ps:List (Nat×AV)}{vs:List (Nat×Value)},RepParts J β h w ps vs->RepParts J' β' h' w' ps vs
|[],_,hr=>hr
|(i,x)::r,vs,hr=>by
  rw[RepParts]at hr ⊢
  obtain⟨v,k,e,D,G⟩:=hr
  exact⟨v,k,e,Rep.ext E D,RepParts.ext E G⟩
def PartsRel.mono{CR CR':AV->Value->Prop}(D:∀ x u,CR x u->CR' x u):∀{ps:List (Nat×LA)}{vs:List (Nat×Value)},PartsRel CR ps vs->PartsRel CR' ps vs
|[],_,hr=>hr
|(i,c)::r,vs,hr=>by
  rw[PartsRel]at hr ⊢
  obtain⟨v,k,e,G,I⟩:=hr
  exact⟨v,k,e,⟨G.1,fun j x u L T=>D _ _ (G.2 j x u L T)⟩,PartsRel.mono D I⟩
def FA{J:Nat->Prop}{c:LA}{us:List Value}(hc:RepCs J w c (fun j=>us[j]?) 0)(D:c.length=us.length):P' (RepC J w) c us :=
 ⟨D,fun j x u G I=>by
  obtain⟨L,k,hr⟩:=hc.at G
  rw[I] at k;simp at k;subst k;exact hr⟩
def WS{J:Nat->Prop}{c:LA}{us:List Value}(hc:P' (RepC J w) c us):RepCs J w c (fun j=>us[j]?) 0:=by
 rw[Cm]
 intro j x k
 have:j<us.length:=by rw[<-hc.1];exact(A29.1 k).1
 exact⟨us[j],by simp[this],hc.2 j x _ k (A2r this)⟩
def NG:∀{ps:List (Nat×AV)}{vs:List (Nat×Value)}{q:List (Nat×LA)}{ups:Gw}{org:Bool}{J:Bool->Nat->Prop}{h:Ap},SimH J β h w->LooksS g h->F_ g ps=some (q,ups,org)->RepParts J β h w ps vs ->
  ∃ J',Step J β h w J' β (Al ups h) w/\PartsRel (RepC (J' org) w) q vs/\LooksS g (Al ups h)/\∀ b,A6 ups b=true->∃ x,g b=some x
|[],vs,q,ups,org,J,h,S,L,hh,D=>by
  simp[F_]at hh;obtain⟨rfl,rfl,rfl⟩:=hh
  rw[RepParts]at D
  exact⟨J,Step.refl S,by rw[PartsRel];exact D,L,fun b G=>by simp[A6]at G⟩
| (i,x)::r,vs,q,ups,org,J,h,S,L,hh,D=>by
  rw[F_]at hh
  obtain⟨⟨c1,u1,o1⟩,hp,h1⟩:=ub hh
  obtain⟨⟨q2,u2,o2⟩,hq,h2⟩:=ub h1
  simp at h2
  obtain⟨rfl,rfl,rfl⟩:=h2
  rw[RepParts]at D
  obtain⟨v,T,rfl,Y,hv2⟩:=D
  obtain⟨J1,A,hA,I,hl1⟩:=NF S L hp Y
  obtain⟨J2,B,hB,hl2,hu2⟩:=NG A.sim hl1 hq (RepParts.ext A.ext hv2)
  refine⟨J2,by rw[Ct];exact A.trans B (fun _ _ _ _=>A2s _),?_,by rw[Ct];exact hl2,fun b G=>?_⟩
  ·rw[PartsRel]
   refine⟨v,T,rfl,FA (RepCs.keep (J:=J1 o1) (w:=w) (fun k hk=>UE B.sim.jft _ _ k (B.ext.jsub _ k hk)) (fun _ _=>rfl) (fun _=>rfl) hA) I,?_⟩
   exact PartsRel.mono (fun x u hx=>RepC.keep (J:=J2 o2) (w:=w) (fun k hk=>qK B.sim.jft _ _ k hk) (fun _ _=>rfl) hx) hB
  ·rw[Hs]at G
   cases h3:A6 u1 b with
   |true=>exact vE hp b h3
   |false=>rw[h3]at G;exact hu2 b (by simpa using G)
def GF{place:Nat->Option (Nat×Nat)}{k:LA->O R}:∀(ps:List (Nat×LA))(c:LA),pv place ps c k=(Sp place ps c).bind k
|[],c=>rfl
|(i,vs)::r,c=>by
  rw[pv,Sp,A2v]
  congr 1;funext p
  rw[GF r]
  cases (beq vs.length p.2&&ble (p.1+p.2) c.length)<;>rfl
def cB{d len:Nat}{t:TypeId}{ps:List (Nat×AV)}{vs:List (Nat×Value)}{k:AV->Gw->O R}(S:SimH J β h w)(hl:Looks g h)(hh:Qc P g d t len ps k=some r)(hv:RepParts J β h w ps vs):
  ∃ val ups,k val ups=some r/\(UpsFree d h ups->∃ u w',(Instr.buildSlice t len vs.toArray).run P w=.ok u w'/\OpDone J β h w ups val u w'):=by
 unfold Qc at hh
 split at hh
 ·rename_i el hu
  obtain⟨sz,D,h1⟩:=ub hh
  obtain⟨zz,hz,h2⟩:=ub h1
  obtain⟨⟨q,u1,o1⟩,hq,h3⟩:=ub h2
  obtain⟨hb,h4⟩:=uc h3
  rw[GF]at h4
  obtain⟨cells,hc,h5⟩:=ub h4
  simp at hb
  obtain⟨i,z,hi,hiz,rfl,hp,e1,e2⟩:=Zk hz
  have G:i.size=sz:=by simp[Cs,hi]at D;exact D
  refine⟨_,_,h5,fun hn=>?_⟩
  replace hn:=hn.nid (by simp[Hs,Zd,A6])
  obtain⟨J1,A,hA,_,T⟩:=NG S hl.s hq hv
  have hz0:=YN (w:=w) (J:=J1 o1) hp len (len*sz) (by rw[e1,G];exact A2s _)
  have hz1:P' (RepC (J1 o1) w) (Gy len (Md z.cells.toList)) (madeCells z.cells (len*sz)).toList:=by
   refine FA (RepCs.keep (J:=J1 o1) (w:=w) (fun _ hk=>hk) (fun _ _=>rfl) (fun j=>by simp) hz0) ?_
   rw[Ko,e2,G,A6v,size_madeCells]
  obtain⟨I,f1,f2⟩:=QA hA hz1 hc
  have Y:cells.length=len*sz:=by
   have:∀{ps:List (Nat×LA)}{c c':LA},Sp (fun i=>some (i*sz,sz)) ps c=some c'->c'.length=c.length:=by
    intro ps
    induction ps with
    |nil=>intro c c' hf;simp[Sp]at hf;rw[hf]
    |cons p r ih =>
     intro c c' hf
     obtain⟨i,vs⟩:=p
     rw[Sp]at hf
     obtain⟨p,hpl,g1⟩:=ub hf
     obtain⟨gb,g2⟩:=uc g1
     simp at gb
     rw[ih g2,Wk (by omega)]
   rw[this hc,Ko,e2,G]
  have hcs:I.size=len*sz:=by have:=f2.1;simp at this;omega
  refine⟨.slice (some ⟨w.heap.size,0,none⟩) len len,w.alloc (.cells I el),?_,?_⟩
  ·have L:Instr.fill (fun i=>some (i*sz,sz)) ((Array.range (len*sz)).map (z.cells[·%z.cells.size]!)) vs=some I:=f1
   have hnb:¬ (16777216<len*sz):=by omega
   by_cases h0:len*sz=0
   ·have hme:∀(a:Array Value),(Array.range (len*sz)).map (a[·%a.size]!)=#[]:=fun a=>by rw[h0];simp[Array.range_zero']
    rw[hme]at L
    simp[Instr.buildSlice,run_underlying hu,Eu D,h0,Array.range_zero',L,newRow]
   ·simp[Instr.buildSlice,run_underlying hu,Eu D,hnb,h0,zeroValue,typeInfo,hi,hiz,L,newRow]
  ·refine OpDone.after A (zH (sz:=sz) (fr:=(0,0)) A.sim (Aj0 hl T hn) rfl rfl rfl FrTy.un0 Y (by omega) (A2s _) ⟨fun _=>?_,fun hp=>by simp at hp⟩) (Tk _ _)
   have:=WS f2
   exact RepCs.keep (J:=J1 o1) (w:=w) (fun _ hk=>hk) (fun _ _=>rfl) (fun j=>by simp) this
 ·simp at hh
def YO{t:TypeId}{ps:List (Nat×AV)}{k:AV->O R}:yu P t ps k=(yr P t ps).bind k:=by
 unfold yu yr
 rw[A2v]
 congr 1;funext place
 cases (ps.all fun p=>PR p.2)with
|false=>rfl
| true =>
  simp only[cond_true]
  cases (ps.any fun p=>IL p.2)with
  | true =>
   simp only[cond_true]
   cases (ps.any fun p=>pw p.2)with
   |true =>
    simp only[cond_true]
    rw[A2v]
    congr 1;funext z
    rw[GF]
    cases Sp place (Jz ps) z<;>rfl
   |false =>
    simp only[cond_false]
    rw[A2v]
    congr 1;funext z
    rw[GF]
    cases Sp place (Fl ps) z<;>rfl
  |false =>
   simp only[cond_false]
   rw[A2v]
   congr 1;funext z
   rw[GF]
   cases Sp place (Fl ps) z<;>rfl
def Ur{d:Nat}:∀{l:List (Nat×Nat)}{j:Nat}{c:LA}{cs:List Value}{β:Cr}{h:Ap},SimH J β h w->1<=j->j+l.length<=16->(∀ i,j<=i->i<16->A6 (Gc d l j c).2 (nid d+i)=true->Ai h (nid d+i)=none)->Reps J β h w c cs ->
  ∃ β',Step J β h w J β' (Al (Gc d l j c).2 h) w/\Reps J β' (Al (Gc d l j c).2 h) w (Gc d l j c).1 cs
|[],j,c,cs,β,h,S,_,_,_,hr=>⟨β,Step.refl S,hr⟩
| (o,sz)::l,j,c,cs,β,h,S,hj,hl,I,hr=>by
  rw[Gc]at I ⊢
  split
  ·rename_i L
   simp only[L]at I
   simp at hl
   have h1:Ai h (nid d+j)=none:=I j (A2s _) (by omega) (by simp[A6])
   have A:=Step.newNone S (d:=nid d+j) (x:=F7 sz) h1 rfl
   have k:=Reps.ext A.ext hr
   rw[Ck]at k
   have Y:Reps J (fun b=>if b=nid d+j then none else β b) (Hr h (nid d+j) (F7 sz)) w (c.set o (.own (nid d+j) 0 0)) cs:=by
    rw[Ck]
    refine⟨by rw[k.1];simp,fun i y u T hu=>?_⟩
    by_cases hi:i=o
    ·subst hi
     have hlt:i<c.length:=(A29.1 L).1
     rw[A35 hlt]at T;simp at T;subst T
     have h3:=k.2 i _ u L hu
     rw[Rep]at h3;subst h3
     rw[Rep]
     exact⟨F7 sz,none,0,⟨by simp[Ah],rfl⟩,rfl,A2s _,.inl rfl⟩
    ·rw[A4k (by omega)]at T
     exact k.2 i y u T hu
   obtain⟨β',B,hB⟩:=Ur (d:=d) (l:=l) (j:=j+1) A.sim (by omega) (by omega) (fun i hi D G=>by
    have:=I i (by omega) D (by
     rw[A6]
     have:beq (nid d+j) (nid d+i)=false:=PX (by omega)
     rw[this];exact G)
    rw[Ah,if_neg (by omega)];exact this) Y
   exact⟨β',by simp only[Al];exact A.trans B (fun _ _ _ _=>A2s _),by simp only[Al];exact hB⟩
  ·rename_i L
   have e:Gc d ((o,sz)::l) j c=Gc d l (j+1) c:=by
    rw[Gc]
    split
    ·rename_i h2;exact absurd h2 (L ·)
    ·rfl
   simp at hl
   split at I
   ·rename_i h2;exact absurd h2 (L ·)
   ·exact Ur S (by omega) (by omega) (fun i hi D G=>I i (by omega) D G) hr
def Ag7{t:TypeId}{co:Bool}{d:Nat}{v:AV}{vc:Value}{k:AV->Gw->O R}(S:SimH J β h w)(hh:Alr P t co d v k=some r)(D:Rep J β h w v vc):
  ∃ val ups,k val ups=some r/\(UpsFree d h ups->OpDone J β h w ups val vc w):=by
 unfold Alr at hh
 split at hh
 ·rename_i c
  obtain⟨I,L⟩:=uc hh
  refine⟨_,_,L,fun T=>?_⟩
  rw[Rep]at D
  obtain⟨cs,rfl,hr⟩:=D
  obtain⟨β',A,hA⟩:=Ur (d:=d) (l:=Qx P t) (j:=1) S (A2s _) (by simp at I;omega) (fun i hi Y G=>T _ G (by unfold GB;simp;omega)) hr
  exact⟨J,β',A,by rw[Rep];exact⟨cs,rfl,hA⟩⟩
 ·exact⟨_,_,hh,fun _=>⟨J,β,Step.refl S,D⟩⟩
def lI{x:AV}{v:Value}(k:Rep J β h w x v)(T:IL x=false)(G:PR x=true):P' (Rep J β h w) (cellsOf x) v.cells.toList:=by
 have one:v.cells=#[v]->cellsOf x=[x]->P' (Rep J β h w) (cellsOf x) v.cells.toList:=fun Y D=>by
  rw[Y,D]
  refine⟨rfl,fun j y u I L=>?_⟩
  cases j with
  |zero=>simp at I L;subst I L;exact k
  |succ j=>simp at I
 cases x
 case pagg=>simp[IL]at T
 case agg c =>
  rw[Rep]at k
  obtain⟨cs,rfl,D⟩:=k
  rw[Ck]at D
  exact⟨D.1.symm,D.2⟩
 case tup c=>simp[PR]at G
 case undef=>simp[PR]at G
 case omap=>simp[PR]at G
 case own=>rw[Rep]at k;obtain⟨_,A,cap,_,rfl,_⟩:=k;exact one rfl rfl
 case optr=>rw[Rep]at k;obtain⟨_,kk,o,_,rfl,_⟩:=k;exact one rfl rfl
 case fn=>rw[Rep]at k;obtain⟨cs,rfl,_⟩:=k;exact one rfl rfl
 case imm=>rw[Rep,RepC]at k;obtain⟨_,A,cap,rfl,_⟩:=k;exact one rfl rfl
 case iptr=>rw[Rep,RepC]at k;obtain⟨a,rfl,_⟩:=k;exact one rfl rfl
 all_goals (rw[Rep]at k;subst k;exact one rfl rfl)
def xG{x:AV}{v:Value}(I:∀ k,J false k->J true k)(G:Rep J β h w x v)(hr:YJ x=false){o:Bool}(L:yq x=true->o=true):RepC (J o) w x v:=by
 cases x<;>simp[YJ]at hr
 case imm c n sz t org =>
  rw[Rep]at G
  refine RepC.keep (J:=J org) (w:=w) (fun k D=>?_) (fun _ _=>rfl) G
  cases org
  ·cases o
   ·exact D
   ·exact I k D
  ·rw[L rfl];exact D
 case iptr c org =>
  rw[Rep]at G
  refine RepC.keep (J:=J org) (w:=w) (fun k D=>?_) (fun _ _=>rfl) G
  cases org
  ·cases o
   ·exact D
   ·exact I k D
  ·rw[L rfl];exact D
 all_goals (rw[Rep]at G;rw[RepC];exact G)
def zK{x:AV}{v:Value}(T:∀ k,J false k->J true k)(I:Rep J β h w x v)(hr:pw x=false){o:Bool}(Y:lB x=true->o=true):P' (RepC (J o) w) (cellsOf x) v.cells.toList:=by
 have one:YJ x=false->cellsOf x=[x]->lB x=yq x->P' (RepC (J o) w) (cellsOf x) v.cells.toList:=fun h0 D h3=>by
  have hc:=xG (o:=o) T I h0 (by rw[<-h3];exact Y)
  have h1:v.cells=#[v]:=by have:=qH hc;cases v<;>simp_all[Value.cells,Value.oneCell']
  rw[h1,D]
  refine⟨rfl,fun j y u G L=>?_⟩
  cases j with
  |zero=>simp at G L;subst G L;exact hc
  |succ j=>simp at G
 cases x
 case pagg c org =>
  rw[Rep]at I
  obtain⟨cs,rfl,h1,D⟩:=I
  refine FA (RepCs.keep (J:=J org) (w:=w) (fun k hk=>?_) (fun _ _=>rfl) (fun j=>by simp[Value.cells]) D) (by simp[Value.cells,cellsOf,h1])
  cases org
  ·cases o
   ·exact hk
   ·exact T k hk
  ·rw[Y rfl];exact hk
 case agg c =>
  rw[Rep]at I
  obtain⟨cs,rfl,D⟩:=I
  rw[Ck]at D
  refine⟨D.1.symm,fun j y u G L=>?_⟩
  simp only[pw,A5d]at hr
  have hm:y∈c:=List.mem_of_getElem? G
  have hry:YJ y=false:=by simpa using hr y hm
  refine xG T (D.2 j y u G L) hry (fun h3=>Y ?_)
  rw[lB,A7l];exact⟨y,hm,h3⟩
 all_goals first|exact one hr rfl rfl|simp[pw,YJ]at hr
def Alw{o:Bool}{x:AV}{v:Value}(hr:RepC (J o) w x v):Rep J β h w (Ab6 o x) v:=by
 cases x
 case imm=>rw[Ab6,Rep];rw[RepC]at hr ⊢;exact hr
 case iptr=>rw[Ab6,Rep];rw[RepC]at hr ⊢;exact hr
 case fn f c =>
  cases c with
  |nil=>rw[RepC]at hr;subst hr;show Rep J β h w (.fn f []) _;rw[Rep];exact⟨[],by simp,by rw[Reps]⟩
  |cons a b=>simp[RepC]at hr
 all_goals first|(rw[RepC]at hr;unfold Ab6;rw[Rep];exact hr)|(simp[RepC]at hr)
def Ag8{x:AV}{v:Value}(G:Rep J β h w x v)(Y:PR x=true):P' (Rep J β h w) (qA x) v.cells.toList:=by
 cases I:IL x with
|false =>
  have:=lI G I Y
  cases x<;>first|exact this|simp[IL]at I
| true =>
  cases x<;>simp[IL]at I
  rename_i c o
  rw[Rep]at G
  obtain⟨cs,rfl,h1,h2⟩:=G
  refine⟨by simp[qA,Value.cells,h1],fun j y u D T=>?_⟩
  simp only[qA,A5o]at D
  cases L:c[j]? with
  |none=>rw[L]at D;simp at D
  |some x0 =>
   rw[L]at D;simp at D;subst D
   obtain⟨u',k,hr⟩:=h2.at L
   simp[Value.cells]at T
   rw[T]at k;simp at k;subst k
   exact Alw hr
def QB{CR:AV->Value->Prop}:∀{ps:List (Nat×AV)}{vs:List (Nat×Value)},RepParts J β h w ps vs->(∀ p∈ps,∀ v,Rep J β h w p.2 v->P' CR (qA p.2) v.cells.toList)->PartsRel CR (Jz ps) vs
|[],vs,hr,_=>by rw[RepParts]at hr;rw[Jz,PartsRel];exact hr
|(i,x)::r,vs,hr,D=>by
  rw[RepParts]at hr
  obtain⟨v,k,rfl,G,I⟩:=hr
  rw[Jz,PartsRel]
  exact⟨v,k,rfl,D (i,x) (by simp) v G,QB I (fun p L=>D p (by simp[L]))⟩
def FB{CR:AV->Value->Prop}:∀{ps:List (Nat×AV)}{vs:List (Nat×Value)},RepParts J β h w ps vs->(∀ p∈ps,∀ v,Rep J β h w p.2 v->P' CR (cellsOf p.2) v.cells.toList)->PartsRel CR (Fl ps) vs
|[],vs,hr,_=>by rw[RepParts]at hr;rw[Fl,PartsRel];exact hr
|(i,x)::r,vs,hr,D=>by
  rw[RepParts]at hr
  obtain⟨v,k,rfl,G,I⟩:=hr
  rw[Fl,PartsRel]
  exact⟨v,k,rfl,D (i,x) (by simp) v G,FB I (fun p L=>D p (by simp[L]))⟩
def qM{t:TypeId}{place:Nat->Option (Nat×Nat)}{i:TypeInfo}{z:Value}{vs:List (Nat×Value)}{cs:Array Value}(k:bT P t=some place)(hi:P.info? t=some i)(I:i.zero=some z)
  (L:Instr.fill place z.cells vs=some cs):P.built t vs=some cs:=by
 unfold bT at k
 unfold Program.built
 split at k
 ·rename_i n e G
  cases D:P.info? e with
  |none=>simp[D]at k
  |some ie=>simp[D]at k;subst k;simp only[hi,G,I,D];exact L
 ·rename_i fs G
  cases D:fs.toList.mapM fun f=>(P.info? f.type).map fun i=>(f.offset,i.size)with
  |none=>rw[D]at k;simp at k
  |some pl =>
   rw[D]at k;simp at k;subst k
   simp only[hi,G,I,D]
   simpa using L
 ·simp at k
def zL{t:TypeId}{ps:List (Nat×AV)}{vs:List (Nat×Value)}{v:AV}(S:SimH J β h w)(hh:yr P t ps=some v)(hv:RepParts J β h w ps vs):
  ∃ u,(Instr.build t vs.toArray).run P w=.ok u w/\Rep J β h w v u:=by
 unfold yr at hh
 obtain⟨place,Y,h1⟩:=ub hh
 obtain⟨hok,h2⟩:=uc h1
 cases hpg:ps.any (fun p=>IL p.2)with
| true =>
  rw[hpg]at h2
  cases hnr:ps.any (fun p=>pw p.2)with
  | true =>
   rw[hnr]at h2
   obtain⟨zz,D,I⟩:=ub h2
   unfold ww at D
   obtain⟨i,hi,D⟩:=ub D
   cases G:i.zero with
   |none=>rw[G]at D;simp at D
   | some z =>
    rw[G]at D;simp at D;subst D
    cases L:Sp place (Jz ps) (Md z.cells.toList)with
    |none=>rw[L]at I;simp at I
    | some c =>
     rw[L]at I;simp at I;subst I
     have k:PartsRel (Rep J β h w) (Jz ps) vs:=QB hv (fun p hm u hu=>Ag8 hu (A5t.1 hok p hm))
     have T:P' (Rep J β h w) (Md z.cells.toList) z.cells.toList:=by
      have:=UA (J:=J) (β:=β) (h:=h) (w:=w) z.cells.toList
      rw[Ck]at this
      exact⟨this.1.symm,this.2⟩
     obtain⟨cs,f1,f2⟩:=QA k T L
     refine⟨.agg cs,run_build w t vs.toArray cs (qM Y hi G (by simpa using f1)),?_⟩
     rw[Rep]
     exact⟨cs.toList,rfl,Ck.2 ⟨f2.1.symm,f2.2⟩⟩
  |false =>
  rw[hnr]at h2
  have h3:=h2
  obtain⟨zz,D,I⟩:=ub h3
  obtain⟨i,z,hi,G,rfl,hp,e1,e2⟩:=Zk D
  cases L:Sp place (Fl ps) (Md z.cells.toList)with
  |none=>rw[L]at I;simp at I
  | some c =>
   rw[L]at I;simp at I;subst I
   have k:PartsRel (RepC (J (ps.any fun p=>lB p.2)) w) (Fl ps) vs:=FB hv (fun p hm u hu=>zK S.jft hu (by
     have:=A5d.1 hnr p hm;simpa using this) (fun ho=>by rw[A7l];exact⟨p,hm,ho⟩))
   have T:P' (RepC (J (ps.any fun p=>lB p.2)) w) (Md z.cells.toList) z.cells.toList:=by
    refine⟨CE _,fun j x u hx hu=>?_⟩
    obtain⟨y,g1,g2⟩:=YM (w:=w) (J:=J (ps.any fun p=>lB p.2)) hp j u hu
    rw[hx]at g1;simp at g1;subst g1;exact g2
   obtain⟨cs,f1,f2⟩:=QA k T L
   refine⟨.agg cs,run_build w t vs.toArray cs (qM Y hi G (by simpa using f1)),?_⟩
   rw[Rep]
   exact⟨cs.toList,rfl,f2.1.symm,WS f2⟩
| false =>
  rw[hpg]at h2
  obtain⟨zz,D,I⟩:=ub h2
  unfold ww at D
  obtain⟨i,hi,D⟩:=ub D
  cases G:i.zero with
  |none=>rw[G]at D;simp at D
  | some z =>
   rw[G]at D;simp at D;subst D
   cases L:Sp place (Fl ps) (Md z.cells.toList)with
   |none=>rw[L]at I;simp at I
   | some c =>
    rw[L]at I;simp at I;subst I
    have k:PartsRel (Rep J β h w) (Fl ps) vs:=FB hv (fun p hm u hu=>lI hu (by
      have:=A5d.1 hpg p hm;simpa using this) (A5t.1 hok p hm))
    have T:P' (Rep J β h w) (Md z.cells.toList) z.cells.toList:=by
     have:=UA (J:=J) (β:=β) (h:=h) (w:=w) z.cells.toList
     rw[Ck]at this
     exact⟨this.1.symm,this.2⟩
    obtain⟨cs,f1,f2⟩:=QA k T L
    refine⟨.agg cs,run_build w t vs.toArray cs (qM Y hi G (by simpa using f1)),?_⟩
    rw[Rep]
    exact⟨cs.toList,rfl,Ck.2 ⟨f2.1.symm,f2.2⟩⟩
end
end Gx
namespace Gx
open Go
section
variable{R:Type}{r:R}{P:Program}{J:Bool->Nat->Prop}{β:Cr}{h:Ap}{w:World}
def PRd(n:Nat)(x:LA)(rd:Nat->Option Value):Prop:=∀ j q,j<n->x[j]?=some q ->
 (∀ k m,q=.int k m->rd j=some (.int k m))/\(∀ b,q=.bool b->rd j=some (.bool b))/\(∀ s,q=.str s->rd j=some (.string ⟨⟨s⟩⟩))
def PRd.drop{n m o:Nat}{x:LA}{xs:Array Value}{ox sz:Nat}(I:PRd sz x (fun j=>xs[ox+j]?))(ho:o+m<=sz)(L:n=m):PRd n (x.drop o) (fun j=>(xs.extract ox (ox+sz))[o+j]?):=by
 subst L
 intro j q hj hq
 rw[A3z]at hq
 have D:=I (o+j) q (by omega) hq
 have e:∀ v,xs[ox+(o+j)]?=some v->(xs.extract ox (ox+sz))[o+j]?=some v:=by
  intro v G
  have T:=(A4o.1 G).1
  rw[Array.getElem?_extract,if_pos (by omega)];exact G
 exact⟨fun k m Y=>e _ (D.1 k m Y),fun b hb=>e _ (D.2.1 b hb),fun s hs=>e _ (D.2.2 s hs)⟩
def xH{t:TypeId}{d:TypeDesc}{xs:Array Value}{ox:Nat}{v:Value}(k:P.underlying t=some d)(D:d.isRow=false)(G:xs[ox]?=some v):(part t xs ox).run P w=.ok v w:=by
 unfold part isAgg
 simp only[Sem.run_bind,run_underlying k,Result.andThen_ok]
 cases d<;>simp_all[TypeDesc.isRow]
def cC{t:TypeId}{d:TypeDesc}{xs:Array Value}{ox s:Nat}(k:P.underlying t=some d)(D:d.isRow=true)(hs:Cs P t=some s):(part t xs ox).run P w=.ok (.agg (xs.extract ox (ox+s))) w:=by
 unfold part isAgg
 have:=Eu hs w
 simp only[Sem.run_bind,run_underlying k,Result.andThen_ok]
 cases d<;>simp_all[TypeDesc.isRow]
def Ao6(P:Program)(w:World)(D:Nat)(step:TypeId->LA->LA->(Bool->O R)->O R):Prop :=
 ∀(r:R)(t:TypeId)(s:Nat)(x y:LA)(k:Bool->O R)(xs ys:Array Value)(ox oy:Nat),Cs P t=some s->0<s->step t x y k=some r->PRd s x (fun j=>xs[ox+j]?)->PRd s y (fun j=>ys[oy+j]?) ->
  ∃ b a a',k b=some r/\(part t xs ox).run P w=.ok a w/\(part t ys oy).run P w=.ok a' w/\(Op.equalIn D t a a').run P w=.ok b w
def NH{D:Nat}{step:TypeId->LA->LA->(Bool->O R)->O R}(hs:Ao6 P w D step){x y:LA}{xs ys:Array Value}{ox oy sz:Nat}(Y:PRd sz x (fun j=>xs[ox+j]?))(hy:PRd sz y (fun j=>ys[oy+j]?)):
  ∀(fs:List Field){k:Bool->O R},fs.all (yk P sz)=true->bR step x y (fs.map fun f=>(f.offset,f.type)) k=some r ->
  ∃ b,k b=some r/\(Op.eqFields D (xs.extract ox (ox+sz)) (ys.extract oy (oy+sz)) fs).run P w=.ok b w
|[],k,_,hh=>⟨true,by simpa[bR]using hh,by simp[Op.eqFields]⟩
| f::fs,k,T,hh=>by
  rw[A8m,A2y]at T
  obtain⟨L,T⟩:=T
  unfold yk at L
  cases G:Cs P f.type with
  |none=>rw[G]at L;simp at L
  |some s =>
   rw[G]at L
   simp only[A2y,A3p]at L
   obtain⟨h1,h2,h3⟩:=L
   have I : f.name≠"_" := by simpa using h3
   rw[A3o,bR]at hh
   obtain⟨b,a,a',g1,g2,g3,g4⟩:=hs r f.type s _ _ _ (xs.extract ox (ox+sz)) (ys.extract oy (oy+sz)) f.offset f.offset G (by omega) hh (Y.drop h2 rfl) (hy.drop h2 rfl)
   obtain⟨c,e1,e2⟩:=NH hs Y hy fs T g1
   refine⟨b&&c,e1,?_⟩
   rw[Op.eqFields,if_pos I]
   simp only[Sem.run_bind,g2,g3,g4,Result.andThen_ok]
   cases b with
   |false=>simp
   |true=>simpa using e2
def qN:∀(d D:Nat),d<=D->Ao6 P w D (pp (R:=R) P d)
|0,D,_=>fun r t s x y k xs ys ox oy hs I hh=>by simp[pp]at hh
| d+1,D,hD=>fun r t s x y k xs ys ox oy hs I hh hx hy=>by
  obtain⟨D,rfl⟩:∃ D',D=D'+1:=⟨D - 1,by omega⟩
  rw[pp]at hh
  split at hh
  ·rename_i kd G
   obtain⟨u,hu1,hh⟩:=ub hh
   obtain⟨a,ha,hh⟩:=ub hh
   obtain⟨v,hv1,hh⟩:=ub hh
   obtain⟨b,hb,hh⟩:=ub hh
   have ea:u=.int kd a:=by
    unfold k9 at ha;split at ha
    ·obtain⟨T,Y⟩:=uc ha;simp[Lo]at T Y;subst T Y;rfl
    ·simp at ha
   have eb:v=.int kd b:=by
    unfold k9 at hb;split at hb
    ·obtain⟨T,hb'⟩:=uc hb;simp[Lo]at T hb';subst T hb';rfl
    ·simp at hb
   have px:=(hx 0 u I (by rw[<-A4q];exact hu1)).1 kd a ea
   have py:=(hy 0 v I (by rw[<-A4q];exact hv1)).1 kd b eb
   exact⟨_,_,_,hh,xH G rfl (by simpa using px),xH G rfl (by simpa using py),run_equalIn_int w D t kd kd a b G⟩
  ·rename_i fs G
   obtain⟨sz,L,hh⟩:=ub hh
   obtain⟨hc,hh2⟩:=Ag4 hh
   simp only[Bool.or_eq_false_iff,Bool.not_eq_false']at hc
   rw[hs]at L;simp at L;subst L
   obtain⟨b,h1,h2⟩:=NH (qN d D (by omega)) hx hy fs.toList hc.2 hh2
   refine⟨b,_,_,h1,cC G rfl hs,cC G rfl hs,?_⟩
   have hfo:P.fieldsOf t=fs:=by simp[Program.fieldsOf,G]
   rw[run_equalIn_struct w D t _ _ (by rw[hfo];exact G) hc.1,hfo]
   exact h2
  ·simp at hh
def Ack{c:LA}{org:Bool}{v:Value}{a:LA}{x:AV}(I:ym x=some a)(hr:Rep J β h w x v):∃ cs:List Value,v=.agg ⟨cs⟩/\cs.length=a.length/\∀ n,PRd n a (fun j=>(⟨cs⟩:Array Value)[0+j]?):=by
 unfold ym at I
 split at I
 ·simp at I;subst I
  rw[Rep]at hr
  obtain⟨cs,Y,L,h3⟩:=hr
  refine⟨cs,Y,L,fun n j q _ hq=>?_⟩
  rw[Cm]at h3
  obtain⟨u,T,D⟩:=h3 j q hq
  simp only[A22]at T ⊢
  refine⟨fun k m hk=>?_,fun b hb=>?_,fun s hs=>?_⟩
  ·subst hk;rw[RepC]at D;subst D;simpa using T
  ·subst hb;rw[RepC]at D;subst D;simpa using T
  ·subst hs;rw[RepC]at D;subst D;simpa using T
 ·simp at I;subst I
  rw[Rep]at hr
  obtain⟨cs,Y,L⟩:=hr
  rw[Ck]at L
  refine⟨cs,Y,L.1,fun n j q _ hq=>?_⟩
  have G:j<cs.length:=by rw[L.1];exact(A29.1 hq).1
  have D:=L.2 j q cs[j] hq (A2r G)
  simp only[A22]
  refine⟨fun k m hk=>?_,fun b hb=>?_,fun s hs=>?_⟩
  ·subst hk;rw[Rep]at D;simp[G,D]
  ·subst hb;rw[Rep]at D;simp[G,D]
  ·subst hs;rw[Rep]at D;simp[G,D]
 ·simp at I
def Acl{op:BinOp}{t:TypeId}{x y:AV}{k:AV->O R}{vx vy:Value}(hh:wv P t op x y k=some r)(Y:Rep J β h w x vx)(hy:Rep J β h w y vy)(ox oy:Operand):
  ∃ v vc,k v=some r/\(do eqGuard op t ox oy vx vy;binOp op t vx vy:Sem Value).run P w=.ok vc w/\Rep J β h w v vc:=by
 unfold wv at hh
 split at hh
 ·rename_i a b ha hb
  obtain⟨s,hs,hh⟩:=ub hh
  obtain⟨hc,hh⟩:=uc hh
  simp only[A2y,A3p,Bool.not_eq_true']at hc
  obtain⟨h1,h2,h3,G,h4⟩:=hc
  have h2:=A26 h2
  have h3:=A26 h3
  obtain⟨cs,rfl,hl,px⟩:=Ack (c:=[]) (org:=false) ha Y
  obtain⟨D,rfl,hl',py⟩:=Ack (c:=[]) (org:=false) hb hy
  have hg:=run_eqGuard_agg w op t ox oy ⟨cs⟩ ⟨D⟩ h4
  have whole:∀(l:List Value),l.length=s->(⟨l⟩:Array Value).extract 0 (0+s)=⟨l⟩:=by
   intro l hl;subst hl;simp
  have key:∀{kk:Bool->O R},pp P 8 t a b kk=some r->∃ c,kk c=some r/\(Op.equal t (.agg ⟨cs⟩) (.agg ⟨D⟩)).run P w=.ok c w:=by
   intro kk hk
   obtain⟨c,u,u',e1,I,e3,e4⟩:=qN 8 10000 (by omega) r t s a b kk ⟨cs⟩ ⟨D⟩ 0 0 hs (by omega) hk (px s) (py s)
   refine⟨c,e1,?_⟩
   have T:∃ d,P.underlying t=some d/\d.isRow=true:=by
    unfold Aox at G
    split at G
    ·rename_i fs L;exact⟨_,L,rfl⟩
    ·rename_i n e L;exact⟨_,L,rfl⟩
    ·simp at G
   obtain⟨d,L,hd⟩:=T
   rw[cC L hd hs,whole cs (by omega)]at I
   rw[cC L hd hs,whole D (by omega)]at e3
   simp only[Result.ok.injEq,and_true]at I e3
   subst I e3
   exact e4
  split at hh
  ·obtain⟨c,e1,I⟩:=key hh
   refine⟨_,.bool c,e1,?_,by rw[Rep]⟩
   simp only[Sem.run_bind,hg,Result.andThen_ok,binOp,I,Sem.run_pure]
  ·obtain⟨c,e1,I⟩:=key hh
   refine⟨_,.bool (!c),e1,?_,by rw[Rep]⟩
   simp only[Sem.run_bind,hg,Result.andThen_ok,binOp,I,Sem.run_pure]
  ·simp at hh
 ·exact Ag3 hh Y hy ox oy
end
end Gx
namespace Gx
open Go
def YP(E:Env):Prop:=∀(R:Type)(r:R)(k:AV->Gw->O R)(J:Bool->Nat->Prop)(β:Cr)(h:Ap)(w:World)(g:Bp)(d f:Nat)(args:LA)(vs:List Value),
 SimH J β h w->Looks g h->xC E g d f args k=some r->Reps J β h w args vs ->
 ∃ val ups,k val ups=some r/\(UpsFree d h ups->Calls E.P f vs.toArray w fun e w'=>∃ vc,e=.returned vc/\OpDone J β h w ups val vc w')
section
variable{R:Type}{r:R}{P:Program}{J J':Bool->Nat->Prop}{β:Cr}{h:Ap}{w w':World}{g:Bp}{o:Oper}{a:Act}{next:Act->World->Prop}{Q:Exit->Act->World->Prop}
def O0{vc:Value}(k:(execOp a.eval o).run P w=.ok (.value vc) w')(D:next (a.put o.dst vc) w'):o.wp P a w next Q:=by unfold Oper.wp;rw[k];exact D
def Ao7(k:(execOp a.eval o).run P w=.ok .skip w')(D:next (a.put o.dst undef) w'):o.wp P a w next Q:=by unfold Oper.wp;rw[k];exact D
def OpDone.same(S:SimH J β h w){v:AV}{vc:Value}(k:Rep J β h w v vc):OpDone J β h w [] v vc w:=⟨J,β,Step.refl S,k⟩
def qO{s:Gv}(SS:SimS J β h w s a.tmps):∀(xs:List Operand),Reps J β h w (xs.map (ev s)) (xs.map a.eval)
|[]=>by simp[Reps]
|x::r=>by rw[A3o,A3o,Reps];exact⟨_,_,rfl,Bv SS x,qO SS r⟩
def IV{s:Gv}(SS:SimS J β h w s a.tmps):∀(ps:List (Nat×Operand)),RepParts J β h w (ps.map fun p=>(p.1,ev s p.2)) (ps.map fun p=>(p.1,a.eval p.2))
|[]=>by simp[RepParts]
|p::r=>by rw[A3o,A3o,RepParts];exact⟨_,_,rfl,Bv SS p.2,IV SS r⟩
def qP{s:Gv}(SS:SimS J β h w s a.tmps)(x:Option Operand):Wj J β h w (x.map (ev s)) (x.map a.eval):=by
 cases x with
|none=>simp[Wj]
|some x=>simp[Wj];exact Bv SS x
def Reps.append:∀{c c':LA}{cs k:List Value},Reps J β h w c cs->Reps J β h w c' k->Reps J β h w (c++c') (cs++k)
|[],c',cs,k,D,G=>by rw[Reps]at D;subst D;exact G
|x::r,c',cs,k,D,G=>by
  rw[Reps]at D
  obtain⟨u,us,rfl,I,L⟩:=D
  rw[A4e,A4e,Reps]
  exact⟨u,us++k,rfl,I,Reps.append L G⟩
def Acm{J:Nat->Prop}:∀{c:LA}{cs:List Value},Bb c=true->Reps (fun _ _=>False) (fun _=>none) [] w c cs->RepCs J w c (fun j=>cs[j]?) 0/\cs.length=c.length:=by
 intro c cs L hr
 rw[Ck]at hr
 refine⟨?_,hr.1⟩
 rw[Cm]
 intro j x D
 have k:j<cs.length:=by rw[hr.1];exact(A29.1 D).1
 refine⟨cs[j],by simp[k],?_⟩
 have G:=hr.2 j x cs[j] D (A2r k)
 have T:Bb [x]=true:=by
  clear hr G k
  induction c generalizing j with
  |nil=>simp at D
  |cons y r Y =>
   have I:Bb r=true:=by unfold Bb at L;split at L<;>simp_all
   cases j with
   |zero=>simp at D;subst D;cases y<;>simp_all[Bb]
   |succ j=>exact Y I j (by simpa using D)
 cases x<;>simp[Bb]at T<;>(rw[Rep]at G;rw[RepC];exact G)
def Alx{co:Bool}{v:AV}{vv:Value}(k:∀(J:Bool->Nat->Prop)(β:Cr)(h:Ap),Rep J β h w v vv):Rep J β h w (Aoz co v) vv:=by
 unfold Aoz
 split
 ·rename_i c
  cases G:Bb c with
  |false=>exact k J β h
  |true =>
   have D:=k (fun _ _=>False) (fun _=>none) []
   rw[Rep]at D
   obtain⟨cs,rfl,I⟩:=D
   obtain⟨L,T⟩:=Acm (J:=J false) G I
   rw[cond_true,Rep]
   exact⟨cs,rfl,T,L⟩
 ·exact k J β h
def YQ{d:Nat}:∀{l:List (Nat×Nat)}{j:Nat}{c:LA},1<=j->A6 (Gc d l j c).2 (nid d)=false
|[],_,_,_=>by simp[Gc,A6]
| (o,sz)::l,j,c,k=>by
  rw[Gc]
  split
  ·simp only[A6]
   rw[PX (by omega),cond_false]
   exact YQ (by omega)
  ·exact YQ (by omega)
def vG{d:Nat}{t:TypeId}{k:AV->Gw->O R}(S:SimH J β h w)(hh:TV P g d t k=some r):
  ∃ v val ups,(∃ i,P.info? t=some i/\i.zero=some v)/\k val ups=some r/\(UpsFree d h ups->∃ vc w',(Instr.box t v).run P w=.ok vc w'/\OpDone J β h w ups val vc w'):=by
 unfold TV at hh
 split at hh
 ·rename_i c I
  obtain⟨hc,h1⟩:=uc hh
  simp only[A2y]at hc
  obtain⟨hb,T⟩:=hc
  obtain⟨v,hv,he⟩:∃ v,(∃ i,P.info? t=some i/\i.zero=some v)/\gU v=.agg c:=by
   unfold Ab4 at I
   cases hi:P.info? t with
   |none=>simp[hi]at I
   |some i =>
    cases G:i.zero with
    |none=>simp[hi,G]at I
    |some v=>simp[hi,G]at I;exact⟨v,⟨i,rfl,G⟩,I⟩
  have hr:=T_ (J:=J) (β:=β) (h:=h) (w:=w) v
  rw[he,Rep]at hr
  obtain⟨cs,rfl,hr⟩:=hr
  refine⟨_,_,_,hv,h1,fun hf=>⟨_,_,IU,?_⟩⟩
  have hn:=hf.nid (by simp[Hs,Zd,A6])
  obtain⟨β',A,hA⟩:=Ur (d:=d) (l:=Qx P t) (j:=1) S (A2s _) (by simp at hb;omega) (fun i hi hi2 Y=>hf _ (by rw[Hs,Y];rfl) (by unfold GB;simp;omega)) hr
  have hn':Ai (Al (Gc d (Qx P t) 1 c).2 h) (nid d)=none:=by rw[B3 _ _ _ (YQ (A2s _))];exact hn
  have L:∀(j:Nat) u,cs[j]?=some u->u.oneCell'=true:=fun j u hu=>by
   rw[Ck]at hr
   have D:j<c.length:=by rw[<-hr.1];exact(A29.1 hu).1
   exact Nf (Qz T j c[j] (A2r D)) (hr.2 j c[j] u (A2r D) hu)
  rw[Ck]at hA
  refine OpDone.after A (UD A.sim hn' rfl rfl (by simp[Value.cells,hA.1]) ⟨fun hp=>by simp at hp,fun _ j y hj=>?_⟩) (Tk _ _)
  have D:j<cs.length:=by rw[hA.1];exact(A29.1 hj).1
  exact⟨cs[j],by simp[Value.cells,D],hA.2 j y _ hj (A2r D),L j _ (A2r D)⟩
 ·simp at hh
def zM{co:Bool}{d:Nat}{t:TypeId}{k:AV->Gw->O R}(S:SimH J β h w)(hl:Looks g h)(hh:g9 P g co d t k=some r):
  ∃ v val ups,(∃ i,P.info? t=some i/\i.zero=some v)/\k val ups=some r/\(UpsFree d h ups->∃ vc w',(Instr.box t v).run P w=.ok vc w'/\OpDone J β h w ups val vc w'):=by
 have zv:∀{z:AV},Ab4 P t=some z->∃ v,(∃ i,P.info? t=some i/\i.zero=some v)/\gU v=z:=by
  intro z D
  unfold Ab4 at D
  cases hi:P.info? t with
  |none=>simp[hi]at D
  |some i =>
   cases G:i.zero with
   |none=>simp[hi,G]at D
   |some v=>simp[hi,G]at D;exact⟨v,⟨i,rfl,G⟩,D⟩
 unfold g9 at hh
 split at hh
 ·rename_i el hu D
  obtain⟨v,I,L⟩:=zv D
  obtain⟨sz,hs,hh⟩:=ub hh
  refine⟨v,_,_,I,hh,fun hf=>⟨_,_,IU,?_⟩⟩
  have hr:=T_ (J:=J) (β:=β) (h:=h) (w:=w) v
  rw[L,Rep]at hr;subst hr
  have T:∀ b,b=nid d+1->GB d b=true:=fun b hb=>by subst hb;unfold GB nid;simp
  have Y:Ai h (nid d+1)=none:=hf _ (by simp[A6]) (T _ rfl)
  have h2:Ai h (nid d)=none:=hf.nid (by simp[A6])
  have A:=Step.newNone S (d:=nid d+1) (x:=F7 sz) Y rfl
  have e:([(nid d+1,some (F7 sz)),(nid d,some {dead:=false,sealed:=false,pure:=false,taint:=false,sz:=0,cells:=[.own (nid d+1) 0 0]})]:Gw)=[(nid d+1,some (F7 sz))]++[(nid d,some {dead:=false,sealed:=false,pure:=false,taint:=false,sz:=0,cells:=[.own (nid d+1) 0 0]})]:=rfl
  rw[e]
  refine OpDone.after A (UD A.sim ?_ rfl rfl (by simp[Value.cells]) ⟨fun hp=>by simp at hp,fun _ j y hj=>?_⟩) (Tk _ _)
  ·simp only[Al];rw[Ah,if_neg (by omega)];exact h2
  ·cases j with
   |zero =>
    simp at hj;subst hj
    refine⟨.slice none 0 0,by simp[Value.cells],?_,rfl⟩
    rw[Rep]
    exact⟨F7 sz,none,0,⟨by simp[Al,Ah],rfl⟩,rfl,A2s _,.inl rfl⟩
   |succ j=>simp at hj
 ·rename_i z D _
  obtain⟨v,I,L⟩:=zv D
  obtain⟨val,ups,Y,h2⟩:=qI S hl hh (vv:=v) (Alx fun J β h=>by rw[<-L];exact T_ v)
  exact⟨v,val,ups,I,Y,h2⟩
 ·simp at hh
def Acn{c x y:AV}{vc vx vy:Value}{k:AV->O R}(hh:xD c x y k=some r)(hc:Rep J β h w c vc)(D:Rep J β h w x vx)(G:Rep J β h w y vy):
  ∃ v,k v=some r/\∃ t:Bool,vc=.bool t/\Rep J β h w v (if t then vx else vy):=by
 unfold xD at hh
 split at hh
 ·rename_i t a b
  rw[Rep]at hc D G
  subst hc D G
  exact⟨_,hh,t,rfl,by cases t<;>simp[Rep]⟩
 ·rename_i t x _
  rw[Rep]at hc;subst hc
  obtain⟨I,L⟩:=uc hh
  subst I
  exact⟨_,L,true,rfl,D⟩
 ·rename_i t _ _ _
  rw[Rep]at hc;subst hc
  obtain⟨I,L⟩:=Ag4 hh
  subst I
  exact⟨_,L,false,rfl,G⟩
 ·rename_i t _ _ _
  rw[Rep]at hc;subst hc
  cases t
  ·exact⟨_,hh,false,rfl,G⟩
  ·exact⟨_,hh,true,rfl,D⟩
 ·simp at hh
def Ag9{E:Env}(hC:YP E){d:Nat}{s:Gv}{k:AV->Gw->O R}(S:SimH J β h w)(SS:SimS J β h w s a.tmps)(hl:Looks g h)
  (hh:vD E g d (ev s) o.op k=some r) :
  ∃ val ups,k val ups=some r/\(UpsFree d h ups->(∀ vc w',OpDone J β h w ups val vc w'->next (a.put o.dst vc) w')->o.wp E.P a w next Q):=by
 unfold vD at hh
 have same:∀{v:AV}{vc:Value},k v []=some r->(execOp a.eval o).run E.P w=.ok (.value vc) w->Rep J β h w v vc ->
   ∃ val ups,k val ups=some r/\(UpsFree d h ups->(∀ vc w',OpDone J β h w ups val vc w'->next (a.put o.dst vc) w')->o.wp E.P a w next Q) :=
  fun hk hrun hr=>⟨_,_,hk,fun _ hn=>O0 hrun (hn _ _ (OpDone.same S hr))⟩
 split at hh
 ·rename_i x L
  exact same hh (by simp[execOp,L]) (Bv SS x)
 ·rename_i x L
  exact same hh (by simp[execOp,L]) (Bv SS x)
 ·rename_i c x y L
  obtain⟨v,D,G⟩:=Acn hh (Bv SS c) (Bv SS x) (Bv SS y)
  obtain⟨t,ht,hr⟩:=G
  refine same D (vc:=if t then a.eval x else a.eval y) ?_ hr
  cases t<;>simp[execOp,L,ht,Go.asBool]
 ·rename_i t L
  obtain⟨v,val,ups,h0,D,G⟩:∃ v val ups,(∃ i,E.P.info? t=some i/\i.zero=some v)/\k val ups=some r/\(UpsFree d h ups->∃ vc w',(Instr.box t v).run E.P w=.ok vc w'/\OpDone J β h w ups val vc w'):=by
   cases hm:Dj E.cob (d+1000000)with
   |true=>rw[hm]at hh;exact vG S hh
   |false=>rw[hm]at hh;exact zM S hl hh
  refine⟨val,ups,D,fun hf hn=>?_⟩
  obtain⟨vc,w',I,h4⟩:=G hf
  refine O0 ?_ (hn vc w' h4)
  rw[IU]at I
  simp only[Result.ok.injEq]at I
  obtain⟨rfl,rfl⟩:=I
  obtain⟨i,hi,hiz⟩:=h0
  simp[execOp,L,Instr.alloc,zeroValue,typeInfo,hi,hiz,newVar,newRow]
 ·rename_i t x L
  obtain⟨v',h0,hv'⟩:=zF hh (Bv SS x)
  obtain⟨val,ups,D,G⟩:=qI S hl h0 hv'
  refine⟨val,ups,D,fun hf hn=>?_⟩
  obtain⟨vc,w',I,h4⟩:=G hf
  exact O0 (by simp[execOp,L,I]) (hn vc w' h4)
 ·rename_i t parts L
  have:(parts.map fun p=>(p.1,a.eval p.2))=(parts.toList.map fun p=>(p.1,a.eval p.2)).toArray:=by apply A44;simp
  rw[YO]at hh
  obtain⟨v,Y,hh⟩:=ub hh
  obtain⟨u,D,G⟩:=zL (P:=E.P) S Y (IV SS parts.toList)
  obtain⟨val,ups,I,h4⟩:=Ag7 S hh G
  refine⟨val,ups,I,fun hf hn=>O0 ?_ (hn _ _ (h4 hf))⟩
  simp[execOp,L,this,D]
 ·rename_i t len parts L
  have:(parts.map fun p=>(p.1,a.eval p.2))=(parts.toList.map fun p=>(p.1,a.eval p.2)).toArray:=by apply A44;simp
  obtain⟨val,ups,D,G⟩:=cB S hl hh (IV SS parts.toList)
  refine⟨val,ups,D,fun hf hn=>?_⟩
  obtain⟨vc,w',I,h4⟩:=G hf
  exact O0 (by simp[execOp,L,this,I]) (hn vc w' h4)
 ·rename_i t p L
  obtain⟨v,vc,D,G,I⟩:=lH S hl hh (Bv SS p)
  exact same D (by simp[execOp,L,G]) I
 ·rename_i t p x L
  obtain⟨val,ups,D,J',β',w',G,I,rfl⟩:=zE S hl hh (Bv SS p) (Bv SS x)
  exact⟨.undef,ups,D,fun _ hn=>Ao7 (w':=w') (by simp[execOp,L,G]) (hn undef w' ⟨J',β',I,by simp[Rep]⟩)⟩
 ·rename_i x L
  have D:=Bv SS x
  split at hh
  ·rename_i c oo hx
   rw[hx]at D
   refine same hh (vc:=a.eval x) ?_ D
   rw[Rep,RepC]at D
   obtain⟨ad,G,_⟩:=D
   simp[execOp,L,G]
  ·rename_i b oo hx
   rw[hx]at D
   refine same hh (vc:=a.eval x) ?_ D
   rw[Rep]at D
   obtain⟨_,kk,o',_,G,_⟩:=D
   simp[execOp,L,G]
  ·simp at hh
 ·rename_i op t x y t2 L
  obtain⟨v,vc,D,G,I⟩:=Acl hh (Bv SS x) (Bv SS y) x y
  refine same D ?_ I
  simp only[execOp,L]
  rw[Sem.run_bind,G];simp
 ·rename_i op t x L
  obtain⟨v,Y,hh⟩:=ub hh
  obtain⟨vc,G,I⟩:=Alu (P:=E.P) Y (Bv SS x)
  exact same hh (by simp[execOp,L,G]) I
 ·rename_i src dst x L
  obtain⟨val,ups,D,G⟩:=Acj S hl hh (Bv SS x)
  refine⟨val,ups,D,fun hf hn=>?_⟩
  obtain⟨vc,w',I,h4⟩:=G hf
  exact O0 (by simp[execOp,L,I]) (hn vc w' h4)
 ·rename_i f first caps L
  obtain⟨hf,hh⟩:=uc hh
  have hf':f<1000000:=by simpa using hf
  have key:∀(a n:Nat),a<1000000->(a+1000000*n)%1000000=a/\(a+1000000*n)/1000000=n:=by intro a n h;omega
  have e1:=(key f first.toList.length hf').1
  have e2:=(key f first.toList.length hf').2
  refine same (vc:=.func (.func f) ⟨first.toList.map a.eval⟩ ⟨caps.toList.map a.eval⟩) hh ?_ ?_
  ·simp only[execOp,L,Instr.makeFunc]
   simp
   refine⟨?_,?_⟩<;>(apply A44;simp)
  ·rw[Rep,e1,e2]
   refine⟨(first.toList++caps.toList).map a.eval,?_,qO SS _⟩
   simp
 ·rename_i t l c L
  obtain⟨val,ups,D,G⟩:=Acf S hh (Bv SS l) (Bv SS c)
  refine⟨val,ups,D,fun hf hn=>?_⟩
  obtain⟨vc,w',I,h4⟩:=G hf
  exact O0 (by simp[execOp,L,I]) (hn vc w' h4)
 ·rename_i t x lo hi mx L
  obtain⟨v,vc,D,G,I⟩:=zD S hl hh (Bv SS x) (qP SS lo) (qP SS hi) (qP SS mx)
  exact same D (by simp[execOp,L,G]) I
 ·rename_i t x f L
  obtain⟨v,vc,D,G,I⟩:=iC hh (Bv SS x)
  exact same D (by simp[execOp,L,G]) I
 ·rename_i t x f L
  obtain⟨v,vc,D,G,I⟩:=zB hh (Bv SS x)
  exact same D (by simp[execOp,L,G]) I
 ·rename_i t x i L
  obtain⟨v,vc,D,G,I⟩:=iB hh (Bv SS x) (Bv SS i)
  exact same D (by simp[execOp,L,G]) I
 ·rename_i t x i L
  obtain⟨v,vc,D,G,I⟩:=zC hh (Bv SS x) (Bv SS i)
  exact same D (by simp[execOp,L,G]) I
 ·rename_i t i L
  split at hh
  ·rename_i vs ht
   obtain⟨v,Y,hh⟩:=ub hh
   have D:=Bv SS t
   rw[ht,Rep]at D
   obtain⟨cs,G,I⟩:=D
   rw[Ck]at I
   have hlt:i<cs.length:=by rw[I.1];exact(A29.1 Y).1
   refine same hh (vc:=cs[i]) ?_ (I.2 i v _ Y (A2r hlt))
   simp[execOp,L,Instr.extract,G,hlt]
  ·simp at hh
 ·rename_i c L
  split at hh
  ·rename_i hc
   split at hh
   ·rename_i x t D G
    obtain⟨v,Y,hh⟩:=ub hh
    have e1:c.args=#[x]:=by apply A44;simpa using D
    have e2:c.argTypes=#[t]:=by apply A44;simpa using G
    obtain⟨vc,I,h4⟩:=Ag5 (P:=E.P) (ty:=o.type) Y (Bv SS x)
    refine same hh ?_ h4
    simp[execOp,L,resolve,hc,e1,e2,invoke,builtin,I]
   ·simp at hh
  ·rename_i hc
   split at hh
   ·rename_i x y t tx D G
    have e1:c.args=#[x,y]:=by apply A44;simpa using D
    have e2:c.argTypes=#[t,tx]:=by apply A44;simpa using G
    obtain⟨val,ups,I,h4⟩:=vF (ty:=o.type) S hl hh (Bv SS x) (Bv SS y)
    refine⟨val,ups,I,fun hf hn=>?_⟩
    obtain⟨vc,w',h5,h6⟩:=h4 hf
    refine O0 ?_ (hn vc w' h6)
    simp[execOp,L,resolve,hc,e1,e2,invoke,builtin,h5]
   ·simp at hh
  ·rename_i hc
   split at hh
   ·rename_i x y t tx D G
    have e1:c.args=#[x,y]:=by apply A44;simpa using D
    have e2:c.argTypes=#[t,tx]:=by apply A44;simpa using G
    obtain⟨val,ups,I,vc,w',h5,h6⟩:=Aci (tx:=tx) (ty:=o.type) S hl hh (Bv SS x) (Bv SS y)
    refine⟨val,ups,I,fun hf hn=>?_⟩
    refine O0 ?_ (hn vc w' h6)
    simp[execOp,L,resolve,hc,e1,e2,invoke,builtin,h5]
   ·simp at hh
  ·rename_i hc
   split at hh
   ·rename_i x t D G
    have e1:c.args=#[x]:=by apply A44;simpa using D
    have e2:c.argTypes=#[t]:=by apply A44;simpa using G
    obtain⟨val,ups,I,vc,w',h5,h6⟩:=zJ (ty:=o.type) S hl hh (Bv SS x)
    refine⟨val,ups,I,fun hf hn=>?_⟩
    refine O0 ?_ (hn vc w' h6)
    simp[execOp,L,resolve,hc,e1,e2,invoke,builtin,h5]
   ·simp at hh
  ·rename_i hc
   split at hh
   ·rename_i x y D
    obtain⟨v,Y,hh⟩:=ub hh
    have e1:c.args=#[x,y]:=by apply A44;simpa using D
    have G:=Bv SS x
    have I:=Bv SS y
    unfold Als at Y
    split at Y
    ·rename_i k1 a1 k2 a2 hx hy
     simp at Y;subst Y
     rw[hx,Rep]at G;rw[hy,Rep]at I
     refine same hh (vc:=.int k1 (Cn a1 a2)) ?_ (by rw[Rep])
     simp[execOp,L,resolve,hc,e1,invoke,builtin,G,I,Builtin.min_,Builtin.min2,Cn,cond_eq_ite]
    ·simp at Y
   ·rename_i x y z D
    obtain⟨q,hq,hh⟩:=ub hh
    obtain⟨v,Y,hh⟩:=ub hh
    have e1:c.args=#[x,y,z]:=by apply A44;simpa using D
    have G:=Bv SS x
    have I:=Bv SS y
    have h4:=Bv SS z
    unfold Als at hq
    split at hq
    ·rename_i k1 a1 k2 a2 hx hy
     simp at hq;subst hq
     unfold Als at Y
     split at Y
     ·rename_i k3 a3 k4 a4 hx2 hz
      simp at hx2;obtain⟨rfl,rfl⟩:=hx2
      simp at Y;subst Y
      rw[hx,Rep]at G;rw[hy,Rep]at I;rw[hz,Rep]at h4
      refine same hh (vc:=.int k1 (Cn (Cn a1 a2) a4)) ?_ (by rw[Rep])
      simp[execOp,L,resolve,hc,e1,invoke,builtin,G,I,h4,Builtin.min_,Builtin.min2,Cn,cond_eq_ite]
     ·simp at Y
    ·simp at hq
   ·simp at hh
  ·rename_i hc
   split at hh
   ·rename_i x y D
    obtain⟨v,Y,hh⟩:=ub hh
    have e1:c.args=#[x,y]:=by apply A44;simpa using D
    have G:=Bv SS x
    have I:=Bv SS y
    unfold Alt at Y
    split at Y
    ·rename_i k1 a1 k2 a2 hx hy
     simp at Y;subst Y
     rw[hx,Rep]at G;rw[hy,Rep]at I
     refine same hh (vc:=.int k1 (Fc a1 a2)) ?_ (by rw[Rep])
     simp[execOp,L,resolve,hc,e1,invoke,builtin,G,I,Builtin.max_,Builtin.max2,Fc,cond_eq_ite]
    ·simp at Y
   ·rename_i x y z D
    obtain⟨q,hq,hh⟩:=ub hh
    obtain⟨v,Y,hh⟩:=ub hh
    have e1:c.args=#[x,y,z]:=by apply A44;simpa using D
    have G:=Bv SS x
    have I:=Bv SS y
    have h4:=Bv SS z
    unfold Alt at hq
    split at hq
    ·rename_i k1 a1 k2 a2 hx hy
     simp at hq;subst hq
     unfold Alt at Y
     split at Y
     ·rename_i k3 a3 k4 a4 hx2 hz
      simp at hx2;obtain⟨rfl,rfl⟩:=hx2
      simp at Y;subst Y
      rw[hx,Rep]at G;rw[hy,Rep]at I;rw[hz,Rep]at h4
      refine same hh (vc:=.int k1 (Fc (Fc a1 a2) a4)) ?_ (by rw[Rep])
      simp[execOp,L,resolve,hc,e1,invoke,builtin,G,I,h4,Builtin.max_,Builtin.max2,Fc,cond_eq_ite]
     ·simp at Y
    ·simp at hq
   ·simp at hh
  ·rename_i fo hc
   split at hh
   ·rename_i f0 caps hf
    have D:=Bv SS fo
    rw[hf,Rep]at D
    obtain⟨cs0,G,h30⟩:=D
    cases T:yx E.P (f0%1000000)with
    |false =>
     rw[T,cond_false]at hh;cases hh
    |true =>
    rw[T,cond_true]at hh
    have htk:Reps J β h w (caps.take (f0/1000000)) (cs0.take (f0/1000000))/\Reps J β h w (caps.drop (f0/1000000)) (cs0.drop (f0/1000000)):=by
     rw[Ck]at h30
     refine⟨Ck.2 ⟨by simp[h30.1],fun j x u hx hu=>?_⟩,Ck.2 ⟨by simp[h30.1],fun j x u hx hu=>?_⟩⟩
     ·rw[A47]at hx hu
      split at hx
      ·rename_i hj;rw[if_pos hj]at hu;exact h30.2 j x u hx hu
      ·simp at hx
     ·rw[A3z]at hx hu;exact h30.2 _ x u hx hu
    generalize f0%1000000=f at *
    generalize cs0.take (f0/1000000)=fs at *
    generalize cs0.drop (f0/1000000)=cs at *
    obtain⟨val,ups,h4,h5⟩:=hC R r k J β h w g d f _ _ S hl hh (htk.1.append ((qO SS c.args.toList).append htk.2))
    refine⟨val,ups,h4,fun hfr hn=>?_⟩
    have hcall:=h5 hfr
    unfold yx at T
    cases hfn:E.P.funcs[f]? with
    |none=>rw[hfn]at T;simp at T
    | some fn =>
     rw[hfn]at T
     simp at T
     obtain⟨hb1,hb2⟩:=T
     have hb3:fn.body.isNone=false:=by cases hq:fn.body<;>simp_all
     have hargs:(⟨fs⟩:Array Value)++c.args.map a.eval++(⟨cs⟩:Array Value)=(fs++(c.args.toList.map a.eval++cs)).toArray:=by apply A44;simp
     have hrun:(execOp a.eval o).run E.P w=.ok (.enter f (fs++(c.args.toList.map a.eval++cs)).toArray) w:=by
      simp only[execOp,L,Sem.run_bind,resolve,hc,G,Deferred.ofValue,Sem.run_pure,Result.andThen_ok,invoke,callFunc,run_program,hfn]
      simp only[hb3,hargs]
      simp[hb2]
     unfold Oper.wp
     rw[hrun]
     refine Calls.mono hcall ?_
     rintro e w' ⟨vc,rfl,hd⟩
     exact hn vc w' hd
   ·simp at hh
  ·simp at hh
 ·simp at hh
end
end Gx
namespace Gx
open Go
structure Start where
 J:Bool->Nat->Prop
 β:Cr
 h:Ap
 w:World
structure Inv(Z:Start)(nt:Nat)(J:Bool->Nat->Prop)(β:Cr)(st:St)(a:Act)(w:World):Prop where
 sim:SimH J β st.h w
 ss:SimS J β st.h w st.s a.tmps
 tmps:a.tmps.size=nt
 defers:a.defers=[]
 os:w.os=Z.w.os
 tape:w.tape=Z.w.tape
 output:w.output=Z.w.output
 size:Z.w.heap.size<=w.heap.size
 frame:∀ k,k<Z.w.heap.size->¬ Ace Z.β Z.h k->w.heap[k]?=Z.w.heap[k]?
 wr:∀ k,Ace β st.h k->k<Z.w.heap.size->Ace Z.β Z.h k
 jsub:∀ o k,Z.J o k->J o k
 jup:∀ o k,J o k->Z.J o k\/Ace Z.β Z.h k\/Z.w.heap.size<=k
 sizes:∀ k,Ba Z.w k<=Ba w k
 zlt:∀ b x0,Ai Z.h b=some x0->b<200000
 zge:∀ b x0,Ai Z.h b=some x0->100000<=b
 outs:∀ b x0 x,Ai Z.h b=some x0->Ai st.h b=some x->x.dead=false->(β b=Z.β b/\x.mp=x0.mp)/\x.sz=x0.sz/\(x0.mp=false->x.cells.length=x0.cells.length)/\x0.dead=false
section
variable{R:Type}{r:R}{Z:Start}{nt:Nat}{J J':Bool->Nat->Prop}{β β':Cr}{st:St}{h':Ap}{a:Act}{w w':World}{ops:Array Oper}{o:Oper}
def Ng{s:Gv}{d:Option Nat}{v:AV}{i:Nat}:Fu (Ag2 nt s d v) i=if d=some i/\i<nt then v else Fu s i:=by
 unfold Ag2
 cases d with
|none=>simp
| some d =>
  simp only[A3k]
  cases D:Nat.blt d nt with
  |true =>
   have k:d<nt:=by simpa using D
   simp only[cond_true]
   rw[K7]
   by_cases e:i=d
   ·subst e;simp[k]
   ·rw[if_neg e,if_neg (fun hh=>e hh.1.symm)]
  |false =>
   have k:¬ d<nt:=by intro G;rw[show Nat.blt d nt=true by simpa using G]at D;cases D
   simp only[cond_false]
   rw[if_neg (fun hh=>by obtain⟨I,L⟩:=hh;subst I;exact k L)]
def SimS.put{h:Ap}{s:Gv}{d:Option Nat}{v:AV}{vc:Value}(H:SimS J β h w s a.tmps)(I:a.tmps.size=nt)(G:Rep J β h w v vc):SimS J β h w (Ag2 nt s d v) (a.put d vc).tmps:=by
 refine⟨fun i u k=>?_,fun i hi=>?_⟩
 ·rw[Ng]
  cases d with
  |none=>simp;exact H.slot i u k
  | some d =>
   simp only[Act.put]at k
   rw[Array.getElem?_setIfInBounds]at k
   by_cases e:d=i
   ·subst e
    simp only[if_true]at k
    by_cases D:d<a.tmps.size
    ·simp[D]at k;subst k
     rw[if_pos ⟨rfl,by omega⟩];exact G
    ·simp[D]at k
   ·rw[if_neg e]at k
    rw[if_neg (fun hh=>e (by simpa using hh.1))]
    exact H.slot i u k
 ·have hs:(a.put d vc).tmps.size=a.tmps.size:=by cases d<;>simp[Act.put]
  rw[hs]at hi
  rw[Ng,if_neg (by omega)]
  exact H.out i hi
def SimS.ext{h:Ap}{s:Gv}{t:Array Value}(E:Ext J β h w J' β' h' w')(H:SimS J β h w s t):SimS J' β' h' w' s t:=⟨fun i v k=>Rep.ext E (H.slot i v k),H.out⟩
def Inv.step(I:Inv Z nt J β st a w)(A:Step J β st.h w J' β' h' w')(T:∀ b x,Ai h' b=some x->Ai st.h b=none->Hh<=b):Inv Z nt J' β' {s:=st.s,h:=h'} a w' where
 sim:=A.sim
 ss:=I.ss.ext A.ext
 tmps:=I.tmps
 defers:=I.defers
 os:=A.os.trans I.os
 tape:=A.tape.trans I.tape
 output:=A.output.trans I.output
 size:=A4f I.size A.size
 frame k D G:=(A.frame k (A3e D I.size) (fun hm'=>G (I.wr k hm' D))).trans (I.frame k D G)
 wr k G D:=I.wr k (A.wr k G (A3e D I.size)) D
 jsub o k hj:=A.ext.jsub o k (I.jsub o k hj)
 jup o k hj:=by
  rcases A.jup o k hj with Y|Y|Y
  ·exact I.jup o k Y
  ·by_cases D:k<Z.w.heap.size
   ·exact .inr (.inl (I.wr k Y D))
   ·exact .inr (.inr (by omega))
  ·exact .inr (.inr (A4f I.size Y))
 sizes k:=by
  refine A4f (I.sizes k) ?_
  by_cases G:∃ b o,β b=some (k,o)
  ·obtain⟨b,o,L⟩:=G;exact A.ext.size b k o L
  ·by_cases D:k<w.heap.size
   ·have:=A.frame k D (fun ⟨b,x,o,_,_,_,L⟩=>G ⟨b,o,L⟩)
    simp[Ba,this]
   ·simp[Ba,A4z (A5k D)]
 outs b x0 x h0 hx hd:=by
  cases L:Ai st.h b with
  |none=>have:=T b x hx L;have:=I.zlt b x0 h0;unfold Hh at *;omega
  | some y =>
   obtain⟨x',⟨g1,gm⟩,g2⟩:=A.ext.blk b y L
   change Ai h' b=some x at hx
   rw[hx]at g1;simp at g1;subst g1
   rcases g2 with g2|⟨g2,g3,g4,g5⟩
   ·simp[hd]at g2
   ·obtain⟨⟨e1,em⟩,e2,e3,e4⟩:=I.outs b x0 y h0 L g2
    exact⟨⟨g3.trans e1,gm.trans em⟩,g4.trans e2,fun h=>(g5 (em.trans h)).trans (e3 h),e4⟩
 zlt:=I.zlt
 zge:=I.zge
def Inv.put(I:Inv Z nt J β st a w){d:Option Nat}{v:AV}{vc:Value}(k:Rep J β st.h w v vc):Inv Z nt J β {s:=Ag2 nt st.s d v,h:=st.h} (a.put d vc) w where
 sim:=I.sim
 ss:=I.ss.put I.tmps k
 tmps:=by cases d<;>simp[Act.put,I.tmps]
 defers:=by cases d<;>simp[Act.put,I.defers]
 os:=I.os
 tape:=I.tape
 output:=I.output
 size:=I.size
 frame:=I.frame
 wr:=I.wr
 jsub:=I.jsub
 jup:=I.jup
 sizes:=I.sizes
 zlt:=I.zlt
 zge:=I.zge
 outs:=I.outs
def qQ{d:Nat}{F:List Nat}{h:Ap}:∀{ups:Gw},WN d F h ups=true->∀ b,A6 ups b=true->(GB d b=true/\Ai h b=none)\/(GB d b=false/\Dj F b=true/\∃ x,Ai h b=some x)
|[],_,b,D=>by simp[A6]at D
| (i,_)::r,k,b,D=>by
  rw[WN]at k
  simp at k
  rw[A6]at D
  cases hi:beq i b with
  | true =>
   have:i=b:=A26 hi
   subst this
   cases G:GB d i with
   |true=>rw[G]at k;simp at k;exact .inl ⟨rfl,k.1⟩
   |false =>
    rw[G]at k;simp at k
    obtain⟨⟨I,L⟩,_⟩:=k
    exact .inr ⟨rfl,I,A55.1 L⟩
  |false=>rw[hi]at D;exact qQ k.2 b (by simpa using D)
def Ao8{d b:Nat}(k:GB d b=true):Hh<=b:=by
 unfold GB nid at k
 simp at k
 unfold Hh;omega
def zN{d:Nat}{F:List Nat}{h:Ap}{ups:Gw}(I:WN d F h ups=true){b:Nat}{x:Blk}(k:Ai (Al ups h) b=some x)(D:Ai h b=none):Hh<=b:=by
 cases hi:A6 ups b with
|false=>rw[B3 _ _ _ hi,D]at k;cases k
|true =>
  rcases qQ I b hi with⟨L,_⟩|⟨_,_,y,G⟩
  ·exact Ao8 L
  ·rw[D]at G;cases G
def Aha{h:Ap}{F:List Nat}:Looks (fun b=>cond (Dj F b) (Ai h b) none) h:=fun b x k=>by
 cases D:Dj F b with
|true=>simpa[D]using k
|false=>simp[D]at k
def vH{h:Ap}{s:Gv}(H:SimS J β h w s a.tmps){t:Bool}(k:IP ops s o=some t):Region.wanted o (yielded ops a.tmps)=t:=by
 unfold IP at k
 unfold Region.wanted
 split at k
 ·rename_i D;rw[D];simpa using k
 ·rename_i j want D
  rw[D]
  simp only
  unfold yielded
  split at k
  ·rename_i t' G
   rw[G]
   simp only[A34]
   cases L:a.tmps[t']? with
   |none =>
    have:=H.out t' (by simpa using L)
    rw[this]at k;simp at k
   | some v =>
    have hr:=H.slot t' v L
    split at k
    ·rename_i b I
     rw[I,Rep]at hr;subst hr
     simp at k;subst k
     simp
    ·rename_i I
     rw[I,Rep]at hr
     obtain⟨cs,rfl,hc⟩:=hr
     rw[Reps]at hc;subst hc
     simp at k;subst k
     simp
    ·simp at k
  ·rename_i G
   rw[G]
   simp at k;subst k
   simp
def qS{E:Env}(hC:YP E)(I:Inv Z E.nt J β st a w){k:St->Foot->O R}(hh:Ab9 E ops o st k=some r){K:Act->World->Prop}{Q:Exit->Act->World->Prop}:
  ∃ st' f,k st' f=some r/\((∀ a' w' J' β',Inv Z E.nt J' β' st' a' w'->K a' w')->if Region.wanted o (yielded ops a.tmps)then o.wp E.P a w K Q else K (a.put o.dst undef) w):=by
 unfold Ab9 at hh
 obtain⟨t,T,D⟩:=ub hh
 rw[vH I.ss T]
 cases t with
|false =>
  refine⟨_,_,D,fun hK=>?_⟩
  simp only[A4m,if_false]
  exact hK _ _ J β (I.put (by rw[Rep];exact⟨[],rfl,by rw[Reps]⟩))
| true =>
  rw[cond_true]at D
  obtain⟨val,ups,Y,h3⟩:=Ag9 (o:=o) (next:=K) (Q:=Q) hC I.sim I.ss Aha D
  obtain⟨L,h4⟩:=uc Y
  refine⟨_,_,h4,fun hK=>?_⟩
  simp only[if_true]
  refine h3 (fun b hb G=>?_) (fun vc w' hd=>?_)
  ·rcases qQ L b hb with⟨_,g⟩|⟨g,_⟩
   ·exact g
   ·rw[G]at g;cases g
  ·obtain⟨J',β',A,hv⟩:=hd
   exact hK _ _ J' β' ((I.step A (fun b x hx G=>zN L hx G)).put hv)
def Eqv(a b:St):Prop:=(∀ t,Fu a.s t=Fu b.s t)/\(∀ b',Ai a.h b'=Ai b.h b')
def Eqv.refl(a:St):Eqv a a:=⟨fun _=>rfl,fun _=>rfl⟩
def Eqv.symm{a b:St}(h:Eqv a b):Eqv b a:=⟨fun t=>(h.1 t).symm,fun t=>(h.2 t).symm⟩
def Eqv.trans{a b c:St}(h:Eqv a b)(k:Eqv b c):Eqv a c:=⟨fun t=>(h.1 t).trans (k.1 t),fun t=>(h.2 t).trans (k.2 t)⟩
def Inv.eqv{nt:Nat}{J:Bool->Nat->Prop}{β:Cr}{st IJ:St}{a:Act}{w:World}(I:Inv Z nt J β st a w)(h:Eqv st IJ):Inv Z nt J β IJ a w:=by
 have hr:∀{x v},Rep J β st.h w x v->Rep J β IJ.h w x v:=fun L=>Rep.ext ⟨fun _ _ T=>T,fun _ _ _=>rfl,fun b x D=>⟨x,⟨by rw[<-h.2 b];exact D,rfl⟩,by cases G:x.dead<;>simp⟩,fun _ _ _ _=>A2s _⟩ L
 refine⟨⟨I.sim.jlt,I.sim.jft,I.sim.gl,fun b x D G Y=>?_,fun b x D G Y=>I.sim.mblk b x (by rw[h.2];exact D) G Y,fun b b' x x' k o o' D hb'=>I.sim.sep b b' x x' k o o' (by rw[h.2];exact D) (by rw[h.2];exact hb')⟩,⟨fun i v hv=>by rw[<-h.1 i];exact hr (I.ss.slot i v hv),fun i hi=>by rw[<-h.1 i];exact I.ss.out i hi⟩,I.tmps,I.defers,I.os,I.tape,I.output,I.size,I.frame,?_,I.jsub,I.jup,I.sizes,I.zlt,I.zge,fun b x0 x h0 L=>I.outs b x0 x h0 (by rw[h.2];exact L)⟩
 ·rcases I.sim.blk b x (by rw[h.2];exact D) G Y with h1|⟨k,o,cs,ty,fr,h1,h2,h3,h4,h5,h6⟩
  ·exact .inl h1
  ·exact .inr ⟨k,o,cs,ty,fr,h1,h2,h3,h4,⟨h5.1,fun hp j c T=>by
    obtain⟨u,g1,g2,g3⟩:=h5.2 hp j c T
    exact⟨u,g1,hr g2,g3⟩⟩,h6⟩
 ·rintro k ⟨b,x,o,D,G,hs,hβ⟩ hk
  exact I.wr k ⟨b,x,o,by rw[h.2];exact D,G,hs,hβ⟩ hk
def qT{st:St}{k:St->O R}(hh:hZ ops o st k=some r):∃ st',Eqv st st'/\k st'=some r:=by
 unfold hZ at hh
 split at hh
 ·exact⟨st,Eqv.refl _,hh⟩
 ·rename_i j want I
  split at hh
  ·exact⟨st,Eqv.refl _,hh⟩
  ·rename_i t L
   split at hh
   ·rename_i b G
    have key:∀ c:Bool,b=c->Eqv st {s:=PO st.s t (.bool c),h:=st.h}:=by
     intro c hc
     refine⟨fun i=>?_,fun _=>rfl⟩
     simp only
     rw[K7]
     by_cases e:i=t
     ·subst e;rw[if_pos rfl,G,hc]
     ·rw[if_neg e]
    cases D:(b==want)with
    |true =>
     rw[D]at hh
     exact⟨_,key want (by simpa using D),hh⟩
    |false =>
     rw[D]at hh
     exact⟨_,key (!want) (by cases b<;>cases want<;>simp_all),hh⟩
   ·exact⟨st,Eqv.refl _,hh⟩
def xI{i:Int}{k:Nat->O R}:∀{m j:Nat},lA i k m j=some r->∃ q:Nat,i=(q:Int)/\k q=some r
|0,_,h=>by cases h
|m+1,j,h=>by
  rw[lA]at h
  cases hc:i==(j:Int)with
  |true=>rw[hc]at h;exact⟨j,by simpa using hc,h⟩
  |false=>rw[hc]at h;exact xI h
def lJ{E:Env}{o:Oper}{st:St}{k:St->O R}(hh:TY E o st k=some r):∃ st',Eqv st st'/\k st'=some r:=by
 unfold TY at hh
 split at hh
 ·rename_i i d I L
  cases hc:Dj E.cob (d+6000000)with
  |false=>rw[hc]at hh;exact⟨st,Eqv.refl _,hh⟩
  | true =>
   rw[hc,cond_true]at hh
   split at hh
   ·rename_i kd n D
    obtain⟨q,hq,G⟩:=xI hh
    subst hq
    refine⟨{s:=PO st.s i (.int kd (q:Int)),h:=st.h},⟨fun j=>?_,fun _=>rfl⟩,G⟩
    simp only
    rw[K7]
    by_cases e:j=i
    ·subst e;rw[if_pos rfl,D]
    ·rw[if_neg e]
   ·exact⟨st,Eqv.refl _,hh⟩
 ·exact⟨st,Eqv.refl _,hh⟩
def qU{E:Env}(hC:YP E){Q:Exit->Act->World->Prop}:∀(l:List Oper){st:St}{tr:List Foot}{k:St->List Foot->O R}{a:Act}{w:World}{J:Bool->Nat->Prop}{β:Cr},
  Inv Z E.nt J β st a w->qB E ops l st tr k=some r->(∀ st' D a' w' J' β',Inv Z E.nt J' β' st' a' w'->k st' D=some r->Q .normal a' w')->wpList E.P ops Q l a w
|[],st,tr,k,a,w,J,β,I,hh,hQ=>hQ st tr a w J β I hh
|o::l,st,tr,k,a,w,J,β,I,hh,hQ=>by
  rw[qB]at hh
  obtain⟨Asx,G,hh⟩:=qT hh
  obtain⟨pN,L,hh⟩:=lJ hh
  have Y:=G.trans L
  obtain⟨st',f,h1,h2⟩:=qS (K:=wpList E.P ops Q l) (Q:=Q) hC (I.eqv Y) hh
  have:=h2 (fun a' w' J' β' I'=>qU hC l I' h1 hQ)
  rw[wpList]
  split
  ·rename_i T;rw[if_pos T]at this;exact .inl this
  ·rename_i T;rw[if_neg T]at this;exact this
end
end Gx
namespace Gx
open Go
def Ht:∀{l:List Nat}{b:Nat},Dj l b=true↔b∈l
  |[],b=>by simp[Dj]
  | i::r,b=>by
    rw[Dj]
    cases hi:beq i b with
    |true=>have:=A26 hi;subst this;simp
    | false => have := W1 hi; simp only [cond_false, A28]; rw [Ht]; constructor
               · exact fun h=>.inr h
               · rintro(h | h)
                 · exact absurd h.symm this
                 · exact h
def Tl:∀{l:List Nat},PS l=true->l.Nodup
|[],_=>A9c
|i::r,h=>by
  rw[PS]at h;simp at h
  refine A4b.2 ⟨fun k=>?_,Tl h.2⟩
  rw[Ht.2 k]at h;simp at h
def iD{g:Bp}{ids:List Nat}:∀{l:List Nat},qD g ids l=true->∀ b∈l,∀ x,Iu g b=some x->b∈ids
|[],_,b,k,_,_=>by simp at k
| i::r,h,b,k,x,G=>by
  rw[qD]at h;simp at h
  rcases A28.1 k with e|k
  ·subst e
   rcases h.1 with D|D
   ·exact Ht.1 D
   ·rw[G]at D;simp at D
  ·exact iD h.2 b k x G
def Aco:∀{l:List Nat},Ajy l=true->∀ b∈l,Hh<=b->Kn b<100000
|[],_,b,k,_=>by simp at k
| i::r,h,b,k,D=>by
  rw[Ajy]at h;simp at h
  rcases A28.1 k with e|k
  ·subst e
   have:ble Hh b=true:=by simpa using D
   rw[this]at h;simpa using h.1
  ·exact Aco h.2 b k D
def Zl(g:Bp):∀ c:LA,(J3 g c).length=c.length
|[]=>rfl
|x::r=>by rw[J3,A3a,A3a,Zl g r]
section
variable{R:Type}{r:R}{Z:Start}{nt:Nat}{J J':Bool->Nat->Prop}{β β':Cr}{st:St}{h h':Ap}{a:Act}{w w':World}{ids:List Nat}
def Me(g:Bp)(x:Blk):Blk:={x with cells:=cond x.pure x.cells (J3 g x.cells)}
def YR{g:Bp}:∀{ids:List Nat},(ids.map Kn).Nodup->∀ c y,Ai (Zg g ids) c=some y->∃ b x,b∈ids/\Kn b=c/\Iu g b=some x/\y=Me g x
|[],_,c,y,hc=>by simp[Zg,Ai]at hc
| b::r,k,c,y,hc=>by
  rw[A3o,A4b]at k
  rw[Zg]at hc
  split at hc
  ·rename_i x Y
   rw[Ah]at hc
   by_cases e:c=Kn b
   ·rw[if_pos e]at hc;simp at hc
    exact⟨b,x,by simp,e.symm,Y,hc.symm⟩
   ·rw[if_neg e]at hc
    obtain⟨D,x',G,I,L,T⟩:=YR k.2 c y hc
    exact⟨D,x',by simp[G],I,L,T⟩
  ·obtain⟨D,x',G,I,L,T⟩:=YR k.2 c y hc
   exact⟨D,x',by simp[G],I,L,T⟩
def Zm{g:Bp}:∀{ids:List Nat},(ids.map Kn).Nodup->∀ b x,b∈ids->Iu g b=some x->Ai (Zg g ids) (Kn b)=some (Me g x)
|[],_,b,x,D,_=>by simp at D
| L::r,k,b,x,D,G=>by
  rw[A3o,A4b]at k
  rw[Zg]
  by_cases e:b=L
  ·subst e
   rw[G]
   simp only
   rw[Ah,if_pos rfl];rfl
  ·have I:b∈r:=by simpa[e]using D
   have ne:Kn b≠Kn L:=fun h=>k.1 (by rw[<-h];exact A3w.2 ⟨b,I,rfl⟩)
   split
   ·rw[Ah,if_neg ne];exact Zm k.2 b x I G
   ·exact Zm k.2 b x I G
def qV(ids:List Nat)(c:Nat):Option Nat:=ids.find? fun b=>beq (Kn b) c
def K9(k:(ids.map Kn).Nodup){b:Nat}(D:b∈ids):qV ids (Kn b)=some b:=by
 induction ids with
|nil=>simp at D
| cons i r G =>
  rw[A3o,A4b]at k
  unfold qV at G ⊢
  rw[A7x]
  by_cases e:b=i
  ·subst e;simp
  ·have I:b∈r:=by simpa[e]using D
   have ne:Kn i≠Kn b:=fun h=>k.1 (by rw[h];exact A3w.2 ⟨b,I,rfl⟩)
   rw[PX ne];exact G k.2 I
def Auf(g:Bp)(ids:List Nat)(l:List Nat):Prop:=∀ b∈l,∀ x,Iu g b=some x->b∈ids
def Aly{b:Nat}:Iu (Ai h) b=(Ai h b).bind fun x=>cond x.dead none (some x):=rfl
def YS{b:Nat}{x y:Blk}(G:Ai h b=some x)(k:Iu (Ai h) b=some y):y=x/\x.dead=false:=by
 rw[Aly,G]at k
 cases D:x.dead with
|true=>simp[D]at k
|false=>simp[D]at k;exact⟨k.symm,rfl⟩
mutual
def Rep.clean(hn:(ids.map Kn).Nodup):∀{x:AV}{v:Value},Auf (Ai h) ids (Em x)->Rep J β h w x v ->
  Rep J (fun c=>(qV ids c).bind β) (Zg (Ai h) ids) w (Zf (Ai h) x) v
| .own b off n,v,hm,hr=>by
  rw[Rep]at hr
  obtain⟨x,A,cap,⟨hx,hmp⟩,h1,h2,h3⟩:=hr
  rw[Zf]
  cases hv:Iu (Ai h) b with
  |none=>simp only;rw[Rep];trivial
  | some y =>
   obtain⟨rfl,hd⟩:=YS hx hv
   have hb:=hm b (by simp[Em]) _ hv
   simp only
   rw[Rep]
   refine⟨Me (Ai h) y,A,cap,⟨Zm hn b y hb hv,hmp⟩,h1,h2,?_⟩
   rcases h3 with h3|⟨k,o,h4,h5⟩
   ·exact .inl h3
   ·refine .inr ⟨k,o,h4,?_⟩
    rcases h5 with h5|⟨h5,h6,h7⟩
    ·simp[hd]at h5
    ·refine .inr ⟨by rw[K9 hn hb];exact h5,h6,?_⟩
     have:(Me (Ai h) y).cells.length=y.cells.length:=by
      unfold Me;cases y.pure
      ·simp;exact Zl _ _
      ·rfl
     rw[this];exact h7
| .optr b off,v,hm,hr=>by
  rw[Rep]at hr
  obtain⟨x,k,o,⟨hx,hmp⟩,h1,h2⟩:=hr
  rw[Zf]
  cases hv:Iu (Ai h) b with
  |none=>simp only;rw[Rep];trivial
  |some y =>
   obtain⟨rfl,hd⟩:=YS hx hv
   have hb:=hm b (by simp[Em]) _ hv
   simp only
   rw[Rep]
   refine⟨Me (Ai h) y,k,o,⟨Zm hn b y hb hv,hmp⟩,h1,?_⟩
   rcases h2 with h2|h2
   ·simp[hd]at h2
   ·exact .inr (by rw[K9 hn hb];exact h2)
| .omap b,v,hm,hr=>by
  rw[Rep]at hr
  obtain⟨x,k,⟨hx,hmp⟩,h2⟩:=hr
  rw[Zf]
  cases hv:Iu (Ai h) b with
  |none=>simp only;rw[Rep];trivial
  |some y =>
   obtain⟨rfl,hd⟩:=YS hx hv
   have hb:=hm b (by simp[Em]) _ hv
   simp only
   rw[Rep]
   refine⟨Me (Ai h) y,k,⟨Zm hn b y hb hv,hmp⟩,?_⟩
   rcases h2 with h2|h2
   ·simp[hd]at h2
   ·exact .inr (by rw[K9 hn hb];exact h2)
|.agg c,v,hm,hr=>by
  rw[Rep]at hr
  obtain⟨cs,h1,h2⟩:=hr
  rw[Zf,Rep]
  exact⟨cs,h1,Reps.clean hn (by simpa[Em]using hm) h2⟩
|.tup c,v,hm,hr=>by
  rw[Rep]at hr
  obtain⟨cs,h1,h2⟩:=hr
  rw[Zf,Rep]
  exact⟨cs,h1,Reps.clean hn (by simpa[Em]using hm) h2⟩
|.fn f c,v,hm,hr=>by
  rw[Rep]at hr
  obtain⟨cs,h1,h2⟩:=hr
  rw[Zf,Rep]
  exact⟨cs,h1,Reps.clean hn (by simpa[Em]using hm) h2⟩
|.pagg c o,v,hm,hr=>by show Rep J _ _ w (.pagg c o) v;rw[Rep]at hr ⊢;exact hr
|.undef,v,hm,hr=>by show Rep J _ _ w .undef v;rw[Rep]at hr ⊢;exact hr
|.imm c n sz t o,v,hm,hr=>by show Rep J _ _ w (.imm c n sz t o) v;rw[Rep]at hr ⊢;exact hr
|.iptr c o,v,hm,hr=>by show Rep J _ _ w (.iptr c o) v;rw[Rep]at hr ⊢;exact hr
|.int k n,v,hm,hr=>by show Rep J _ _ w (.int k n) v;rw[Rep]at hr ⊢;exact hr
|.bool b,v,hm,hr=>by show Rep J _ _ w (.bool b) v;rw[Rep]at hr ⊢;exact hr
|.str s,v,hm,hr=>by show Rep J _ _ w (.str s) v;rw[Rep]at hr ⊢;exact hr
|.nsl,v,hm,hr=>by show Rep J _ _ w .nsl v;rw[Rep]at hr ⊢;exact hr
|.nilptr,v,hm,hr=>by show Rep J _ _ w .nilptr v;rw[Rep]at hr ⊢;exact hr
|.nilfn,v,hm,hr=>by show Rep J _ _ w .nilfn v;rw[Rep]at hr ⊢;exact hr
def Reps.clean(hn:(ids.map Kn).Nodup):∀{c:List AV}{cs:List Value},Auf (Ai h) ids (Fv c)->Reps J β h w c cs ->
  Reps J (fun c=>(qV ids c).bind β) (Zg (Ai h) ids) w (J3 (Ai h) c) cs
|[],cs,hm,hr=>by rw[Reps]at hr;rw[J3,Reps];exact hr
|x::r,cs,hm,hr=>by
  rw[Reps]at hr
  obtain⟨u,us,h1,h2,h3⟩:=hr
  rw[J3,Reps]
  exact⟨u,us,h1,Rep.clean hn (fun b hb=>hm b (by simp[Fv,hb])) h2,Reps.clean hn (fun b hb=>hm b (by simp[Fv,hb])) h3⟩
end
def CF{g:Bp}{K:List Nat}:∀{s:Gv}{i:Nat},Fu (h_ g K s) i=if Dj K i=true then Zf g (Fu s i)else .undef
|[],i=>by
  simp only[h_,Fu]
  show AV.undef=if Dj K i=true then AV.undef else AV.undef
  split<;>rfl
| (t,v)::r,i=>by
  rw[h_,Fu]
  cases k:Dj K t with
  | true =>
   simp only[cond_true,Fu]
   cases hi:beq t i with
   |true =>
    have:=A26 hi;subst this
    simp[k]
   |false=>simp only[cond_false];exact CF
  | false =>
   simp only[cond_false]
   rw[CF]
   cases hi:beq t i with
   |true =>
    have:=A26 hi;subst this
    simp[k]
   |false=>rfl
def qW{K:List Nat}:∀{s:Gv}{i:Nat},Dj K i=true->∀ b∈Em (Fu s i),b∈qC K s
|[],i,_,b,k=>by simp[Fu,Em]at k
| (t,v)::r,i,D,b,k=>by
  rw[Fu]at k
  rw[qC]
  cases hi:beq t i with
  |true =>
   have:=A26 hi;subst this
   rw[hi]at k
   rw[D];simp at k ⊢;exact .inl k
  |false =>
   rw[hi]at k
   have:=qW D b k
   cases Dj K t
   ·exact this
   ·simp;exact .inr this
def UF{g:Bp}:∀{ids:List Nat}{b:Nat}{x:Blk},b∈ids->g b=some x->x.pure=false->∀ c∈Fv x.cells,c∈Kl g ids
|[],b,x,k,_,_,_,_=>by simp at k
|i::r,b,x,k,D,G,c,hc=>by
  rw[Kl]
  by_cases e:b=i
  ·subst e;rw[D];simp only[G,cond_false];exact A27.2 (.inl hc)
  ·exact A27.2 (.inr (UF (by simpa[e]using k) D G c hc))
def iE:∀{c:LA}{j:Nat}{x:AV},c[j]?=some x->∀ b∈Em x,b∈Fv c
|[],j,x,k,_,_=>by simp at k
|y::r,j,x,k,b,D=>by
  rw[Fv]
  cases j with
  |zero=>simp at k;subst k;exact A27.2 (.inl D)
  |succ j=>exact A27.2 (.inr (iE (by simpa using k) b D))
def lK{g:Bp}:∀{c:LA}{j:Nat}{y:AV},(J3 g c)[j]?=some y->∃ x,c[j]?=some x/\y=Zf g x
|[],j,y,k=>by simp[J3]at k
|x::r,j,y,k=>by
  rw[J3]at k
  cases j with
  |zero=>simp at k;exact⟨x,by simp,k.symm⟩
  |succ j=>obtain⟨x',D,G⟩:=lK (c:=r) (j:=j) (by simpa using k);exact⟨x',by simpa using D,G⟩
def Alz{b:Nat}(k:b<Hh):Kn b=b:=by
 unfold Kn
 have:ble Hh b=false:=by
  cases h:ble Hh b with
  |false=>rfl
  |true=>have:=A7j h;omega
 rw[this];rfl
def Acp{K roots:List Nat}{st':St}(I:Inv Z nt J β st a w)(hh:clean K roots st=some st'):∃ β',Inv Z nt J β' st' a w:=by
 unfold clean at hh
 obtain⟨hc,h1⟩:_/\_:=uc hh
 simp only[A2y]at hc
 obtain⟨c1,c2,c3,c4⟩:=hc
 generalize hids:CD (Ai st.h) (Ze (Ai st.h) (qC K st.s++roots))=ids at *
 simp at h1
 have hn:=Tl c1
 have blk:∀ c y,Ai (Zg (Ai st.h) ids) c=some y->∃ b x,b∈ids/\Kn b=c/\Ai st.h b=some x/\x.dead=false/\y=Me (Ai st.h) x:=by
  intro c y Y
  obtain⟨b,x,g1,g2,g3,g4⟩:=YR hn c y Y
  have G:Ai st.h b=some x/\x.dead=false:=Nd (fun _ _ h=>h) g3
  exact⟨b,x,g1,g2,G.1,G.2,g4⟩
 have hlen:∀ x:Blk,(Me (Ai st.h) x).cells.length=x.cells.length:=fun x=>by
  unfold Me;cases x.pure
  ·simp;exact Zl _ _
  ·rfl
 refine⟨fun c=>(qV ids c).bind β,?_⟩
 subst h1
 refine⟨⟨I.sim.jlt,I.sim.jft,I.sim.gl,fun c y Y hd hm=>?_,fun c y Y hd hm=>by
   obtain⟨b,x,L,rfl,G,D,rfl⟩:=blk c y Y
   obtain⟨g1,g2,k,ob,g3,g4,g5,g6⟩:=I.sim.mblk b x G D hm
   have:(Me (Ai st.h) x).cells=x.cells:=by unfold Me;rw[g1];rfl
   exact⟨g1,g2,k,ob,by simp only[K9 hn L,A34];exact g3,g4,by rw[ObjIs,show(Me (Ai st.h) x).sz=x.sz from rfl,this];exact g5,g6⟩,?_⟩,⟨fun i v hv=>?_,fun i hi=>?_⟩,I.tmps,I.defers,I.os,I.tape,I.output,I.size,I.frame,?_,I.jsub,I.jup,I.sizes,I.zlt,I.zge,?_⟩
 ·obtain⟨b,x,L,rfl,G,D,rfl⟩:=blk c y Y
  rcases I.sim.blk b x G D hm with⟨g1,g2⟩|⟨k,o,cs,ty,fr,g1,g2,g3,g4,g5,g6,g7⟩
  ·refine .inl ⟨by simp only[K9 hn L,A34];exact g1,?_⟩
   have:=hlen x;rw[g2]at this;simpa using this
  ·refine .inr ⟨k,o,cs,ty,fr,by simp only[K9 hn L,A34];exact g1,g2,g3,by rw[hlen];exact g4,⟨fun hp=>?_,fun hp j q hj=>?_⟩,g6,g7⟩
   ·have T:x.pure=true:=hp
    have:(Me (Ai st.h) x).cells=x.cells:=by unfold Me;rw[T];rfl
    rw[this];exact g5.1 T
   ·have T:x.pure=false:=hp
    have:(Me (Ai st.h) x).cells=J3 (Ai st.h) x.cells:=by unfold Me;rw[T];rfl
    rw[this]at hj
    obtain⟨q',hq,rfl⟩:=lK hj
    obtain⟨u,hu,hr,ho⟩:=g5.2 T j q' hq
    exact⟨u,hu,Rep.clean hn (fun b' hb' x' hx'=>iD c3 b' (UF L G T b' (iE hq b' hb')) x' hx') hr,ho⟩
 ·intro c c' y y' k o o' Y hy' hd hd' hs hβ hβ'
  obtain⟨b,x,L,rfl,G,D,rfl⟩:=blk c y Y
  obtain⟨b',x',hb',rfl,hx',hxd',rfl⟩:=blk c' y' hy'
  simp only[K9 hn L,A34]at hβ
  simp only[K9 hn hb',A34]at hβ'
  rw[I.sim.sep b b' x x' k o o' G hx' D hxd' hs hβ hβ']
 ·rw[CF]
  split
  ·rename_i hk
   exact Rep.clean hn (fun b L x G=>iD c2 b (qW hk b L) x G) (I.ss.slot i v hv)
  ·rw[Rep];trivial
 ·rw[CF,I.ss.out i hi]
  split
  ·rfl
  ·rfl
 ·rintro k ⟨c,y,o,Y,hd,hs,hβ⟩ hk
  obtain⟨b,x,L,rfl,G,D,rfl⟩:=blk c y Y
  simp only[K9 hn L,A34]at hβ
  exact I.wr k ⟨b,x,o,G,D,hs,hβ⟩ hk
 ·intro c x0 y h0 Y hd
  obtain⟨b,x,L,rfl,G,D,rfl⟩:=blk c y Y
  have hlt:=I.zlt _ _ h0
  have hge:=I.zge _ _ h0
  have hbo:Kn b=b:=by
   by_cases hnb:Hh<=b
   ·have:=Aco c4 b L hnb;omega
   ·exact Alz (by omega)
  rw[hbo]at h0
  obtain⟨⟨e1,em⟩,e2,e3,e4⟩:=I.outs b x0 x h0 G D
  refine⟨⟨?_,em⟩,e2,by rw[hlen];exact e3,e4⟩
  simp only[K9 hn L,A34];rw[hbo];exact e1
end
end Gx
namespace Gx
open Go
section
variable{R:Type}
def Aq{α β:Type}(b:Bool)(x y:Option α)(f:α->Option β):(cond b x y).bind f=cond b (x.bind f) (y.bind f):=by cases b<;>rfl
def IW{R':Type}(P:Program)(t:TypeId)(c:LA)(o:Bool)(k:Bool->Option R')(f:R'->O R):(Xw P t c o k).bind f=Xw P t c o fun o=>(k o).bind f:=by unfold Xw;simp only[Aq,A7r]
def Tm(P:Program)(t:TypeId)(c:LA)(org:Bool)(k:AV->O R):PP P t c org k=(PP P t c org some).bind k:=by
 unfold PP
 split<;>simp[A2v,Aq,IW]<;>rfl
def Ahb(P:Program)(t:TypeId)(c:LA)(k:AV->O R):k_ P t c k=(k_ P t c some).bind k:=by
 unfold k_
 split<;>simp[A2v,Aq]
def lL(n:Nat)(k:AV->O R):∀(c:LA)(i:Nat),IK n k c i=(IK n some c i).bind k
|[],_=>rfl
|v::r,i=>by rw[IK,IK,Aq,lL n k r (i+1)];rfl
def lM(P:Program)(t:TypeId)(c:LA)(off:Nat)(k:AV->O R):PQ P t c off k=(PQ P t c off some).bind k:=by
 unfold PQ
 split
 ·simp[A2v,Aq]
 ·simp[A2v,Aq]
 ·exact lL ..
 ·rfl
def IX(P:Program)(g:Bp)(t:TypeId)(p:AV)(k:AV->O R):pu P g t p k=(pu P g t p some).bind k:=by
 unfold pu
 split
 ·exact Tm ..
 ·rw[A2v]
  congr 1;funext x
  rw[Aq,<-Tm,<-lM]
 ·rfl
def NI(P:Program)(t:TypeId)(x i:AV)(k:AV->O R):Tf P t x i k=(Tf P t x i some).bind k:=by
 unfold Tf
 split<;>simp[A2v,Aq]
def qX{R':Type}(i:Int)(k:Nat->O R)(D:R->Option R'):∀ m j,(lA i k m j).bind D=lA i (fun q=>(k q).bind D) m j
|0,_=>rfl
|m+1,j=>by rw[lA,lA,Aq,qX i k D m (j+1)]
def NJ(P:Program)(t:TypeId)(x:AV)(f:Nat)(k:AV->O R):Tg P t x f k=(Tg P t x f some).bind k:=by
 unfold Tg
 simp only[A2v,Aq]
 congr 1;funext p;congr 1;funext n;congr 1
 split<;>rfl
def lN(P:Program)(t:TypeId)(x:AV)(f:Nat)(k:AV->O R):gW P t x f k=(gW P t x f some).bind k:=by
 unfold gW
 rw[A2v]
 congr 1;funext p
 split
 ·exact Tm ..
 ·exact Ahb ..
 ·rfl
def lO(P:Program)(t:TypeId)(x i:AV)(k:AV->O R):gX P t x i k=(gX P t x i some).bind k:=by
 unfold gX
 split
 ·simp[Aq]
 ·simp only[A2v,Aq,<-Tm];rfl
 ·simp only[A2v,Aq,<-lM];rfl
 ·rfl
def Xy{α:Type}(lo hi mx:Option AV)(n:Nat)(f:Nat->Nat->α)(k:α->O R):(Xx lo hi mx n fun l h=>k (f l h))=(Xx lo hi mx n fun l h=>some (f l h)).bind k:=by
 unfold Xx
 simp[A2v,Aq]
def lP(P:Program)(g:Bp)(t:TypeId)(x:AV)(lo hi mx:Option AV)(k:AV->O R):gY P g t x lo hi mx k=(gY P g t x lo hi mx some).bind k:=by
 unfold gY
 split
 ·rw[Aq,<-Xy];rfl
 ·rw[A2v];congr 1;funext _;exact Xy lo hi mx 0 (fun _ _=>AV.nsl) k
 ·rw[A2v];congr 1;funext _;rw[Aq,<-Xy];rfl
 ·rw[A2v];congr 1;funext _;rw[A2v];congr 1;funext _;rw[Aq,<-Xy];rfl
 ·simp only[A2v,Aq];rfl
 ·rfl
def Al0(P:Program)(t:TypeId)(op:BinOp)(x y:AV)(k:AV->O R):Alp P t op x y k=(Alp P t op x y some).bind k:=by
 unfold Alp
 split
 ·split<;>simp[Aq]
 ·split<;>simp[Aq]
 ·rfl
def pr(v:AV)(u:Gw):Option (AV×Gw):=some (v,u)
def Zn(P:Program)(c:LA)(org:Bool):∀(L:List (Nat×TypeId))(D:LA)(k:LA->O R),NA P c org L D k=(NA P c org L D some).bind k
|[],D,k=>rfl
|(off,t)::L,D,k=>by
  rw[NA,NA,Aq]
  congr 1
  rw[Tm,Tm (k:=fun v=>NA P c org L (D++[v]) some),A2v]
  congr 1;funext v
  exact Zn P c org L _ k
def Acq{R':Type}(P:Program)(c:LA)(org:Bool)(L:List (Nat×TypeId))(D:LA)(k:LA->O R)(f:R->Option R'):(NA P c org L D k).bind f=NA P c org L D fun l=>(k l).bind f:=by rw[Zn,A2v,<-Zn]
def Acr(P:Program)(g:Bp)(t:TypeId)(p v:AV)(k:AV->Gw->O R):g8 P g t p v k=(g8 P g t p v pr).bind fun q=>k q.1 q.2:=by
 unfold g8
 split
 ·simp only[A2v,Aq]
  congr 1;funext x;congr 1;funext n;congr 1;congr 1
  split<;>simp[Aq,Acq,pr]
 ·rfl
def lQ(P:Program)(co:Bool)(t:TypeId)(v:AV)(k:AV->O R):g_ P co t v k=(g_ P co t v some).bind k:=by
 unfold g_
 split
 ·rename_i c org
  rw[Zn,Zn (k:=fun l=>cond (beq c.length l.length) (some (AV.agg l)) none),A2v]
  congr 1;funext l
  rw[Aq];rfl
 ·rfl
def xJ(P:Program)(g:Bp)(d:Nat)(t:TypeId)(v:AV)(k:AV->Gw->O R):Ab5 P g d t v k=(Ab5 P g d t v pr).bind fun q=>k q.1 q.2:=by
 unfold Ab5
 split<;>simp[A2v,Aq,pr]
def iF(P:Program)(g:Bp)(d:Nat)(t:TypeId)(len:Nat)(ps:List (Nat×AV))(k:AV->Gw->O R):Qc P g d t len ps k=(Qc P g d t len ps pr).bind fun q=>k q.1 q.2:=by
 unfold Qc
 split<;>simp[A2v,Aq,pr,GF]
def Al1(P:Program)(t:TypeId)(co:Bool)(d:Nat)(v:AV)(k:AV->Gw->O R):Alr P t co d v k=(Alr P t co d v pr).bind fun q=>k q.1 q.2:=by
 unfold Alr
 split<;>simp[Aq,pr]
def Ahc(P:Program)(d:Nat)(t:TypeId)(l c:AV)(k:AV->Gw->O R):wz P d t l c k=(wz P d t l c pr).bind fun q=>k q.1 q.2:=by
 unfold wz
 split<;>simp[A2v,Aq,pr]
def zO(P:Program)(g:Bp)(d:Nat)(t tx:TypeId)(s x:AV)(k:AV->Gw->O R):TW P g d t tx s x k=(TW P g d t tx s x pr).bind fun q=>k q.1 q.2:=by
 unfold TW gZ
 split<;>simp[A2v,Aq,pr,IW]
def Ahd(P:Program)(g:Bp)(t:TypeId)(s x:AV)(k:AV->Gw->O R):xA P g t s x k=(xA P g t s x pr).bind fun q=>k q.1 q.2:=by
 unfold xA gZ
 split
 ·simp only[A2v,Aq,IW];rfl
 ·rfl
def zP(P:Program)(g:Bp)(d:Nat)(t:TypeId)(k:AV->Gw->O R):TV P g d t k=(TV P g d t pr).bind fun q=>k q.1 q.2:=by
 unfold TV
 split<;>simp[Aq,pr]
def Acs(P:Program)(g:Bp)(t:TypeId)(s:AV)(k:AV->Gw->O R):hI P g t s k=(hI P g t s pr).bind fun q=>k q.1 q.2:=by
 unfold hI
 split<;>simp[A2v,Aq,pr]
def Ahe(P:Program)(g:Bp)(d:Nat)(src dst:TypeId)(x:AV)(k:AV->Gw->O R):xB P g d src dst x k=(xB P g d src dst x pr).bind fun q=>k q.1 q.2:=by
 unfold xB
 split
 ·split<;>simp[Aq,pr]
 ·rfl
def qY{R':Type}{f:R'->O R}{s1:TypeId->LA->LA->(Bool->Option R')->Option R'}{s2:TypeId->LA->LA->(Bool->O R)->O R}(hs:∀ t x y k,(s1 t x y k).bind f=s2 t x y fun b=>(k b).bind f){x y:LA}:
  ∀(l:List (Nat×TypeId))(k:Bool->Option R'),(bR s1 x y l k).bind f=bR s2 x y l fun b=>(k b).bind f
|[],k=>rfl
|(o,t)::r,k=>by
  rw[bR,bR,hs]
  congr 1;funext b
  exact qY hs r _
def iG{R':Type}{f:R'->O R}(P:Program):∀(d:Nat)(t:TypeId)(x y:LA)(k:Bool->Option R'),(pp P d t x y k).bind f=pp P d t x y fun b=>(k b).bind f
|0,t,x,y,k=>rfl
|d+1,t,x,y,k=>by
  rw[pp,pp]
  split<;>simp only[A2v,Aq,A7r]
  ·congr 1;funext sz;rw[qY (iG P d)]
def qZ(P:Program)(t:TypeId)(op:BinOp)(x y:AV)(k:AV->O R):wv P t op x y k=(wv P t op x y some).bind k:=by
 unfold wv
 split
 ·rw[A2v]
  congr 1;funext s
  rw[Aq]
  congr 1
  split
  ·rw[iG];rfl
  ·rw[iG];rfl
  ·rfl
 ·exact Al0 ..
def q_(c x y:AV)(k:AV->O R):xD c x y k=(xD c x y some).bind k:=by
 unfold xD
 split<;>first|rfl|(rw[Aq];rfl)
def Acu(P:Program)(g:Bp)(co:Bool)(d:Nat)(t:TypeId)(k:AV->Gw->O R):g9 P g co d t k=(g9 P g co d t pr).bind fun q=>k q.1 q.2:=by
 unfold g9
 split
 ·rw[A2v];rfl
 ·exact xJ ..
 ·rfl
def qe:∀(T:List (Nat×Tw))(f:Nat)(D:LA)(h:Ap)(k:AV->Ap->O R),bU T f D h k=(bU T f D h fun v h'=>some (v,h')).bind fun p=>k p.1 p.2
|[],f,D,h,k=>rfl
|(g,t)::r,f,D,h,k=>by
  rw[bU,bU]
  cases beq g f
  ·exact qe r f D h k
  ·exact t.eq D h k
def Ahf(E:Env)(g:Bp)(d f:Nat)(D:LA)(k:AV->Gw->O R):xC E g d f D k=(xC E g d f D pr).bind fun q=>k q.1 q.2:=by
 unfold xC
 rw[A2v]
 congr 1;funext q
 simp only[Aq,A7r]
 congr 1
 rw[qe,qe (R:=AV×Gw),A2v]
 congr 1;funext p
 simp only[Aq,A7r,pr,A34]
def Al2(E:Env)(g:Bp)(d:Nat)(v:Operand->AV)(o:Op)(k:AV->Gw->O R):vD E g d v o k=(vD E g d v o pr).bind fun q=>k q.1 q.2:=by
 unfold vD
 split
 ·rfl
 ·rfl
 ·rw[q_,q_ (k:=fun r=>pr r []),A2v];rfl
 ·rw[Aq,<-zP,<-Acu]
 ·rw[lQ,lQ (k:=fun u=>Ab5 E.P g d _ u pr),A2v];congr 1;funext u;exact xJ ..
 ·rw[YO,YO,A2v];congr 1;funext x;exact Al1 ..
 ·exact iF ..
 ·rw[IX,IX (k:=fun r=>pr r []),A2v];rfl
 ·exact Acr ..
 ·split<;>rfl
 ·rw[qZ,qZ (k:=fun r=>pr r []),A2v];rfl
 ·rw[A2v];rfl
 ·exact Ahe ..
 ·rw[Aq];rfl
 ·exact Ahc ..
 ·rw[lP,lP (k:=fun r=>pr r []),A2v];rfl
 ·rw[NJ,NJ (k:=fun r=>pr r []),A2v];rfl
 ·rw[lN,lN (k:=fun r=>pr r []),A2v];rfl
 ·rw[NI,NI (k:=fun r=>pr r []),A2v];rfl
 ·rw[lO,lO (k:=fun r=>pr r []),A2v];rfl
 ·split
  ·rw[A2v];rfl
  ·rfl
 ·split
  ·split
   ·rw[A2v];rfl
   ·rfl
  ·split
   ·exact zO ..
   ·rfl
  ·split
   ·exact Ahd ..
   ·rfl
  ·split
   ·exact Acs ..
   ·rfl
  ·split
   ·rw[A2v];rfl
   ·simp only[A2v];rfl
   ·rfl
  ·split
   ·rw[A2v];rfl
   ·simp only[A2v];rfl
   ·rfl
  ·split
   ·rw[Aq,<-Ahf];rfl
   ·rfl
  ·rfl
 ·rfl
end
end Gx
namespace Gx
open Go
def GG:∀{l k:List Nat}{b:Nat},b∈lD l k↔b∈l\/b∈k
|[],k,b=>by simp[lD]
| i::r,k,b=>by
  rw[lD]
  cases D:Dj k i with
  | true =>
   simp only[cond_true]
   rw[GG]
   have:=Ht.1 D
   constructor
   ·rintro(h|h)
    ·exact .inl (by simp[h])
    ·exact .inr h
   ·rintro(h|h)
    ·rcases A28.1 h with e|h
     ·subst e;exact .inr this
     ·exact .inl h
    ·exact .inr h
  | false =>
   simp only[cond_false]
   rw[GG]
   simp only[A28]
   constructor
   ·rintro(h|h|h)
    ·exact .inl (.inr h)
    ·exact .inl (.inl h)
    ·exact .inr h
   ·rintro((h|h)|h)
    ·exact .inr (.inl h)
    ·exact .inl h
    ·exact .inr (.inr h)
def CG{g g':Bp}:∀{l:List Nat},(∀ b∈l,g' b=g b)->Kl g' l=Kl g l
|[],_=>rfl
|i::r,h=>by rw[Kl,Kl,h i (by simp),CG (fun b k=>h b (by simp[k]))]
def cD{g:Bp}:∀{a b:List Nat},Kl g (a++b)=Kl g a++Kl g b
|[],b=>rfl
|i::r,b=>by rw[A4e,Kl,Kl,cD,A38]
def Acv{g g':Bp}{ids:List Nat}(h:∀ b∈Ze g ids,g' b=g b):Ze g' ids=Ze g ids:=by
 have D:∀ b∈ids,g' b=g b:=fun b k=>h b (GG.2 (.inl (A27.2 (.inl k))))
 have e1:Kl g' ids=Kl g ids:=CG D
 have G:∀ b∈Kl g ids,g' b=g b:=fun b k=>h b (GG.2 (.inl (A27.2 (.inr (by rw[cD];exact A27.2 (.inl k))))))
 unfold Ze
 rw[e1,CG (l:=ids++Kl g ids) (fun b k=>by
  rcases A27.1 k with k|k
  ·exact D b k
  ·exact G b k)]
section
variable{R:Type}{E:Env}{ops:Array Oper}{o p:Oper}{st pN IJ:St}
def lR{v v':Operand->AV}{parts:Array (Nat×Operand)}(h:∀ q∈parts.toList,v' q.2=v q.2):(parts.toList.map fun q=>(q.1,v' q.2))=(parts.toList.map fun q=>(q.1,v q.2)):=A57 (fun q hq=>by rw[h q hq])
def Ahg {g:Bp} {d:Nat} {v v':Operand->AV} {op:Op} {k:AV->Gw->O R} (h:∀ x ∈ op.operands.toList,v' x=v x):vD E g d v' op k=vD E g d v op k:=by
  unfold vD
  cases op
  case build t parts =>
    simp only
    rw[lR (v:=v) (v':=v') (fun q hq=>h q.2 (by simp[Op.operands];exact⟨q.1,by simpa using hq⟩))]
  case buildSlice t n parts =>
    simp only
    rw[lR (v:=v) (v':=v') (fun q hq=>h q.2 (by simp[Op.operands];exact⟨q.1,by simpa using hq⟩))]
  case slice t x lo hi mx =>
    simp only
    have D:v' x=v x:=h x (by simp[Op.operands])
    have L:lo.map v'=lo.map v:=by
      cases lo with
      |none=>rfl
      |some y=>simp;exact h y (by simp[Op.operands])
    have T:hi.map v'=hi.map v:=by
      cases hi with
      |none=>rfl
      |some y=>simp;exact h y (by simp[Op.operands])
    have Y:mx.map v'=mx.map v:=by
      cases mx with
      |none=>rfl
      |some y=>simp;exact h y (by simp[Op.operands])
    rw[D,L,T,Y]
  case makeFunc f first caps =>
    cases f<;>try rfl
    simp only
    have:(first.toList++caps.toList).map v'=(first.toList++caps.toList).map v:=A57 (fun x I=>h x (by simp[Op.operands];simpa using I))
    rw[this]
  case call c =>
    have G:∀ x ∈ c.args.toList,v' x=v x:=fun x I=>h x (by
      simp only[Op.operands,Call.operands,Array.toList_append]
      exact A27.2 (.inr I))
    have hm:c.args.toList.map v'=c.args.toList.map v:=A57 G
    simp only
    cases hc:c.callee with
    | value f =>
      have hf:v' f=v f:=h f (by simp[Op.operands,Call.operands,hc])
      simp only[hf,hm]
    |invoke a b=>rfl
    | builtin b =>
      cases b<;>try rfl
      all_goals
        simp only
        split
        · first
            | (rename_i D L
               simp only[D,A28,A7o,or_false,forall_eq_or_imp,forall_eq]at G
               simp only[G])
            | (rename_i D
               simp only[D,A28,A7o,or_false,forall_eq_or_imp,forall_eq]at G
               simp only[G])
        all_goals first
          |rfl
          | (rename_i D
             simp only[D,A28,A7o,or_false,forall_eq_or_imp,forall_eq]at G
             simp only[G])
  all_goals first
    |rfl
    |(simp[Op.operands]at h;simp[h])
end
end Gx
namespace Gx
open Go
section
variable{R:Type}{E:Env}{ops:Array Oper}{o p:Oper}{st pN IJ st3:St}
def Aj2(ops:Array Oper)(o:Oper):List Nat:=match TX ops o with|some p=>[p.1]|none=>[]
def FC(o:Oper)(s:Gv):LA:=o.op.operands.toList.map (ev s)
def zQ(h:Ap)(F:List Nat):Bp:=fun b=>cond (Dj F b) (Ai h b) none
def A02(o:Oper):Nat:=o.dst.getD 50000
def Sz (E:Env) (ops:Array Oper) (o:Oper) (st:St):Option (AV×Gw×Foot) :=
  (IP ops st.s o).bind fun wanted=>cond wanted
    ((vD E (zQ st.h (Wi st.h o.op (FC o st.s))) (A02 o) (ev st.s) o.op pr).bind fun q =>
      cond (WN (A02 o) (Wi st.h o.op (FC o st.s)) st.h q.2) (some (q.1,q.2,{ r:=Aj2 ops o++YL o.op.operands.toList,w:=o.dst,f:=Wi st.h o.op (FC o st.s),u:=q.2.map (·.1) })) none)
    (some (.tup [],[],{r:=Aj2 ops o,w:=o.dst,f:=[],u:=[]}))
def after(E:Env)(o:Oper)(st:St)(q:AV×Gw×Foot):St:={s:=Ag2 E.nt st.s o.dst q.1,h:=Al q.2.1 st.h}
def UG(k:St->Foot->O R):Ab9 E ops o st k=(Sz E ops o st).bind fun q=>k (after E o st q) q.2.2:=by
 unfold Ab9 Sz
 rw[A2v]
 congr 1;funext t
 rw[Aq]
 congr 1
 rw[Al2,A2v]
 congr 1;funext q
 rw[Aq]
 rfl
def qf:∀{l:List Operand}{t:Nat},Operand.tmp t∈l->t∈YL l
|[],t,h=>by simp at h
| x::r,t,h=>by
  rcases A28.1 h with e|h'
  ·subst e;simp[YL]
  ·have k:=qf h'
   cases x<;>simp[YL]<;>first|exact .inr k|exact k
def lS{d:Nat}{F:List Nat}{h k:Ap}:∀{ups:Gw},(∀ b∈ups.map (·.1),Ai k b=Ai h b)->WN d F k ups=WN d F h ups
|[],_=>rfl
|(b,_)::r,hh=>by rw[WN,WN,hh b (by simp),lS (fun c hc=>hh c (by simp at hc ⊢;exact .inr hc))]
def WT{s s2:Gv}(h:∀ t∈Aj2 ops o,Fu s2 t=Fu s t):IP ops s2 o=IP ops s o:=by
 unfold IP
 cases k:o.guard with
|none=>rfl
| some q =>
  obtain⟨j,want⟩:=q
  simp only
  cases D:(ops[j]?).bind (·.dst)with
  |none=>rfl
  |some t =>
   have:Fu s2 t=Fu s t:=h t (by simp[Aj2,TX,k,D])
   simp only[this]
def QC{q:AV×Gw×Foot}(hc:Sz E ops o st=some q)(hr:∀ t∈q.2.2.r,Fu IJ.s t=Fu st.s t)(k:∀ b,b∈q.2.2.f\/b∈q.2.2.u->Ai IJ.h b=Ai st.h b):Sz E ops o IJ=some q:=by
 have hc0:=hc
 unfold Sz at hc
 obtain⟨t,I,L⟩:=ub hc
 cases t with
|false =>
  simp at L;subst L
  unfold Sz
  rw[WT (s:=st.s) hr,I];rfl
| true =>
  rw[cond_true]at L
  obtain⟨x,hx,h2⟩:=ub L
  obtain⟨hu,h3⟩:=uc h2
  simp at h3;subst h3
  simp only at hr k
  have hv:∀ y∈o.op.operands.toList,ev IJ.s y=ev st.s y:=fun y hy=>by
   cases y with
   |tmp t=>exact hr t (A27.2 (.inr (qf hy)))
   |const _=>rfl
   |global _=>rfl
   |func _=>rfl
  have D:FC o IJ.s=FC o st.s:=A57 hv
  have hF:Wi IJ.h o.op (FC o st.s)=Wi st.h o.op (FC o st.s):=by
   unfold Wi at k ⊢
   cases T:Ajw o.op with
   |true =>
    rw[T]at k
    cases Y:Ajx o.op with
    |true=>rfl
    |false=>rw[Y]at k;exact Acv (fun b G=>k b (.inl G))
   |false=>rfl
  have hm:zQ IJ.h (Wi st.h o.op (FC o st.s))=zQ st.h (Wi st.h o.op (FC o st.s)):=by
   funext b
   unfold zQ
   cases G:Dj (Wi st.h o.op (FC o st.s)) b with
   |false=>rfl
   |true=>simp only[cond_true];exact k b (.inl (Ht.1 G))
  unfold Sz
  rw[WT (s:=st.s) (fun t I=>hr t (A27.2 (.inl I))),I]
  simp only[A34,cond_true]
  rw[D,hF,hm,Ahg hv,hx]
  simp only[A34]
  rw[lS (h:=st.h) (fun b G=>k b (.inr G)),hu]
  rfl
def UH:∀{ups:Gw}{b:Nat},A6 ups b=true↔b∈ups.map (·.1)
|[],b=>by simp[A6]
| (i,_)::r,b=>by
  rw[A6]
  cases hi:beq i b with
  |true=>have:=A26 hi;subst this;simp
  | false =>
   have ne:=W1 hi
   simp only[cond_false]
   rw[UH]
   simp only[A3o,A28]
   constructor
   ·exact fun h=>.inr h
   ·rintro(h|h)
    ·exact absurd h.symm ne
    ·exact h
def Aj3{q:AV×Gw×Foot}(hc:Sz E ops o st=some q):q.2.2.w=o.dst/\q.2.2.u=q.2.1.map (·.1):=by
 unfold Sz at hc
 obtain⟨t,I,k⟩:=ub hc
 cases t with
|false=>simp at k;subst k;simp
|true =>
  rw[cond_true]at k
  obtain⟨x,L,G⟩:=ub k
  obtain⟨T,D⟩:=uc G
  simp at D;subst D;simp
def G1:∀(ups:Gw){h k:Ap},(∀ b,Ai k b=Ai h b)->∀ b,Ai (Al ups k) b=Ai (Al ups h) b
|[],_,_,hh,b=>hh b
|(i,some x)::r,h,k,hh,b=>G1 r (fun c=>by rw[Ah,Ah,hh c]) b
|(i,none)::r,h,k,hh,b=>by
  rw[Al,Al]
  refine G1 r (fun c=>?_) b
  rw[hh i]
  split
  ·rw[Ah,Ah,hh c]
  ·exact hh c
def Acw{q:AV×Gw×Foot}(h:Eqv st IJ):Eqv (after E o st q) (after E o IJ q):=by
 refine⟨fun t=>?_,fun b=>?_⟩
 ·unfold after;simp only;rw[Ng,Ng,h.1 t]
 ·exact(G1 q.2.1 (fun b=>(h.2 b).symm) b).symm
def Q4{i:Nat}{y:Blk}:∀(ups:Gw){h:Ap},A6 ups i=false->∀ b,Ai (Al ups (Hr h i y)) b=if b=i then some y else Ai (Al ups h) b
|[],h,_,b=>Ah h i y b
| (j,some x)::r,h,hi,b=>by
  rw[A6]at hi
  cases k:beq j i with
  |true=>rw[k]at hi;simp at hi
  | false =>
   rw[k]at hi
   have ne:=W1 k
   rw[Al,Al,G1 r (h:=Hr (Hr h j x) i y) (fun c=>by
    rw[Ah,Ah,Ah,Ah]
    by_cases e1:c=j
    ·subst e1;simp[ne]
    ·simp[e1]) b]
   exact Q4 r hi b
| (j,none)::r,h,hi,b=>by
  rw[A6]at hi
  cases k:beq j i with
  |true=>rw[k]at hi;simp at hi
  | false =>
   rw[k]at hi
   have ne:=W1 k
   rw[Al,Al,Ah,if_neg ne]
   split
   ·rename_i x D
    rw[G1 r (h:=Hr (Hr h j { x with dead:=true,pure:=true,cells:=[] }) i y) (fun c=>by
     rw[Ah,Ah,Ah,Ah]
     by_cases e1:c=j
     ·subst e1;simp[ne]
     ·simp[e1]) b]
    exact Q4 r hi b
   ·exact Q4 r hi b
def Us:∀(u1 u2:Gw)(h:Ap),(∀ b,A6 u1 b=true->A6 u2 b=false)->∀ b,Ai (Al u2 (Al u1 h)) b=Ai (Al u1 (Al u2 h)) b
|[],u2,h,_,b=>rfl
|(i,some x)::r,u2,h,k,b=>by
  rw[Al,Al]
  have hi:A6 u2 i=false:=k i (by simp[A6])
  rw[Us r u2 (Hr h i x) (fun c hc=>k c (by rw[A6,hc];cases beq i c<;>rfl)) b]
  refine G1 r (fun c=>?_) b
  rw[Q4 u2 hi,Ah]
| (i,none)::r,u2,h,k,b=>by
  rw[Al,Al]
  have hi:A6 u2 i=false:=k i (by simp[A6])
  rw[B3 u2 h i hi]
  split
  ·rename_i x D
   rw[Us r u2 _ (fun c hc=>k c (by rw[A6,hc];cases beq i c<;>rfl)) b]
   refine G1 r (fun c=>?_) b
   rw[Q4 u2 hi,Ah]
  ·exact Us r u2 h (fun c hc=>k c (by rw[A6,hc];cases beq i c<;>rfl)) b
def qg:∀{a l:List Nat},Ab7 a l=true->∀ b∈a,b∉l
|[],l,_,b,k=>by simp at k
|i::r,l,h,b,k=>by
  rw[Ab7]at h;simp at h
  rcases A28.1 k with e|k
  ·subst e;intro D;rw[Ht.2 D]at h;simp at h
  ·exact qg h.2 b k
def qh{q:AV×Gw×Foot}{t:Nat}(h:o.dst≠some t):Fu (after E o st q).s t=Fu st.s t:=by unfold after;simp only;rw[Ng,if_neg (fun hh=>h hh.1)]
def qk{q:AV×Gw×Foot}{b:Nat}(h:b∉q.2.1.map (·.1)):Ai (after E o st q).h b=Ai st.h b:=by
 unfold after;simp only
 rw[B3]
 cases hi:A6 q.2.1 b with
|false=>rfl
|true=>exact absurd (UH.1 hi) h
def xK{w:Option Nat}{l:List Nat}(h:Azc w l=false):∀ t∈l,w≠some t:=by
 intro t k e
 subst e
 rw[Azc,Ht.2 k]at h;cases h
def Azs{G k:AV×Gw×Foot}(h1:Sz E ops p st=some G)(h2:Sz E ops o (after E p st G)=some k)(hi:lE G.2.2 k.2.2=true):
  Sz E ops o st=some k/\Sz E ops p (after E o st k)=some G/\Eqv (after E p (after E o st k) G) (after E o (after E p st G) k):=by
 unfold lE at hi
 simp only[A2y,Bool.not_eq_true']at hi
 obtain⟨⟨⟨⟨i1,i2⟩,i3⟩,i4⟩,i5⟩:=hi
 obtain⟨w1,u1⟩:=Aj3 h1
 obtain⟨w2,u2⟩:=Aj3 h2
 have T:=qg i4
 have d2:=qg i5
 have a1:Sz E ops o st=some k:=QC h2 (fun t Y=>(qh (by rw[<-w1];exact xK i1 t Y)).symm) (fun b D=>(qk (fun L=>by
  rw[<-u1]at L
  exact T b L (by rcases D with D | D<;>simp[D]))).symm)
 have a2:Sz E ops p (after E o st k)=some G:=QC h1 (fun t Y=>qh (by rw[<-w2];exact xK i2 t Y)) (fun b D=>qk (fun L=>by
  rw[<-u2]at L
  rcases D with D|D
  ·exact d2 b L D
  ·exact T b D (by simp[L])))
 refine⟨a1,a2,fun t=>?_,fun b=>?_⟩
 ·unfold after;simp only
  rw[Ng,Ng,Ng,Ng]
  by_cases e1:p.dst=some t/\t<E.nt
  ·by_cases I:o.dst=some t/\t<E.nt
   ·exfalso
    rw[w1,w2,e1.1,I.1]at i3
    simp at i3
   ·rw[if_pos e1,if_neg I,if_pos e1]
  ·by_cases I:o.dst=some t/\t<E.nt
   ·rw[if_neg e1,if_pos I,if_pos I]
   ·rw[if_neg e1,if_neg I,if_neg I,if_neg e1]
 ·unfold after;simp only
  refine(Us G.2.1 k.2.1 st.h (fun c hc=>?_) b).symm
  cases hx:A6 k.2.1 c with
  |false=>rfl
  |true =>
   have m1:c∈G.2.2.u:=by rw[u1];exact UH.1 hc
   have m2:c∈k.2.2.u:=by rw[u2];exact UH.1 hx
   exact absurd (by simp[m2]) (T c m1)
def RunF(E:Env)(ops:Array Oper)(fp:Nat->Foot):List (Nat×Oper)->St->St->Prop
|[],st,e=>Eqv st e
|(i,o)::r,st,e=>∃ q,Sz E ops o st=some q/\q.2.2=fp i/\RunF E ops fp r (after E o st q) e
def RunF.congr{fp:Nat->Foot}:∀{l:List (Nat×Oper)}{st IJ e:St},RunF E ops fp l st e->Eqv st IJ->RunF E ops fp l IJ e
|[],st,IJ,e,h,k=>k.symm.trans h
|(i,o)::r,st,IJ,e,h,k=>by
  rw[RunF]at h ⊢
  obtain⟨q,D,G,I⟩:=h
  exact⟨q,QC D (fun t _=>(k.1 t).symm) (fun b _=>(k.2 b).symm),G,RunF.congr I (Acw k)⟩
def RunF.pull{fp:Nat->Foot}{i:Nat}{o:Oper}{B:List (Nat×Oper)}:∀{A:List (Nat×Oper)}{st e:St},RunF E ops fp (A++(i,o)::B) st e->(∀ jp∈A,lE (fp jp.1) (fp i)=true) ->
  ∃ q,Sz E ops o st=some q/\q.2.2=fp i/\RunF E ops fp (A++B) (after E o st q) e
|[],st,e,h,_=>h
|(j,p)::A,st,e,h,hA=>by
  rw[A4e,RunF]at h
  obtain⟨k,L,D,T⟩:=h
  obtain⟨G,Y,I,g3⟩:=RunF.pull T (fun jp hm=>hA jp (by simp[hm]))
  have hi:lE k.2.2 G.2.2=true:=by rw[D,I];exact hA (j,p) (by simp)
  obtain⟨a1,a2,a3⟩:=Azs L Y hi
  refine⟨G,a1,I,?_⟩
  rw[A4e,RunF]
  exact⟨k,a2,D,RunF.congr g3 a3.symm⟩
end
end Gx
namespace Gx
open Go
def Aj4:Nat->List Oper->List (Nat×Oper)
|_,[]=>[]
|n,o::r=>(n,o)::Aj4 (n+1) r
def pO:∀{l:List Oper}{n:Nat}{p:Nat×Oper},p∈Aj4 n l↔n<=p.1/\l[p.1 - n]?=some p.2
|[],n,p=>by simp[Aj4]
| o::r,n,p=>by
  rw[Aj4,A28,pO]
  constructor
  ·rintro(rfl|⟨D,k⟩)
   ·simp
   ·refine⟨by omega,?_⟩
    rw[show p.1 - n=(p.1 - (n+1))+1 by omega];simpa using k
  ·rintro⟨D,k⟩
   by_cases e:p.1=n
   ·left
    rw[e]at k;simp at k
    obtain⟨a,b⟩:=p
    simp at e k;subst e k;rfl
   ·right
    refine⟨by omega,?_⟩
    rw[show p.1 - n=(p.1 - (n+1))+1 by omega]at k;simpa using k
def ql:∀(l:List Oper)(n:Nat),(Aj4 n l).Pairwise (fun a b=>a.1<b.1)
|[],n=>List.Pairwise.nil
|o::r,n=>by
  rw[Aj4]
  refine A61.2 ⟨fun p k=>?_,ql r (n+1)⟩
  have:=(pO.1 k).1
  show n<p.1;omega
section
variable{R:Type}{r:R}{Z:Start}{E:Env}{ops:Array Oper}
def RunL(E:Env)(ops:Array Oper):List Oper->List Foot->St->St->Prop
|[],[],st,e=>st=e
|o::l,f::fs,st,e=>∃ st' q,Eqv st st'/\Sz E ops o st'=some q/\q.2.2=f/\RunL E ops l fs (after E o st' q) e
|_,_,_,_=>False
def Acx:∀{l:List Oper}{st:St}{tr:List Foot}{k:St->List Foot->O R},qB E ops l st tr k=some r->∃ fs e,k e (fs.reverse++tr)=some r/\RunL E ops l fs st e
|[],st,tr,k,h=>⟨[],st,by simpa[qB]using h,rfl⟩
|o::l,st,tr,k,h=>by
  rw[qB]at h
  obtain⟨Asx,D,h⟩:=qT h
  obtain⟨st',G,h⟩:=lJ h
  have I:=D.trans G
  rw[UG]at h
  obtain⟨q,L,T⟩:=ub h
  obtain⟨fs,e,Y,h4⟩:=Acx T
  exact⟨q.2.2::fs,e,by simpa using Y,st',q,I,L,rfl,h4⟩
def RunL.length:∀{l:List Oper}{fs:List Foot}{st e:St},RunL E ops l fs st e->fs.length=l.length
|[],[],_,_,_=>rfl
|[],_::_,_,_,h=>h.elim
|_::_,[],_,_,h=>h.elim
|o::l,f::fs,st,e,⟨_,q,_,_,_,h⟩=>by simp[RunL.length h]
def RunL.runF{fp:Nat->Foot}:∀{l:List Oper}{fs:List Foot}{n:Nat}{st e:St},RunL E ops l fs st e->(∀(j:Nat)(f:Foot),fs[j]?=some f->fp (n+j)=f)->RunF E ops fp (Aj4 n l) st e
|[],[],n,st,e,h,_=>by subst h;exact Eqv.refl _
|[],_::_,_,_,_,h,_=>h.elim
|_::_,[],_,_,_,h,_=>h.elim
|o::l,f::fs,n,st,e,⟨st',q,D,G,I,L⟩,k=>by
  rw[Aj4]
  refine RunF.congr ?_ D.symm
  rw[RunF]
  refine⟨q,G,by rw[I];exact(k 0 f (by simp)).symm,RunL.runF L (fun j g T=>?_)⟩
  have:=k (j+1) g (by simpa using T)
  rwa [show n+(j+1)=n+1+j by omega]at this
def lT{f:Foot}{anc:List Nat}:∀{seen:List Foot}{i:Nat},bW f anc i seen=true->∀(j:Nat)(g:Foot),seen[j]?=some g->(i+j)∈anc\/lE g f=true
|[],i,_,j,g,k=>by simp at k
| x::r,i,h,j,g,k=>by
  rw[bW]at h;simp only[A2y,A5y]at h
  cases j with
  |zero =>
   simp at k;subst k
   rcases h.1 with D|D
   ·exact .inl (Ht.1 D)
   ·exact .inr D
  |succ j =>
   have:=lT h.2 j g (by simpa using k)
   rwa [show i+1+j=i+(j+1) by omega]at this
def qp:∀{fs:List Foot}{az9:List (List Nat)}{seen:List Foot},TZ fs az9 seen=true->∀(i:Nat)(f:Foot),fs[i]?=some f ->
  ∃ a,az9[i]?=some a/\∀(j:Nat)(g:Foot),(seen++fs)[j]?=some g->j<seen.length+i->j∈a\/lE g f=true
|[],az9,seen,_,i,f,k=>by simp at k
|x::r,[],seen,h,i,f,k=>by simp[TZ]at h
| x::r,a::az9,seen,h,i,f,k=>by
  rw[TZ]at h;simp only[A2y]at h
  cases i with
  |zero =>
   simp at k;subst k
   refine⟨a,by simp,fun j g D G=>?_⟩
   rw[A36,if_pos (by omega)]at D
   simpa using lT h.1 j g D
  |succ i =>
   obtain⟨a',I,L⟩:=qp h.2 i f (by simpa using k)
   refine⟨a',by simpa using I,fun j g D G=>L j g ?_ (by simp;omega)⟩
   simpa using D
def FD:∀{l:List Oper}{k:List (List Nat)}{i:Nat},i<k.length->(Gp l k)[i]?=k[i]?
|[],k,i,_=>rfl
|o::r,k,i,hi=>by rw[Gp,GC,FD (by simp;omega),A36,if_pos hi]
def IY:∀{l:List Oper}{D:List (List Nat)}{i:Nat}{a:List Nat},(Gp l D)[i]?=some a->D.length<=i->∃ o,l[i - D.length]?=some o /\
  ∀ k∈a,k∈IQ o\/∃ j a',j∈IQ o/\j<i/\(Gp l D)[j]?=some a'/\k∈a'
|[],D,i,a,h,hi=>by
  rw[Gp,A31 hi]at h;cases h
| o::r,D,i,a,h,hi=>by
  by_cases e:i=D.length
  ·subst e
   rw[Gp,GC,FD (by simp)]at h
   simp only[List.getElem?_concat_length,A3k]at h
   refine⟨o,by simp,fun k G=>?_⟩
   rw[<-h,GG]at G
   replace G:=G.resolve_right (by simp)
   rcases A27.1 G with G|G
   ·exact .inl G
   ·right
    obtain⟨j,Y,G⟩:=A7n.1 G
    cases L:D[j]? with
    |none=>rw[L]at G;simp at G
    |some a' =>
     rw[L]at G;simp at G
     have I:j<D.length:=(A29.1 L).1
     exact⟨j,a',Y,I,by rw[FD I];exact L,G⟩
  ·rw[Gp,GC]at h
   obtain⟨o',T,h2⟩:=IY h (by simp;omega)
   refine⟨o',?_,fun k G=>?_⟩
   ·simp at T
    rw[show i - D.length=(i - (D.length+1))+1 by omega];simpa using T
   ·rw[Gp,GC];exact h2 k G
def cE:∀{l:List Oper}{n i:Nat}{o:Oper},Yy n l=true->l[i]?=some o->∀ e∈o.after,PU e=true->e.on<n+i
|[],n,i,o,_,hi,_,_,_=>by simp at hi
| x::r,n,i,o,h,hi,e,k,D=>by
  rw[Yy]at h;simp only[A2y]at h
  cases i with
  |zero =>
   simp at hi;subst hi
   have:=A5t.1 h.1 e (by simpa using k)
   rw[D]at this;simpa using this
  |succ i =>
   have:=cE h.2 (by simpa using hi) e k D
   omega
def xL(e:Edge):Region.binds .any e=PU e:=by
 unfold Region.binds PU
 cases e.ground<;>rfl
def Ahh{listed:Array Bool}(hclosed:∀(j:Nat)(o:Oper),ops[j]?=some o->listed.getD j true=true->∀ k∈IQ o,listed.getD k false=true):
  ∀(i:Nat)(a:List Nat)(o:Oper),(Gp ops.toList [])[i]?=some a->ops[i]?=some o->(∀ k∈IQ o,listed.getD k false=true)->∀ k∈a,listed.getD k false=true:=by
 intro i
 induction i using Nat.strongRecOn with
| _ i ih =>
  intro a o ha ho Y k hk
  obtain⟨o',I,h2⟩:=IY ha (by simp)
  simp at I
  rw[ho]at I;simp at I;subst I
  rcases h2 k hk with L|⟨j,a',L,h4,h5,h6⟩
  ·exact Y k L
  ·have D:=Y j L
   obtain⟨oj,G,_⟩:=IY h5 (by simp)
   simp at G
   have T:listed.getD j true=true:=by
    rw[A5a]at D ⊢
    cases hx:listed[j]? with
    |none=>rw[hx]at D;simp at D
    |some b=>rw[hx]at D;simpa using D
   exact ih j h4 a' oj h5 G (hclosed j oj G T) k h6
def Gq(ops:Array Oper)(listed:Array Bool):List (Nat×Oper):=(Aj4 0 ops.toList).filter fun p=>!listed.getD p.1 true
def QD(listed:Array Bool):(Gq ops listed).Pairwise (fun a b=>a.1<b.1):=(ql _ _).filter _
def GH{listed:Array Bool}{p:Nat×Oper}:p∈Gq ops listed↔ops[p.1]?=some p.2/\listed.getD p.1 true=false:=by
 unfold Gq
 rw[A5g,pO]
 simp
def Acy{listed:Array Bool}{i:Nat}{o:Oper}{A B:List (Nat×Oper)}(h:Gq ops listed=A++(i,o)::B):Gq ops (listed.setIfInBounds i true)=A++B:=by
 have hi:(i,o)∈Gq ops listed:=by rw[h];simp
 have k:=(GH.1 hi).2
 have G:i<listed.size:=by
  rw[A5a]at k
  rcases A78 i listed.size with I|I
  ·exact I
  ·rw[A4z I]at k;simp at k
 have T:Gq ops (listed.setIfInBounds i true)=(Gq ops listed).filter fun p=>!beq p.1 i:=by
  unfold Gq
  rw[List.filter_filter]
  congr 1;funext p
  by_cases e:p.1=i
  ·rw[e];simp[G]
  ·rw[getD_set_ne true (fun e'=>e e'.symm),PX e];simp
 rw[T,h,List.filter_append,A8o]
 have hs:=QD (ops:=ops) listed
 rw[h]at hs
 have D:=A6p.1 hs
 have hB:=A61.1 D.2.1
 have e1:A.filter (fun p=>!beq p.1 i)=A:=A75.2 (fun p L=>by
  have:p.1<i:=D.2.2 p L (i,o) (by simp)
  rw[PX (by omega)];rfl)
 have Y:B.filter (fun p=>!beq p.1 i)=B:=A75.2 (fun p L=>by
  have:i<p.1:=hB.1 p L
  rw[PX (by omega)];rfl)
 rw[e1,Y];simp
def Al3(hC:YP E){Q:Exit->Act->World->Prop}{fp:Nat->Foot}{e:St}(hfw:Yy 0 ops.toList=true)
  (hord:∀(i j:Nat)(o:Oper),ops[i]?=some o->j<i->∃ a,(Gp ops.toList [])[i]?=some a/\(j∈a\/lE (fp j) (fp i)=true))
  (hQ:∀ a' w' J' β',Inv Z E.nt J' β' e a' w'->Q .normal a' w') :
  ∀(G:Nat)(listed:Array Bool){st:St}{a:Act}{w:World}{J:Bool->Nat->Prop}{β:Cr},listed.size=ops.size->(Gq ops listed).length=G ->
   (∀(j:Nat)(o:Oper),ops[j]?=some o->listed.getD j true=true->∀ k∈IQ o,listed.getD k false=true) ->
   RunF E ops fp (Gq ops listed) st e->Inv Z E.nt J β st a w->wpAny E.P .any ops Q G listed a w:=by
 intro G
 have fin:∀(listed:Array Bool){st:St}{a:Act}{w:World}{J:Bool->Nat->Prop}{β:Cr},Gq ops listed=[]->RunF E ops fp (Gq ops listed) st e->Inv Z E.nt J β st a w->Region.ready .any ops listed=[]/\Q .normal a w:=by
  intro listed st a w J β hr D I
  refine⟨List.eq_nil_iff_forall_not_mem.2 (fun i hi=>?_),?_⟩
  ·obtain⟨h1,o,h2,_⟩:=mem_ready.1 hi
   have:(i,o)∈Gq ops listed:=GH.2 ⟨h2,h1⟩
   rw[hr]at this;simp at this
  ·rw[hr,RunF]at D
   exact hQ _ _ J β (I.eqv D)
 induction G with
|zero =>
  intro listed st a w J β _ L _ D I
  exact fin listed (A66.1 L) D I
| succ G ih =>
  intro listed st a w J β hsz L hclosed D I
  refine⟨fun hnil=>?_,fun i hi=>?_⟩
  ·
   cases T:Gq ops listed with
   |nil=>rw[T]at L;simp at L
   | cons p r =>
    exfalso
    have hp:p∈Gq ops listed:=by rw[T];simp
    obtain⟨Y,hl⟩:=GH.1 hp
    have hs:=QD (ops:=ops) listed
    rw[T]at hs
    have hmin:=(A61.1 hs).1
    have:p.1 ∈ Region.ready .any ops listed:=mem_ready.2 ⟨hl,p.2,Y,fun ed hed hb=>by
     rw[xL]at hb
     have hlt:=cE hfw (i:=p.1) (o:=p.2) (by simpa using Y) ed hed hb
     simp at hlt
     have hops:ed.on<ops.size:=by have:=(A4o.1 Y).1;omega
     cases hx:listed.getD ed.on true with
     |true =>
      rw[A5a]at hx ⊢
      rw[Array.getElem?_eq_getElem (by omega)]at hx ⊢
      simpa using hx
     | false =>
      have hm:(ed.on,ops[ed.on])∈Gq ops listed:=GH.2 ⟨by simp[hops],hx⟩
      rw[T]at hm
      rcases A28.1 hm with e1|e1
      ·have:ed.on=p.1:=by rw[<-e1]
       omega
      ·have:=hmin _ e1
       simp at this;omega⟩
    rw[hnil]at this;simp at this
  ·obtain⟨hl,o,Y,hall⟩:=mem_ready.1 hi
   have hmem:(i,o)∈Gq ops listed:=GH.2 ⟨Y,hl⟩
   obtain⟨A,B,hAB⟩:=List.append_of_mem hmem
   have hdir:∀ k∈IQ o,listed.getD k false=true:=by
    intro k hk
    unfold IQ at hk
    obtain⟨ed,hed,rfl⟩:=A3w.1 hk
    obtain⟨h1,h2⟩:=A5g.1 hed
    exact hall ed (by simpa using h1) (by rw[xL];exact h2)
   have hs:=QD (ops:=ops) listed
   rw[hAB]at hs
   have hs':=A6p.1 hs
   rw[hAB]at D
   obtain⟨q,g1,g2,g3⟩:=D.pull (fun jp hjp=>by
    have hlt:jp.1<i:=hs'.2.2 jp hjp (i,o) (by simp)
    obtain⟨an,h1,h2⟩:=hord i jp.1 o Y hlt
    rcases h2 with h2|h2
    ·exfalso
     have:=Ahh hclosed i an o h1 Y hdir jp.1 h2
     have hjm:jp∈Gq ops listed:=by rw[hAB];simp[hjp]
     have h3:=(GH.1 hjm).2
     rw[A5a]at this h3
     cases hx:listed[jp.1]? with
     |none=>rw[hx]at this;simp at this
     |some b=>rw[hx]at this h3;simp at this h3;rw[this]at h3;cases h3
    ·exact h2)
   have hone:Ab9 E ops o st (fun s f=>some (s,f))=some (after E o st q,q.2.2):=by rw[UG,g1];rfl
   obtain⟨st',f,h4,h5⟩:=qS (K:=wpAny E.P .any ops Q G (listed.setIfInBounds i true)) (Q:=Q) hC I hone
   simp only[A3k,A6x]at h4
   obtain⟨rfl,rfl⟩:=h4
   have hlt:i<listed.size:=by rw[hsz];exact(A4o.1 Y).1
   have:=h5 (fun a' w' J' β' I'=>ih (listed.setIfInBounds i true) (by simp[hsz]) (by
     rw[Acy hAB];rw[hAB] at L;simp at L ⊢;omega) (fun j oj hoj hj k hk=>?_) (by rw[Acy hAB];exact g3) I')
   ·unfold wpOp
    rw[Y]
    simp only
    split
    ·rename_i hw;rw[if_pos hw]at this;exact .inl this
    ·rename_i hw;rw[if_neg hw]at this;exact this
   ·by_cases e1:j=i
    ·subst e1
     rw[Y]at hoj;simp at hoj;subst hoj
     exact getD_set_true (hdir k hk)
    ·rw[getD_set_ne true (fun e'=>e1 e'.symm)]at hj
     exact getD_set_true (hclosed j oj hoj hj k hk)
end
end Gx
namespace Gx
open Go
section
variable{R:Type}{r:R}{Z:Start}{E:Env}
def vI(hC:YP E)(hm:E.P.follows .mixedOrders=true){roots:List Nat}{id:Nat}{ops:Array Oper}{draw:Bool}{st:St}{k:St->O R}{a:Act}{w:World}{J:Bool->Nat->Prop}{β:Cr}{Q:Exit->Act->World->Prop}
  (I:Inv Z E.nt J β st a w) (hh:IR E roots ops draw st k=some r) (hQ:∀ st' a' w' J' β',Inv Z E.nt J' β' st' a' w'->k st'=some r->Q .normal a' w'):(Code.region id ops draw).wp E.P Q a w:=by
 unfold IR at hh
 have done:∀{st':St}{tr:List Foot}{a':Act}{w':World}{J':Bool->Nat->Prop}{β':Cr},Inv Z E.nt J' β' st' a' w' ->
   cond (!draw||(Yy 0 ops.toList&&TZ tr.reverse (Gp ops.toList []) [])) ((clean (st'.s.map (·.1)) roots st').bind k) none=some r->Q .normal a' w':=by
  intro st' tr a' w' J' β' I' h'
  obtain⟨_,h1⟩:=uc h'
  obtain⟨IJ,h2,h3⟩:=ub h1
  obtain⟨β2,I2⟩:=Acp I' h2
  exact hQ _ _ _ _ _ I2 h3
 cases draw with
|false=>exact wp_region_list (qU hC _ I hh (fun st' tr' a' w' J' β' I' h'=>done I' h'))
| true =>
  obtain⟨fs,e,h1,h2⟩:=Acx hh
  obtain⟨hc,h3⟩:=uc h1
  simp at hc
  obtain⟨hfw,T⟩:=hc
  have Y:=h2.length
  refine wp_region_any hm ?_
  have I':Inv Z E.nt J β st a w.drew:=I.step (Step.drew I.sim) (fun b x hx hn=>by rw[hx]at hn;cases hn)
  have D:Gq ops (Array.replicate ops.size false)=Aj4 0 ops.toList:=by
   unfold Gq
   refine A75.2 (fun p hp=>?_)
   have:=(pO.1 hp).2
   have G:p.1<ops.size:=by
    simp at this
    exact(A4o.1 this).1
   simp[G]
  have hidx:(Aj4 0 ops.toList).length=ops.size:=by
   have:∀(l:List Oper)(n:Nat),(Aj4 n l).length=l.length:=by
    intro l
    induction l with
    |nil=>intro n;rfl
    |cons o r ih=>intro n;simp[Aj4,ih]
   rw[this];simp
  have hrun:RunF E ops (fun i=>fs.getD i {r:=[],w:=none,f:=[],u:=[]}) (Aj4 0 ops.toList) st e:=h2.runF (fun j f L=>by simp[L])
  refine Al3 hC (fp:=fun i=>fs.getD i {r:=[],w:=none,f:=[],u:=[]}) (e:=e) hfw (fun i j o ho hji=>?_) (fun a' w' J' β' Ie=>done (tr:=fs.reverse++[]) Ie h1) ops.size _ (by simp) (by rw[D,hidx]) (fun j o ho L=>?_) (by rw[D];exact hrun) I'
  ·have hi:i<fs.length:=by rw[Y];simpa using(A4o.1 ho).1
   obtain⟨an,g1,g2⟩:=qp T i fs[i] (A2r hi)
   refine⟨an,g1,?_⟩
   have L:j<fs.length:=by omega
   have:=g2 j fs[j] (by simp[L]) (by simpa using hji)
   simpa[hi,L]using this
  ·exfalso
   have G:j<ops.size:=(A4o.1 ho).1
   simp[G]at L
end
end Gx
