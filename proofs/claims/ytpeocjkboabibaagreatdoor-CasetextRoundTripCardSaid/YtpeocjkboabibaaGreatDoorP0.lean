/- A part of the proof; each theorem says what it holds. -/
import GoSem.Step
import Derived.KernelRfl
import Derived.WalkKit
import Derived.Deep.MidRow
import Derived.Deep.AppendSrc
import Derived.Laws.IdiomStrings
import Derived.Deep.Upon
import Derived.Lib.Builder
import Derived.Laws.BytesString
import Derived.Lib.UnsafeStr
import Derived.Laws.Externs
import Derived.Laws.Tables
import Derived.Laws.StructEq
import Derived.ChangeKeysEq
import Derived.MapKept
set_option linter.unusedVariables false
set_option linter.defProp false
set_option linter.unusedSimpArgs false
open Nat (ble beq)
open List (take drop replicate)
open Go.IntKind (wrap)
namespace Gx
abbrev Lu:=List UInt8
def A41:=@List.length_append
def A42:=@List.length_cons
def A43:=@List.length_nil
def A44:=@List.take_of_length_le
def A45:=@Int.toNat_natCast
def A46:=@List.getElem?_eq_getElem
def A47:=@Bool.and_eq_true
def A48:=@List.length_map
def A49:=@Nat.le_refl
def A5a:=@Option.bind_assoc
def A5b:=@List.mem_cons
def A5c:=@List.map_cons
def A5d:=@List.mem_append
def A5e:=@List.append_assoc
def A5f:=@List.getD_eq_getElem?_getD
def A5g:=@List.getElem_mem
def A5h:=@List.append_nil
def A5i:=@List.cons_append
def A5j:=@Nat.zero_add
def A5k:=@List.drop_zero
def A5l:=@List.not_mem_nil
def A5m:=@Nat.mul_one
def A5n:=@List.all_eq_true
def A5o:=@List.mem_map
def A5p:=@Nat.eq_of_beq_eq_true
def A5q:=@List.getElem_of_mem
def A5r:=@List.flatMap_cons
def A5s:=@List.all_cons
def A5t:=@List.getElem?_eq_some_iff
def A5u:=@Bool.or_assoc
def A5v:=@List.map_nil
def A5w:=@List.length_singleton
def A5x:=@List.mem_cons_of_mem
def A5y:=@Nat.mul_le_mul_right
def A5z:=@List.take_succ_eq_append_getElem
def A50:=@List.nil_append
def A51:=@Nat.pow_succ
def A52:=@Bool.true_and
def A53:=@List.foldl_cons
def A54:=@Nat.pow_le_pow_right
def A55:=@List.all_nil
def A56:=@Bool.false_or
def A57:=@List.head?_eq_getElem?
def A58:=@List.length_take
def A59:=@Nat.mod_eq_of_lt
def A6a:=@List.getElem?_append
def A6b:=@Bool.and_assoc
def A6c:=@List.take_length
def A6d:=@Nat.lt_of_le_of_lt
def A6e:=@List.drop_succ_cons
def A6f:=@List.nodup_cons
def A6g:=@Nat.min_eq_left
def A6h:=@List.any_cons
def A6i:=@Int.sign_eq_neg_one_of_neg
def A6j:=@List.foldl_append
def A6k:=@Nat.le_trans
def A6l:=@Nat.add_assoc
def A6m:=@List.drop_eq_getElem_cons
def A6n:=@List.flatMap_append
def A6o:=@List.any_nil
def A6p:=@Bool.or_eq_false_iff
def A6q:=@Nat.mul_add
def A6r:=@Nat.mul_assoc
def A6s:=@Option.bind_some
def A6t:=@List.map_append
def A6u:=@Rat.num_intCast
def A6v:=@List.mem_cons_self
def A6w:=@Nat.eq_zero_or_pos
def A6x:=@List.getElem?_eq_none
def A6y:=@List.mem_map_of_mem
def A6z:=@Int.sign_eq_one_of_pos
def A60:=@Nat.mul_comm
def A61:=@List.mem_singleton
def A62:=@Nat.add_mul
def A63:=@Array.getElem?_eq_some_iff
def A64:=@Bool.and_true
def A65:=@Bool.or_false
def A66:=@Array.getElem?_eq_none
def A67:=@List.getElem?_drop
def A68:=@Nat.lt_of_lt_of_le
def A69:=@List.flatMap_nil
def A7a:=@Bool.not_false
def A7b:=@Bool.not_true
def A7c:=@List.getElem?_map
def A7d:=@List.foldl_nil
def A7e:=@List.take_left'
def A7f:=@List.getElem?_take
def A7g:=@List.length_eq_zero_iff
def A7h:=@Nat.div_eq_of_lt
def A7i:=@Array.getD_eq_getD_getElem?
def A7j:=@List.drop_eq_nil_of_le
def A7k:=@Nat.add_zero
def A7l:=@Option.some.injEq
def A7m:=@Nat.mul_le_mul_left
def A7n:=@Nat.div_add_mod
def A7o:=@Rat.den_intCast
def A7p:=@Eq.trans
def A7q:=@Bool.false_eq_true
def A7r:=@Int.natAbs_natCast
def A7s:=@Int.natCast_zero
def A7t:=@List.take_zero
def A7u:=@List.any_eq_false
def A7v:=@Array.ext'
def A7w:=@List.mem_filter
def A7x:=@Bool.or_true
def A7y:=@Bool.true_or
def A7z:=@Nat.pow_add
def A70:=@Nat.zero_mul
def A71:=@Nat.mod_lt
def A72:=@List.map_congr_left
def A73:=@List.filter_cons
def A74:=@List.mem_flatMap
def A75:=@List.contains_cons
def A76:=@List.map_map
def A77:=@Nat.div_le_self
def A78:=@Array.getElem?_modify
def A79:=@Array.getElem?_append_left
def A8a:=@List.range'_succ
def A8b:=@Nat.le_of_not_lt
def A8c:=@List.replicate_succ
def A8d:=@List.take_succ_cons
def A8e:=@BitVec.toNat_ofNat
def A8f:=@Nat.zero_le
def A8g:=@List.getElem_cons_succ
def A8h:=@Array.getElem?_setIfInBounds_ne
def A8i:=@List.getElem_map
def A8j:=@Option.bind_none
def A8k:=@List.getLast?_append
def A8l:=@List.mem_of_mem_take
def A8m:=@Nat.pow_pos
def A8n:=@Array.getElem?_setIfInBounds
def A8o:=@Bool.or_eq_true
def A8p:=@List.dropLast_concat_getLast
def A8q:=@UInt8.toNat_inj
def A8r:=@Array.length_toList
def A8s:=@List.filter_eq_self
def A8t:=@Nat.lt_or_ge
def A8u:=@List.drop_left
def A8v:=@List.getElem?_append_right
def A8w:=@List.pairwise_cons
def A8x:=@Classical.byContradiction
def A8y:=@List.getElem?_append_left
def A8z:=@Bool.not_eq_true'
def A80:=@Int.lt_trichotomy
def A81:=@List.take_add_one
def A82:=@Nat.dvd_mul_right
def A83:=@Nat.mul_left_comm
def A84:=@Array.size_setIfInBounds
def A85:=@Int.mul_ediv_cancel_left
def A86:=@Nat.gcd_pos_of_pos_right
def A87:=@Option.isSome_iff_exists
def A88:=@List.append_cons
def A89:=@List.getLast_eq_getElem
def A9a:=@Nat.add_sub_cancel_left
def A9b:=@Nat.gcd_dvd_left
def A9c:=@Nat.le_mul_of_pos_right
def A9d:=@Nat.mul_lt_mul''
def A9e:=@Bool.or_comm
def A9f:=@List.getElem_cons_zero
def A9g:=@List.length_take_of_le
def A9h:=@Nat.beq_eq
def A9i:=@Nat.div_div_eq_div_mul
def A9j:=@Nat.gcd_comm
def A9k:=@Nat.pow_zero
def A9l:=@Nat.le_max_left
def A9m:=@Array.getElem?_toList
def A9n:=@List.set_append_right
def A9o:=@List.set_getElem_self
def A9p:=@List.take_append_drop
def A9q:=@List.getElem?_zipIdx
def A9r:=@List.mapM_cons
def A9s:=@List.mem_of_getElem?
def A9t:=@List.mem_of_getLast?
def A9u:=@List.nodup_nil
def A9v:=@List.pairwise_append
def A9w:=@List.take_left
def A9x:=@Nat.add_mul_div_left
def A9y:=@Nat.mul_le_mul
def A9z:=@Nat.mul_pos
def A90:=@Nat.one_mul
def A91:=@Nat.pow_mul
def A92:=@Int.toNat_of_nonneg
def A93:=@List.length_pos_iff
def A94:=@Nat.pow_le_pow_left
def A95:=@List.drop_nil
def A96:=@List.map_take
def A97:=@Int.tmod_lt_of_pos
def A98:=@List.append_of_mem
def A99:=@List.set_cons_zero
def Baa:=@Nat.add_sub_cancel
def Bab:=@Nat.gcd_zero_right
def Baf:=@Nat.add_comm
def Bag:=@Nat.succ_mul
def Bao:=@Nat.pow_two
end Gx
namespace Gx
open Go
inductive AV where
|int (k:IntKind) (n:Int)
|bool (b:Bool)
|str (s:List UInt8)
|nsl
|imm (c:List AV) (len sz:Nat) (tight org:Bool)
|iptr (c:List AV) (org:Bool)
|pagg (c:List AV) (org:Bool)
|own (b off len:Nat)
|optr (b off:Nat)
|agg (c:List AV)
|tup (c:List AV)
|fn (f:Nat) (caps:List AV)
|nilptr
|nilfn
|undef
|omap (b:Nat)
abbrev Bby(k n:Nat):AV:=.own (300000+k) 0 n
abbrev Bbz:AV:=.int .i64 0
structure Blk where
 dead:Bool
 sealed:Bool
 pure:Bool
 taint:Bool
 sz:Nat
 cells:List AV
 mp:Bool:=false
 ty:Option (Nat×Nat):=none
abbrev LA:=List AV
abbrev O(R:Type):=Option R
abbrev A8:=List (Nat×Blk)
abbrev J5:=List (Nat×AV)
def Aq:A8->Nat->Option Blk
|[],_=>none
|(i,x)::r,b=>cond (beq i b) (some x) (Aq r b)
def Ja:A8->Nat->Blk->A8
|[],b,y=>[(b,y)]
|(i,x)::r,b,y=>cond (beq i b) ((b,y)::r) (cond (Nat.blt b i) ((b,y)::(i,x)::r) ((i,x)::Ja r b y))
def Jb:J5->Nat->AV
|[],_=>.undef
|(i,x)::r,b=>cond (beq i b) x (Jb r b)
def ju:J5->Nat->AV->J5
|[],b,y=>[(b,y)]
|(i,x)::r,b,y=>cond (beq i b) ((b,y)::r) (cond (Nat.blt b i) ((b,y)::(i,x)::r) ((i,x)::ju r b y))
structure St where
 s:J5
 h:A8
mutual
def pF:Value->AV
|.int k n=>.int k n
|.bool b=>.bool b
|.string ⟨⟨s⟩⟩=>.str s
|.slice none 0 0=>.nsl
|.pointer none=>.nilptr
|.nilFunc=>.nilfn
|.agg ⟨cs⟩=>.agg (W5 cs)
|_=>.undef
def W5:List Value->List AV
|[]=>[]
|v::r=>pF v::W5 r
end
def ev(s:J5):Operand->AV
|.tmp t=>Jb s t
|.const v=>pF v
|.func f=>cond (Nat.blt f 1000000) (.fn f []) .undef
|.global _=>.undef
def C8(P:Program)(t:TypeId):Option Nat:=(P.info? t).map (·.size)
def Ac8(P:Program)(t:TypeId):Option Nat:=(P.info? t).map (·.bytes)
def Ao3(P:Program)(t:TypeId):Bool:=((P.info? t).map (·.hasPointers)).getD true
def Ag3(P:Program)(t:TypeId):Option AV:=((P.info? t).bind (·.zero)).map pF
def A0:LA->Bool
|[]=>true
|.int ..::r=>A0 r
|.bool _::r=>A0 r
|.str _::r=>A0 r
|.nsl::r=>A0 r
|.nilptr::r=>A0 r
|.nilfn::r=>A0 r
|_=>false
def rP(P:Program)(t:TypeId):Option LA:=(P.info? t).bind fun i=>(i.zero).bind fun v=>cond (A0 (W5 v.cells.toList)&&beq v.cells.toList.length i.size) (some (W5 v.cells.toList)) none
def pG(op:BinOp)(k:IntKind)(a b:Int):Option AV :=
 match op with
|.add=>some (.int k (k.wrap (a+b)))
|.sub=>some (.int k (k.wrap (a - b)))
|.mul=>some (.int k (k.wrap (a*b)))
|.and=>some (.int k (k.wrap ((BitVec.ofInt k.bits a &&& BitVec.ofInt k.bits b).toNat:Int)))
|.or=>some (.int k (k.wrap ((BitVec.ofInt k.bits a ||| BitVec.ofInt k.bits b).toNat:Int)))
|.xor=>some (.int k (k.wrap ((BitVec.ofInt k.bits a ^^^ BitVec.ofInt k.bits b).toNat:Int)))
|.andNot=>some (.int k (k.wrap ((BitVec.ofInt k.bits a &&& ~~~ (BitVec.ofInt k.bits b)).toNat:Int)))
|.eql=>some (.bool (a==b))
|.neq=>some (.bool (a != b))
|.lss=>some (.bool (decide (a<b)))
|.leq=>some (.bool (decide (a<=b)))
|.gtr=>some (.bool (decide (a>b)))
|.geq=>some (.bool (decide (a>=b)))
|_=>none
def Vd(k k':IntKind):Bool:=decide (k=k')
def fX(P:Program)(t:TypeId):Bool:=match P.underlying t with|some .bool=>true|_=>false
def Aql{R:Type}(P:Program)(t:TypeId)(op:BinOp)(x y:AV)(r:AV->O R):O R :=
 match x,y with
|.int k a,.int k' b =>
  match op with
  |.shl=>cond (decide (b<0)) none (r (.int k (k.wrap (a*2 ^ (min b.toNat k.bits)))))
  |.shr=>cond (decide (b<0)) none (r (.int k (a.fdiv (2 ^ (min b.toNat k.bits)))))
  |.quo=>cond (Vd k k') (cond (b==0) none (r (.int k (k.wrap (a.tdiv b))))) none
  |.rem=>cond (Vd k k') (cond (b==0) none (r (.int k (a.tmod b)))) none
  |op=>cond (Vd k k') ((pG op k a b).bind r) none
|.bool a,.bool b =>
  match op with
  |.eql=>cond (fX P t) (r (.bool (a==b))) none
  |.neq=>cond (fX P t) (r (.bool (!(a==b)))) none
  |_=>none
|.str a,.str b =>
  match op with
  |.add=>cond (ble (a.length+b.length) 140737488355328) (r (.str (a++b))) none
  |.eql=>r (.bool (a==b))
  |.neq=>r (.bool (!(a==b)))
  |.lss=>r (.bool (Op.bytesLess a b))
  |.leq=>r (.bool (Op.bytesLess a b||a==b))
  |.gtr=>r (.bool (!(Op.bytesLess a b||a==b)))
  |.geq=>r (.bool (!Op.bytesLess a b))
  |_=>none
|_,_=>none
def A1w(op:UnOp)(x:AV):Option AV :=
 match op,x with
|.neg,.int k n=>some (.int k (k.wrap (0 - n)))
|.xor,.int k n=>pG .xor k (cond k.signed (-1) k.max) n
|.not,.bool b=>some (.bool (!b))
|_,_=>none
def rQ(k:IntKind):AV->Option Int
|.int k' n=>cond (Vd k k') (some n) none
|_=>none
def asBool:AV->Option Bool
|.bool b=>some b
|_=>none
def rR:AV->Option Lu
|.str s=>some s
|_=>none
def Atd(sz:Nat):AV->Option (LA×Nat)
|.imm c len sz' _ _=>cond (beq sz sz') (some (c,len)) none
|.nsl=>some ([],0)
|_=>none
def Alq:AV->Option UInt8
|.int .u8 n=>some (UInt8.ofNat n.toNat)
|_=>none
def CB:LA->Option Lu
|[]=>some []
|x::r=>(Alq x).bind fun b=>(CB r).bind fun l=>some (b::l)
def RZ{R:Type}(step:TypeId->LA->LA->(Bool->O R)->O R)(x y:LA):List (Nat×TypeId)->(Bool->O R)->O R
|[],k=>k true
|(off,t)::r,k=>step t (x.drop off) (y.drop off) fun b=>RZ step x y r fun c=>k (b&&c)
def Ac9(P:Program)(sz:Nat)(f:Field):Bool:=match C8 P f.type with
|some s => ble 1 s && (ble (f.offset + s) sz && !(f.name == "_"))
|none=>false
def tW{R:Type}(P:Program):Nat->TypeId->LA->LA->(Bool->O R)->O R
|0,_,_,_,_=>none
|d+1,t,x,y,k=>match P.underlying t with
  |some (.int kd)=>(x.head?).bind fun u=>(rQ kd u).bind fun a=>(y.head?).bind fun v=>(rQ kd v).bind fun b=>k (a==b)
  |some .bool=>(x.head?).bind fun u=>(asBool u).bind fun a=>(y.head?).bind fun v=>(asBool v).bind fun b=>k (a==b)
  |some .string=>(x.head?).bind fun u=>(rR u).bind fun a=>(y.head?).bind fun v=>(rR v).bind fun b=>k (a==b)
  |some (.struct fs)=>(C8 P t).bind fun sz=>cond (P.stoodInHeld t||!(fs.toList.all (Ac9 P sz))) none (RZ (tW P d) x y (fs.toList.map fun f=>(f.offset,f.type)) k)
  |some (.array n e)=>(C8 P e).bind fun s=>(C8 P t).bind fun sz=>cond (ble 1 s&&ble (n*s) sz) (RZ (tW P d) x y ((List.range n).map fun i=>(i*s,e)) k) none
  |_=>none
def Ada:AV->Option LA
|.pagg c _=>some c
|.agg c=>some c
|_=>none
def Ate(P:Program)(t:TypeId):Bool:=match P.underlying t with|some (.struct _)=>true|some (.array _ _)=>true|_=>false
def Aa4{R:Type}(P:Program)(t:TypeId)(op:BinOp)(x y:AV)(r:AV->O R):O R :=
 match Ada x,Ada y with
| some a,some b=>(C8 P t).bind fun s=>cond (ble 1 s&&(beq a.length s&&(beq b.length s&&(Ate P t&&!(P.eqGuardType P.depth t)))))
  (match op with
   |.eql=>tW P 8 t a b fun c=>r (.bool c)
   |.neq=>tW P 8 t a b fun c=>r (.bool (!c))
   | _=>none) none
|_,_=>Aql P t op x y r
def HZ{R:Type}(P:Program)(t:TypeId)(c:LA)(org:Bool)(k:Bool->O R):O R:=cond (Ao3 P t) (k org) (cond (!org||A0 c) (k false) none)
def bI{R:Type}(P:Program)(t:TypeId)(c:LA)(org:Bool)(k:AV->O R):O R :=
 match P.underlying t with
|some (.int kd)=>(c.head?).bind fun x=>(rQ kd x).bind fun n=>k (.int kd n)
|some .bool=>(c.head?).bind fun x=>(asBool x).bind fun b=>k (.bool b)
|some .string=>(c.head?).bind fun x=>(rR x).bind fun s=>k (.str s)
|some (.slice e)=>(C8 P e).bind fun sz=>(c.head?).bind fun x=>(Atd sz x).bind fun p=>k (.imm p.1 p.2 sz false org)
|some (.struct _)=>(C8 P t).bind fun n=>cond (ble n c.length) (HZ P t (c.take n) org fun o=>k (.pagg (c.take n) o)) none
|some (.array _ _)=>(C8 P t).bind fun n=>cond (ble n c.length) (HZ P t (c.take n) org fun o=>k (.pagg (c.take n) o)) none
|_=>none
def U'{R:Type}(n:Nat)(k:AV->O R):LA->Nat->O R
|[],_=>none
|v::r,i=>cond (beq n i) (k v) (U' n k r (i+1))
def rS{R:Type}(P:Program)(t:TypeId)(c:LA)(k:AV->O R):O R :=
 match P.underlying t with
|some (.struct _)=>(C8 P t).bind fun n=>cond (ble n c.length) (k (.agg (c.take n))) none
|some (.array _ _)=>(C8 P t).bind fun n=>cond (ble n c.length) (k (.agg (c.take n))) none
|some _=>(c.head?).bind k
|none=>none
def bJ{R:Type}(P:Program)(t:TypeId)(c:LA)(off:Nat)(k:AV->O R):O R :=
 match P.underlying t with
|some (.struct _)=>(C8 P t).bind fun n=>cond (ble n (c.drop off).length) (k (.agg ((c.drop off).take n))) none
|some (.array _ _)=>(C8 P t).bind fun n=>cond (ble n (c.drop off).length) (k (.agg ((c.drop off).take n))) none
|some _=>U' off k c 0
|none=>none
abbrev Cg:=Nat->Option Blk
def Ms(g:Cg)(b:Nat):Option Blk:=(g b).bind fun x=>cond x.dead none (some x)
def vF{R:Type}(P:Program)(g:Cg)(t:TypeId)(p:AV)(k:AV->O R):O R :=
 match p with
|.iptr c org=>bI P t c org k
|.optr b off=>(Ms g b).bind fun x=>cond x.pure (bI P t (x.cells.drop off) x.taint k) (bJ P t x.cells off k)
|_=>none
def Ac(i:Int)(n:Nat):Bool:=decide (0<=i)&&decide (i<(n:Int))
def AP{R:Type}(P:Program)(t:TypeId)(x i:AV)(k:AV->O R):O R :=
 match P.underlying t,x,i with
|some (.slice el),.imm c len sz _ org,.int _ i=>(C8 P el).bind fun sz'=>cond (beq sz sz') (cond (Ac i len) (k (.iptr (c.drop (i.toNat*sz)) org)) none) none
|some (.slice el),.own b off len,.int _ i=>(C8 P el).bind fun sz=>cond (Ac i len) (k (.optr b (off+i.toNat*sz))) none
|some (.array len el),.iptr c org,.int _ i=>(C8 P el).bind fun sz=>cond (Ac i len) (k (.iptr (c.drop (i.toNat*sz)) org)) none
|some (.array len el),.optr b off,.int _ i=>(C8 P el).bind fun sz=>cond (Ac i len) (k (.optr b (off+i.toNat*sz))) none
|_,_,_=>none
def uu(P:Program)(t:TypeId)(f:Nat):Option (Nat×TypeId) :=
 match P.underlying t with
|some (.struct fs)=>(fs[f]?).map fun x=>(x.offset,x.type)
|_=>none
def AQ{R:Type}(P:Program)(t:TypeId)(x:AV)(f:Nat)(k:AV->O R):O R :=
 (uu P t f).bind fun p=>(C8 P p.2).bind fun n=>cond (beq n 0) none
 (match x with
|.iptr c org=>k (.iptr (c.drop p.1) org)
|.optr b off=>k (.optr b (off+p.1))
| _=>none)
def pH{R:Type}(P:Program)(t:TypeId)(x:AV)(f:Nat)(k:AV->O R):O R :=
 (uu P t f).bind fun p =>
 match x with
|.pagg c org=>bI P p.2 (c.drop p.1) org k
|.agg c=>rS P p.2 (c.drop p.1) k
|_=>none
def pI{R:Type}(P:Program)(t:TypeId)(x i:AV)(k:AV->O R):O R :=
 match P.underlying t,x,i with
|some .string,.str s,.int _ i=>cond (Ac i s.length) (k (.int .u8 ((s.getD i.toNat 0).toNat:Int))) none
|some (.array len el),.pagg c org,.int _ i=>(C8 P el).bind fun sz=>cond (Ac i len) (bI P el (c.drop (i.toNat*sz)) org k) none
|some (.array len el),.agg c,.int _ i=>(C8 P el).bind fun sz=>cond (Ac i len) (bJ P el c (i.toNat*sz) k) none
|_,_,_=>none
def ld(o:Option AV)(d:Nat):Option Int:=match o with|none=>some (d:Int)|some (.int _ i)=>some i|_=>none
def H_{R:Type}(lo hi mx:Option AV)(n:Nat)(k:Nat->Nat->O R):O R :=
 (ld lo 0).bind fun l=>(ld hi n).bind fun h=>(ld mx n).bind fun m=>cond (mx.isSome&&!hi.isSome) none <|
 cond (decide (0<=l)&&(decide (l<=h)&&(decide (h<=m)&&decide (m<=(n:Int))))) (k l.toNat h.toNat) none
def Ao4(tight:Bool)(hi mx:Option AV):Bool:=match hi,mx with|none,none=>tight|some (.int _ a),some (.int _ b)=>a==b|_,_=>false
def pJ{R:Type}(P:Program)(g:Cg)(t:TypeId)(x:AV)(lo hi mx:Option AV)(k:AV->O R):O R :=
 match P.underlying t,x with
|some .string,.str s=>cond mx.isSome none (H_ lo hi none s.length fun l h=>k (.str ((s.drop l).take (h - l))))
|some (.slice el),.nsl=>(C8 P el).bind fun _=>H_ lo hi mx 0 fun _ _=>k .nsl
| some (.slice el),.imm c n sz tight org=>(C8 P el).bind fun sz'=>cond (beq sz sz') (H_ lo hi mx n fun l h =>
   k (.imm ((c.drop (l*sz)).take ((h - l)*sz)) (h - l) sz (Ao4 tight hi mx) org)) none
|some (.slice el),.own b off n=>(C8 P el).bind fun sz=>(Ms g b).bind fun y=>cond (beq sz y.sz) (H_ lo hi mx n fun l h=>k (.own b (off+l*sz) (h - l))) none
|some (.array n el),.optr b off=>(C8 P el).bind fun _=>(Ms g b).bind fun y=>cond (beq y.sz 0&&(ble (off+n) y.cells.length&&(lo.isNone&&(hi.isNone&&mx.isNone)))) (k (.own b off n)) none
|_,_=>none
def Ay5(P:Program)(t:TypeId)(x:AV):Option AV :=
 match P.underlying t,x with
|some (.slice _),.nsl=>some (.int .i64 0)
|some (.slice _),.imm _ n _ _ _=>some (.int .i64 n)
|some (.slice _),.own _ _ n=>some (.int .i64 n)
|some .string,.str s=>some (.int .i64 s.length)
|some (.array n _),_=>some (.int .i64 n)
|_,_=>none
def jB(g:Cg)(sz:Nat):AV->Option (LA×Nat×Bool)
|.nsl=>some ([],0,false)
|.imm c n sz' _ org=>cond (beq sz sz') (some (c,n,org)) none
|.own b off n=>(Ms g b).bind fun x=>cond (x.pure&&beq sz x.sz) (some ((x.cells.drop off).take (n*sz),n,x.taint)) none
|.str s=>cond (beq sz 1) (some (s.map fun b=>.int .u8 (b.toNat:Int),s.length,false)) none
|_=>none
def jv{R:Type}(P:Program)(el:TypeId)(g:Cg)(sz:Nat)(x:AV)(k:LA×Nat×Bool->O R):O R:=(jB g sz x).bind fun q=>HZ P el q.1 q.2.2 fun o=>k (q.1,q.2.1,o)
abbrev J4:=List (Nat×Option Blk)
def jC(g:Cg):AV->Option (AV×J4×Bool)
|.own b off n=>(Ms g b).bind fun x=>cond x.pure (some (.imm ((x.cells.drop off).take (n*x.sz)) n x.sz false x.taint,[(b,some {x with sealed:=true})],x.taint)) none
|.optr ..|.agg _|.tup _|.undef|.fn ..|.omap _=>none
|.imm c n sz t org=>some (.imm c n sz t org,[],org)
|.iptr c org=>some (.iptr c org,[],org)
|.pagg _ _=>none
|v=>some (v,[],false)
def KC(g:Cg):LA->Option (LA×J4×Bool)
|[]=>some ([],[],false)
|v::r=>(jC g v).bind fun p=>(KC g r).bind fun q=>some (p.1::q.1,p.2.1++q.2.1,p.2.2||q.2.2)
def JP(g:Cg):AV->Option (LA×J4×Bool)
|.pagg c org=>some (c,[],org)
|.agg c=>KC g c
|v=>KC g [v]
def Gh(c:LA)(off:Nat)(vs:LA):LA:=c.take off++vs++c.drop (off+vs.length)
def Br:J4->Nat->Bool
|[],_=>false
|(i,_)::r,b=>cond (beq i b) true (Br r b)
def R_(g:Cg):AV->Bool
|.own b _ _=>(Ms g b).isSome
|.optr b _=>(Ms g b).isSome
|.agg _=>false
|.pagg _ _=>false
|.tup _=>false
|.undef=>false
|.omap _=>false
|_=>true
def JQ(g:Cg):LA->Bool
|[]=>true
|v::r=>R_ g v&&JQ g r
def setCells(c:LA)(off:Nat)(vs:LA):LA:=match vs with|[y]=>c.set off y|ys=>Gh c off ys
def pK {R:Type} (P:Program) (g:Cg) (t:TypeId) (p v:AV) (k:AV->J4->O R):O R :=
  match p with
  | .optr b off=>(Ms g b).bind fun x=>(C8 P t).bind fun n =>
    cond x.sealed none
    (cond x.pure
      ((JP g v).bind fun q=>cond (beq q.1.length n&&(ble (off+n) x.cells.length&&!Br q.2.1 b))
        (k .undef (q.2.1++[(b,some { x with cells:=setCells x.cells off q.1,taint:=x.taint||q.2.2 })])) none)
      (match v with
        |.agg c=>cond (JQ g c&&(beq c.length n&&ble (off+n) x.cells.length)) (k .undef [(b,some {x with cells:=Gh x.cells off c})]) none
        |.pagg c org=>cond (beq off 0&&(beq c.length n&&beq x.cells.length n)) (k .undef [(b,some {x with pure:=true,taint:=org,cells:=c})]) none
        | v=>cond (R_ g v&&(beq n 1&&Nat.blt off x.cells.length)) (k .undef [(b,some { x with cells:=x.cells.set off v })]) none))
  |_=>none
def Kt:Nat:=1000000
def nid(d:Nat):Nat:=1000000+d*16
def Adb(P:Program)(t:TypeId):Option (Nat×Nat) :=
 match P.underlying t with
| some (.struct fs)=>(fs[0]?).bind fun f=>match P.underlying f.type with
  |some (.pointer u)=>cond (beq u t) ((C8 P t).map fun n=>(t,n)) none
  |some (.struct gs)=>(gs[0]?).bind fun g=>match P.underlying g.type with
   |some (.pointer u)=>cond (beq u f.type) ((C8 P t).map fun n=>(t,n)) none
   |_=>none
  |_=>none
|_=>none
def DX(d:Nat)(pure taint:Bool)(sz:Nat)(cells:LA):J4:=[(nid d,some {dead:=false,sealed:=false,pure,taint,sz,cells})]
def Ag4{R:Type}(P:Program)(g:Cg)(d:Nat)(t:TypeId)(v:AV)(k:AV->J4->O R):O R :=
 match v with
|.pagg c org=>k (.optr (nid d) 0) (DX d true org 0 c)
| .agg c =>
  cond (Ao3 P t) (cond (JQ g c&&beq c.length ((C8 P t).getD 0)) (k (.optr (nid d) 0) [(nid d,some {dead:=false,sealed:=false,pure:=false,taint:=false,sz:=0,cells:=c,ty:=Adb P t})]) none)
   ((KC g c).bind fun q=>k (.optr (nid d) 0) (q.2.1++DX d true q.2.2 0 q.1))
|v=>cond (R_ g v) (k (.optr (nid d) 0) (DX d false false 0 [v])) none
def Jc(sz:Nat):Blk:={dead:=false,sealed:=false,pure:=true,taint:=false,sz,cells:=[]}
def Atf(co:Bool)(v:AV):AV:=match co,v with
|true,.agg c=>cond (A0 c) (.pagg c false) (.agg c)
|_,v=>v
def pM{R:Type}(P:Program)(g:Cg)(co:Bool)(d:Nat)(t:TypeId)(k:AV->J4->O R):O R :=
 match P.underlying t,Ag3 P t with
|some (.slice el),some .nsl=>(C8 P el).bind fun sz=>k (.optr (nid d) 0) [(nid d+1,some (Jc sz)),(nid d,some {dead:=false,sealed:=false,pure:=false,taint:=false,sz:=0,cells:=[.own (nid d+1) 0 0]})]
|_,some z=>Ag4 P g d t (Atf co z) k
|_,none=>none
def Z2(place:Nat->Option (Nat×Nat)):List (Nat×LA)->LA->Option LA
|[],c=>some c
|(i,vs)::r,c=>(place i).bind fun p=>cond (beq vs.length p.2&&ble (p.1+p.2) c.length) (Z2 place r (setCells c p.1 vs)) none
def rT{R:Type}(place:Nat->Option (Nat×Nat)):List (Nat×LA)->LA->(LA->O R)->O R
|[],c,k=>k c
|(i,vs)::r,c,k=>(place i).bind fun p=>cond (beq vs.length p.2&&ble (p.1+p.2) c.length) (rT place r (setCells c p.1 vs) k) none
def Vy(n:Nat)(z:LA):LA:=match z with|[v]=>replicate n v|z=>(replicate n z).flatten
def JR(g:Cg):List (Nat×AV)->Option (List (Nat×LA)×J4×Bool)
|[]=>some ([],[],false)
|(i,v)::r=>(JP g v).bind fun q=>(JR g r).bind fun q'=>some ((i,q.1)::q'.1,q.2.1++q'.2.1,q.2.2||q'.2.2)
def Xr{R:Type}(P:Program)(g:Cg)(d:Nat)(t:TypeId)(len:Nat)(parts:List (Nat×AV))(k:AV->J4->O R):O R :=
 match P.underlying t with
| some (.slice el)=>(C8 P el).bind fun sz=>(rP P el).bind fun z=>(JR g parts).bind fun q =>
  cond (ble (len*sz) 16777216) (rT (fun i=>some (i*sz,sz)) q.1 (Vy len z) fun cells =>
   k (.own (nid d) 0 len) (q.2.1++DX d true q.2.2 sz cells)) none
|_=>none
def jw:AV->Bool
|.own ..|.optr ..|.fn ..|.undef|.agg _|.pagg _ _|.tup _|.omap _=>true
|_=>false
def vG:AV->Bool
|.agg c=>c.any jw
|.pagg _ _=>false
|v=>jw v
def cellsOf:AV->LA
|.agg c=>c
|.pagg c _=>c
|v=>[v]
def Adc:AV->Bool
|.imm _ _ _ _ o=>o
|.iptr _ o=>o
|_=>false
def rU:AV->Bool
|.pagg _ o=>o
|.agg c=>c.any Adc
|v=>Adc v
def VA:AV->Bool
|.pagg _ _=>true
|_=>false
def bK(P:Program)(t:TypeId):Option (Nat->Option (Nat×Nat)) :=
 match P.underlying t with
|some (.array _ e)=>(P.info? e).map fun ie=>fun i=>some (i*ie.size,ie.size)
|some (.struct fs)=>(fs.toList.mapM fun f=>(P.info? f.type).map fun i=>(f.offset,i.size)).map fun pl=>fun i=>pl[i]?
|_=>none
def Aa5(P:Program)(t:TypeId):Option LA:=(P.info? t).bind fun i=>(i.zero).map fun v=>W5 v.cells.toList
def Iw:List (Nat×AV)->List (Nat×LA)
|[]=>[]
|(i,v)::r=>(i,cellsOf v)::Iw r
def Ag5(o:Bool):AV->AV
|.imm c n s t _=>.imm c n s t o
|.iptr c _=>.iptr c o
|v=>v
def vH:AV->LA
|.agg c=>c
|.pagg c o=>c.map (Ag5 o)
|v=>[v]
def On:List (Nat×AV)->List (Nat×LA)
|[]=>[]
|(i,v)::r=>(i,vH v)::On r
def bL:AV->Bool
|.undef=>false
|.tup _=>false
|.omap _=>false
|_=>true
def Ade(P:Program)(t:TypeId)(parts:List (Nat×AV)):Option AV :=
 (bK P t).bind fun place=>cond (parts.all fun p=>bL p.2) (
 cond (parts.any fun p=>VA p.2)
  (cond (parts.any fun p=>vG p.2) ((Aa5 P t).bind fun z=>(Z2 place (On parts) z).map fun c=>.agg c) ((rP P t).bind fun z=>(Z2 place (Iw parts) z).map fun c=>.pagg c (parts.any fun p=>rU p.2)))
  ((Aa5 P t).bind fun z=>(Z2 place (Iw parts) z).map fun c=>.agg c)) none
def Adf{R:Type}(P:Program)(t:TypeId)(parts:List (Nat×AV))(k:AV->O R):O R :=
 (bK P t).bind fun place=>cond (parts.all fun p=>bL p.2) (
 cond (parts.any fun p=>VA p.2)
  (cond (parts.any fun p=>vG p.2) ((Aa5 P t).bind fun z=>rT place (On parts) z fun c=>k (.agg c)) ((rP P t).bind fun z=>rT place (Iw parts) z fun c=>k (.pagg c (parts.any fun p=>rU p.2))))
  ((Aa5 P t).bind fun z=>rT place (Iw parts) z fun c=>k (.agg c))) none
def fY{R:Type}(P:Program)(g:Cg)(t:TypeId)(parts:List (Nat×AV))(k:AV->J4->O R):O R:=(bK P t).bind fun place=>(rP P t).bind fun z=>(JR g parts).bind fun q=>rT place q.1 z fun c=>k (.pagg c q.2.2) q.2.1
def Aqm(P:Program)(t:TypeId):List (Nat×Nat) :=
 match P.underlying t with
|some (.struct fs)=>fs.toList.filterMap fun f=>match P.underlying f.type with|some (.slice el)=>(C8 P el).map fun s=>(f.offset,s)|_=>none
|_=>[]
def Ao5(P:Program)(n:Nat)(e:TypeId)(off:Nat):List (Nat×Nat) :=
 match P.underlying e with
|some (.slice el)=>((C8 P el).map fun s=>(List.range n).map fun i=>(off+i,s)).getD []
|_=>[]
def Yf(P:Program)(t:TypeId):List (Nat×Nat) :=
 match P.underlying t with
|some (.array n e)=>Ao5 P n e 0
|some (.struct fs)=>fs.toList.flatMap fun f=>match P.underlying f.type with
  |some (.slice el)=>((C8 P el).map fun s=>(f.offset,s)).toList
  |some (.struct _)=>(Aqm P f.type).map fun p=>(f.offset+p.1,p.2)
  |some (.array n e)=>Ao5 P n e f.offset
  |_=>[]
|_=>[]
def Jj(d:Nat):List (Nat×Nat)->Nat->LA->LA×J4
|[],_,c=>(c,[])
|(o,sz)::r,j,c=>match c[o]? with
  |some .nsl=>((Jj d r (j+1) (c.set o (.own (nid d+j) 0 0))).1,(nid d+j,some (Jc sz))::(Jj d r (j+1) (c.set o (.own (nid d+j) 0 0))).2)
  |_=>Jj d r (j+1) c
def Aqn{R:Type}(P:Program)(t:TypeId)(co:Bool)(d:Nat)(v:AV)(k:AV->J4->O R):O R :=
 match co,v with
|true,.agg c=>cond (ble (Yf P t).length 15) (k (.agg (Jj d (Yf P t) 1 c).1) (Jj d (Yf P t) 1 c).2) none
|_,v=>k v []
def fZ{R:Type}(P:Program)(g:Cg)(d:Nat)(t:TypeId)(k:AV->J4->O R):O R :=
 match Ag3 P t with
|some (.agg c)=>cond (ble (Yf P t).length 15&&JQ g c) (k (.optr (nid d) 0) ((Jj d (Yf P t) 1 c).2++DX d false false 0 (Jj d (Yf P t) 1 c).1)) none
|_=>none
def Ao6(P:Program):Nat->TypeId->Nat->List (Nat×TypeId)
|0,t,off=>[(off,t)]
|d+1,t,off=>match P.underlying t with
  |some (.struct fs)=>fs.toList.flatMap fun f=>Ao6 P d f.type (off+f.offset)
  |_=>[(off,t)]
def Atg(P:Program)(t:TypeId):Bool:=match P.underlying t with
|some (.int _)=>true|some .bool=>true|some .string=>true|some (.slice _)=>true|_=>false
def lf{R:Type}(P:Program)(c:LA)(org:Bool):List (Nat×TypeId)->LA->(LA->O R)->O R
|[],acc,k=>k acc
|(off,t)::r,acc,k=>cond (beq off acc.length&&Atg P t) (bI P t (c.drop off) org fun v=>lf P c org r (acc++[v]) k) none
def pN{R:Type}(P:Program)(co:Bool)(t:TypeId)(v:AV)(k:AV->O R):O R :=
 match co,v with
|true,.pagg c org=>lf P c org (Ao6 P 4 t 0) [] fun l=>cond (beq c.length l.length) (k (.agg l)) none
|_,v=>k v
def Aa6{R:Type}(P:Program)(d:Nat)(t:TypeId)(len cap:AV)(k:AV->J4->O R):O R :=
 match P.underlying t,len,cap with
| some (.slice el),.int .i64 l,.int .i64 c=>(C8 P el).bind fun sz=>(Ac8 P el).bind fun by_=>(rP P el).bind fun z =>
  cond (decide (0<=l)&&(decide (l<=c)&&(decide (c<=140737488355328)&&decide (c*(by_:Int)<=140737488355328)))) (
   k (.own (nid d) 0 l.toNat) (DX d true false sz (Vy l.toNat z))) none
|_,_,_=>none
def Ao7(g:Cg)(sz:Nat)(s:AV):Option (LA×Nat×Bool×J4) :=
 match s with
|.nsl=>some ([],0,false,[])
|.imm _ n _ true _=>cond (beq n 0) (some ([],0,false,[])) none
|.own b off n=>(Ms g b).bind fun x=>cond (x.pure&&(!x.sealed&&beq sz x.sz)) (some ((x.cells.drop off).take (n*sz),n,x.taint,[(b,none)])) none
|_=>none
def rV(P:Program)(g:Cg)(el tx:TypeId)(s:AV):Option (Nat×Nat) :=
 match s with
|.nsl=>match P.underlying tx with|some .string=>some (el,0)|_=>none
|.own b off _=>(Ms g b).bind fun x=>(x.ty).bind fun q=>cond (beq q.1 el&&(beq q.2 0&&beq off 0)) (some (el,0)) none
|_=>none
def Adg(P:Program)(t:TypeId):Bool:=match P.underlying t with|some (.slice _)=>true|some .string=>true|_=>false
def f4{R:Type}(P:Program)(g:Cg)(d:Nat)(t tx:TypeId)(s x:AV)(k:AV->J4->O R):O R :=
 match P.underlying t with
| some (.slice el)=>cond (Adg P tx) ( (C8 P el).bind fun sz=>(Ac8 P el).bind fun by_=>(rP P el).bind fun _ =>
  (Ao7 g sz s).bind fun old=>jv P el g sz x fun new =>
  cond (ble (old.2.1+new.2.1) 140737488355328&&ble ((old.2.1+new.2.1)*by_) 140737488355328) (
   k (.own (nid d) 0 (old.2.1+new.2.1)) (old.2.2.2++[(nid d,some { dead:=false,sealed:=false,pure:=true,taint:=old.2.2.1||new.2.2,sz,cells:=old.1++new.1,ty:=rV P g el tx s })])) none) none
|_=>none
def Aa7{R:Type}(P:Program)(g:Cg)(t:TypeId)(s x:AV)(k:AV->J4->O R):O R :=
 match P.underlying t,s with
| some (.slice el),.own b off n=>(C8 P el).bind fun sz=>(Ms g b).bind fun y=>jv P el g sz x fun new =>
  cond (y.pure&&(!y.sealed&&beq sz y.sz)) (
   k (.int .i64 (min new.2.1 n:Nat)) [(b,some { y with cells:=Gh y.cells off (new.1.take ((min new.2.1 n)*sz)),taint:=y.taint||new.2.2 })]) none
|some (.slice el),.nsl=>(C8 P el).bind fun sz=>jv P el g sz x fun _=>k (.int .i64 0) []
|_,_=>none
def Aa8 {R:Type} (P:Program) (g:Cg) (d:Nat) (src dst:TypeId) (x:AV) (k:AV->J4->O R):O R :=
 match P.underlying dst with
|some (.int kd)=>match x with|.int _ n=>cond (P.underlying src).isSome (k (.int kd (kd.wrap n)) []) none|_=>none
| some .string=>match P.underlying src with
  |some .string=>match x with|.str s=>k (.str s) []|_=>none
  | some (.slice el)=>match P.underlying el with
   |some (.int .u8)=>match x with
    |.str _=>none
    |x=>(jB g 1 x).bind fun q=>(CB q.1).bind fun s=>k (.str s) []
   |_=>none
  |_=>none
|some (.slice el)=>match P.underlying src,P.underlying el,x with
  |some (.slice _),some (.int .u8),.own b off n=>cond (beq src dst&&ble 1 n) ((Ms g b).bind fun x=>cond x.sealed none (k (.own b off n) [])) none
  |some .string,some (.int .u8),.str s=>k (.own (nid d) 0 s.length) (DX d true false 1 (s.map fun b=>.int .u8 (b.toNat:Int)))
  |_,_,_=>none
|_=>none
def FX(s:Lu)(p:Int):Nat×Nat:=Utf8.decode ⟨⟨s⟩⟩ p.toNat
def pP{R:Type}(P:Program)(d:Nat)(t:TypeId)(x:AV)(k:AV->J4->O R):O R :=
 match P.underlying t,x with
|some .string,.str s=>k (.omap (nid d)) [(nid d,some {dead:=false,sealed:=false,pure:=true,taint:=false,sz:=1,cells:=[.str s,.int .i64 0],mp:=true})]
|_,_=>none
def Aa9{R:Type}(g:Cg)(it:AV)(isString:Bool)(k:AV->J4->O R):O R :=
 match it,isString with
| .omap b,true=>(Ms g b).bind fun x=>cond (x.mp&&beq x.sz 1)
  (match x.cells with
   | [.str s,.int .i64 p]=>cond (decide (p<(s.length:Int)))
     (k (.tup [.bool true,.int .i64 p,.int .i32 ((FX s p).1:Nat)]) [(b,some {x with cells:=[.str s,.int .i64 (p+((FX s p).2:Nat))]})]) (k (.tup [.bool false]) [])
   | _=>none) none
|_,_=>none
mutual
def J6:AV->List Nat
|.own b _ _=>[b]
|.optr b _=>[b]
|.omap b=>[b]
|.agg c=>Mt c
|.tup c=>Mt c
|.fn _ c=>Mt c
|_=>[]
def Mt:List AV->List Nat
|[]=>[]
|v::r=>J6 v++Mt r
end
mutual
def gt(ρ:Nat->Nat):AV->AV
|.own b off n=>.own (ρ b) off n
|.optr b off=>.optr (ρ b) off
|.omap b=>.omap (ρ b)
|.agg c=>.agg (GQ ρ c)
|.tup c=>.tup (GQ ρ c)
|.fn f c=>.fn f (GQ ρ c)
|v=>v
def GQ(ρ:Nat->Nat):List AV->List AV
|[]=>[]
|v::r=>gt ρ v::GQ ρ r
end
def VB(g:Cg):AV->Option (AV×Bool)
|.own b off n=>(Ms g b).bind fun x=>cond x.pure (some (.imm ((x.cells.drop off).take (n*x.sz)) n x.sz false (!x.sealed||x.taint),!x.sealed||x.taint)) none
|.imm c n sz _ org=>some (.imm c n sz false org,org)
|.iptr c org=>some (.iptr c org,org)
|.optr ..|.agg _|.tup _|.undef|.fn ..|.pagg ..|.omap _=>none
|v=>some (v,false)
def bM(g:Cg):LA->Option (LA×Bool)
|[]=>some ([],false)
|v::r=>(VB g v).bind fun p=>(bM g r).bind fun q=>some (p.1::q.1,p.2||q.2)
def Adh(g:Cg):AV->Option (AV×Bool)
|.own b off n=>(Ms g b).bind fun x=>cond x.pure (some (.imm ((x.cells.drop off).take (n*x.sz)) n x.sz false (!x.sealed||x.taint),!x.sealed)) none
|.imm c n sz _ org=>some (.imm c n sz false org,false)
|.optr b off=>(Ms g b).bind fun x=>cond x.pure (some (.iptr (x.cells.drop off) (!x.sealed||x.taint),!x.sealed)) none
|.agg c=>(bM g c).bind fun q=>some (.pagg q.1 q.2,true)
|.fn f []=>some (.fn f [],false)
|.fn _ _|.tup _|.undef|.omap _=>none
|v=>some (v,false)
def Nf(d:Nat):List (Nat×Nat)->Nat->Nat
|[],_=>d
|(i,x)::r,b=>cond (beq i b) x (Nf d r b)
def K3:List Nat->Nat->Bool
|[],_=>false
|i::r,b=>cond (beq i b) true (K3 r b)
def rW:List Nat->List Nat->List Nat
|[],acc=>acc.reverse
|i::r,acc=>cond (K3 acc i) (rW r acc) (rW r (i::acc))
def bO:List Nat->Bool
|[]=>true
|i::r=>!K3 r i&&bO r
def Bi(base:Nat):List Nat->List (Nat×Nat)
|[]=>[]
|i::r=>(i,base)::Bi (base+1) r
def P9(g:Cg):List Nat->List Nat
|[]=>[]
|b::r=>(match g b with|some x=>cond x.pure [] (Mt x.cells)|none=>[])++P9 g r
def KD(g:Cg)(ids:List Nat):List Nat:=rW (ids++P9 g (ids++P9 g ids)) []
def bR(g:Cg):List Nat->Bool
|[]=>true
|b::r=>(match g b with|some x=>!x.dead|none=>false)&&bR g r
def N_(ρ:Nat->Nat)(x:Blk):Blk:={x with cells:=cond x.pure x.cells (GQ ρ x.cells)}
def sub(g:Cg)(ρ:Nat->Nat):List Nat->A8
|[]=>[]
|b::r=>match g b with
  |some x=>Ja (sub g ρ r) (ρ b) (N_ ρ x)
  |none=>sub g ρ r
structure Tw where
 runK:{R:Type}->List AV->A8->(AV->A8->O R)->O R
 eq:∀{R:Type}(args:List AV)(h:A8)(k:AV->A8->O R),runK args h k=(runK args h fun v h'=>some (v,h')).bind fun p=>k p.1 p.2
def lh{R:Type}:List (Nat×Tw)->Nat->LA->A8->(AV->A8->O R)->O R
|[],_,_,_,_=>none
|(g,t)::r,f,args,h,k=>cond (beq g f) (t.runK args h k) (lh r f args h k)
structure Env where
 P:Program
 nt:Nat
 muts:Nat->List Bool
 nils:List (Nat×Nat)
 free:List Nat
 cob:List Nat
 tbl:List (Nat×Tw)
mutual
def QP:AV->Bool
|.imm _ _ _ _ o=>o
|.iptr _ o=>o
|.pagg _ o=>o
|.agg c=>CC c
|.tup c=>CC c
|.fn _ c=>CC c
|_=>false
def CC:List AV->Bool
|[]=>false
|v::r=>QP v||CC r
end
def li:A8->Bool
|[]=>false
|(_,x)::r=>x.taint||(cond x.pure false (CC x.cells))||li r
def Oo(g:Cg):LA->List Nat
|[]=>[]
|.own b _ _::r=>match g b with|some x=>cond x.sealed (Oo g r) (b::Oo g r)|none=>Oo g r
|_::r=>Oo g r
def SA(g:Cg):AV->List Nat
|.own b _ _=>match g b with|some x=>cond x.sealed [] [b]|none=>[]
|.optr b _=>match g b with|some x=>cond x.sealed [] [b]|none=>[]
|.agg c=>Oo g c
|_=>[]
def SB(g:Cg):List Bool->LA->Option (LA×List Nat×List Nat)
|_,[]=>some ([],[],[])
| ms,v::r =>
  cond (ms.headD false)
   ((SB g ms.tail r).bind fun q=>some (v::q.1,J6 v++q.2.1,q.2.2))
   ((Adh g v).bind fun p=>(SB g ms.tail r).bind fun q=>some (p.1::q.1,q.2.1,SA g v++q.2.2))
def YS(ids:List Nat):List Nat->Bool
|[]=>true
|b::r=>K3 ids b&&YS ids r
def Ag6:List Nat->List Nat->Bool
|[],_=>true
|i::r,l=>!K3 l i&&Ag6 r l
def Adi:List Nat->Bool
|[]=>true
|_=>false
def Aba {R:Type} (E:Env) (g:Cg) (d:Nat) (f:Nat) (args:LA) (k:AV->J4->O R):O R :=
 (SB g (E.muts f) args).bind fun q =>
 let ids:=KD g q.2.1
 let tin:=Bi 100000 ids
 let outs:=tin.map (·.2)
 cond (bR g ids&&(YS ids q.2.1&&(YS ids (P9 g ids)&&(Ag6 q.2.2 ids&&(bO (ids.map (Nf 0 tin))&&ble ids.length 100000))))) (
  lh E.tbl f (GQ (Nf 0 tin) q.1) (sub g (Nf 0 tin) ids) fun rv rh =>
  let all:=KD (Aq rh) (J6 rv++outs)
  let new:=all.filter fun b=>!K3 outs b
  let tnew:=Bi (nid d) new
  let σ:=Nf 0 ((tin.map fun p=>(p.2,p.1))++tnew)
  cond (!Adi q.2.2&&(QP rv||li rh)) none
   (cond (bR (Aq rh) new&&(ble new.length 16&&(YS all (J6 rv)&&(YS all outs&&(YS all (P9 (Aq rh) all)&&bO (all.map σ))))))
    (k (gt σ rv) ((tin.map fun p=>(p.1,(Aq rh p.2).map (N_ σ)))++tnew.map fun p=>(p.2,(Aq rh p.1).map (N_ σ)))) none)) none
def Abb{R:Type}(c a b:AV)(k:AV->O R):O R :=
 match c,a,b with
|.bool t,.bool x,.bool y=>k (.bool (cond t x y))
|.bool t,x,.tup []=>cond t (k x) none
|.bool t,.tup [],y=>cond t none (k y)
|.bool t,x,y=>cond t (k x) (k y)
|_,_,_=>none
def Adj(P : Program)(f : Nat): Bool := match P.funcs[f]? with|some fn => fn.body.isSome && !(fn.name == "runtime.NumGoroutine")|none => false
def Ra(a b:Int):Int:=cond (decide (b<a)) b a
def tX(a b:Int):Int:=cond (decide (b>a)) b a
def A0t:AV->AV->Option AV
|.int k a,.int _ b=>some (.int k (Ra a b))
|_,_=>none
def A0u:AV->AV->Option AV
|.int k a,.int _ b=>some (.int k (tX a b))
|_,_=>none
def zM{R:Type}(E:Env)(g:Cg)(d:Nat)(v:Operand->AV)(o:Op)(k:AV->J4->O R):O R :=
 match o with
|.move x=>k (v x) []
|.assign x=>k (v x) []
|.pick c a b=>Abb (v c) (v a) (v b) fun r=>k r []
|.alloc t=>cond (K3 E.cob (d+1000000)) (fZ E.P g d t k) (pM E.P g (K3 E.cob d) d t k)
|.box t x=>pN E.P (K3 E.cob d) t (v x) fun u=>Ag4 E.P g d t u k
|.build t parts=>cond (K3 E.cob (d+4000000)) (fY E.P g t (parts.toList.map fun p=>(p.1,v p.2)) k) (Adf E.P t (parts.toList.map fun p=>(p.1,v p.2)) fun r=>Aqn E.P t (K3 E.cob d) d r k)
|.buildSlice t len parts=>Xr E.P g d t len (parts.toList.map fun p=>(p.1,v p.2)) k
|.load t a=>vF E.P g t (v a) fun r=>k r []
|.store t a x=>pK E.P g t (v a) (v x) k
|.nilCheck x=>match v x with|.iptr c o=>k (.iptr c o) []|.optr b o=>k (.optr b o) []|_=>none
|.binOp op t x y _=>Aa4 E.P t op (v x) (v y) fun r=>k r []
|.unOp op _ x=>(A1w op (v x)).bind fun r=>k r []
|.convert s t x=>Aa8 E.P g d s t (v x) k
|.makeFunc (.func f) first caps=>cond (Nat.blt f 1000000) (k (.fn (f+1000000*first.toList.length) ((first.toList++caps.toList).map v)) []) none
|.makeSlice t l c=>Aa6 E.P d t (v l) (v c) k
|.slice t x lo hi mx=>pJ E.P g t (v x) (lo.map v) (hi.map v) (mx.map v) fun r=>k r []
|.fieldAddr t x f=>AQ E.P t (v x) f fun r=>k r []
|.field t x f=>pH E.P t (v x) f fun r=>k r []
|.indexAddr t x i=>AP E.P t (v x) (v i) fun r=>k r []
|.index t x i=>pI E.P t (v x) (v i) fun r=>k r []
|.range t x=>pP E.P d t (v x) k
|.next it s=>Aa9 g (v it) s k
|.extract t i=>match v t with|.tup vs=>(vs[i]?).bind fun r=>k r []|_=>none
| .call c=>match c.callee with
  |.builtin .len=>match c.args.toList,c.argTypes.toList with|[x],[t]=>(Ay5 E.P t (v x)).bind fun r=>k r []|_,_=>none
  |.builtin .append=>match c.args.toList,c.argTypes.toList with|[s,x],[t,tx]=>f4 E.P g d t tx (v s) (v x) k|_,_=>none
  |.builtin .copy=>match c.args.toList,c.argTypes.toList with|[s,x],[t,_]=>Aa7 E.P g t (v s) (v x) k|_,_=>none
  |.builtin .min=>match c.args.toList with|[x,y]=>(A0t (v x) (v y)).bind fun r=>k r []|_=>none
  |.builtin .max=>match c.args.toList with|[x,y]=>(A0u (v x) (v y)).bind fun r=>k r []|_=>none
  |.value fo=>match v fo with
   |.fn f caps=>cond (Adj E.P (f%1000000)) (Aba E g d (f%1000000) (caps.take (f/1000000)++(c.args.toList.map v++caps.drop (f/1000000))) k) none
   |_=>none
  |_=>none
|_=>none
structure Foot where
 r:List Nat
 w:Option Nat
 f:List Nat
 u:List Nat
def jx:List Operand->List Nat
|[]=>[]
|.tmp t::r=>t::jx r
|_::r=>jx r
def As:J4->A8->A8
|[],h=>h
|(b,some x)::r,h=>As r (Ja h b x)
|(b,none)::r,h=>As r (match Aq h b with|some x=>Ja h b {x with dead:=true,pure:=true,cells:=[]}|none=>h)
def f5(ops:Array Oper)(o:Oper):Option (Nat×Bool) :=
 match o.guard with
|none=>none
|some (j,want)=>((ops[j]?).bind (·.dst)).map fun t=>(t,want)
def VC(ops:Array Oper)(s:J5)(o:Oper):Option Bool :=
 match o.guard with
|none=>some true
| some (j,want)=>match (ops[j]?).bind (·.dst) with
  |some t=>match Jb s t with
   |.bool b=>some (b==want)
   |.tup []=>some false
   |_=>none
  |none=>some false
def Alr(nt:Nat)(s:J5)(d:Option Nat)(v:AV):J5:=match d with|some d=>cond (Nat.blt d nt) (ju s d v) s|none=>s
def Ao8:Op->Bool
|.binOp op ..=>match op with|.eql|.neq=>true|_=>false
|.move _|.assign _|.pick ..|.unOp ..|.makeFunc ..|.fieldAddr ..|.field ..|.indexAddr ..|.index ..|.extract ..|.nilCheck _=>false
|.call c=>match c.callee with
  |.builtin .len|.builtin .min|.builtin .max=>false
  |_=>true
|_=>true
def Ao9:Op->Bool
|.load ..|.binOp ..=>true
|_=>false
def FY(h:A8)(op:Op)(vals:LA):List Nat:=cond (Ao8 op) (cond (Ao9 op) (rW (Mt vals) []) (KD (Aq h) (Mt vals))) []
def SC(d b:Nat):Bool:=ble (nid d) b&&Nat.blt b (nid d+16)
def jD(d:Nat)(F:List Nat)(h:A8):J4->Bool
|[]=>true
|(b,_)::r=>cond (SC d b) (Aq h b).isNone (K3 F b&&(Aq h b).isSome)&&jD d F h r
def Ag7{R:Type}(E:Env)(ops:Array Oper)(o:Oper)(st:St)(k:St->Foot->O R):O R :=
 (VC ops st.s o).bind fun wanted=>cond wanted (
  zM E (fun b=>cond (K3 (FY st.h o.op (o.op.operands.toList.map (ev st.s))) b) (Aq st.h b) none) (o.dst.getD 50000) (ev st.s) o.op fun v ups =>
  cond (jD (o.dst.getD 50000) (FY st.h o.op (o.op.operands.toList.map (ev st.s))) st.h ups)
   (k { s:=Alr E.nt st.s o.dst v,h:=As ups st.h } { r:=(match f5 ops o with | some p=>[p.1] | none=>[])++jx o.op.operands.toList,w:=o.dst,f:=FY st.h o.op (o.op.operands.toList.map (ev st.s)),u:=ups.map (·.1) }) none)
  (k {st with s:=Alr E.nt st.s o.dst (.tup [])} {r:=(match f5 ops o with|some p=>[p.1]|none=>[]),w:=o.dst,f:=[],u:=[]})
def pQ{R:Type}(ops:Array Oper)(o:Oper)(st:St)(k:St->O R):O R :=
 match o.guard with
|none=>k st
| some (j,want)=>match (ops[j]?).bind (·.dst) with
  |none=>k st
  |some t=>match Jb st.s t with
   |.bool b=>cond (b==want) (k {s:=ju st.s t (.bool want),h:=st.h}) (k {s:=ju st.s t (.bool (!want)),h:=st.h})
   |_=>k st
def vI{R:Type}(E:Env)(ops:Array Oper):List Oper->St->List Foot->(St->List Foot->O R)->O R
|[],st,tr,k=>k st tr
|o::r,st,tr,k=>pQ ops o st fun st=>Ag7 E ops o st fun st f=>vI E ops r st (f::tr) k
def wIn:Option Nat->List Nat->Bool
|none,_=>false
|some d,l=>K3 l d
def rX(a b:Foot):Bool:=!wIn a.w b.r&&!wIn b.w a.r&&(match a.w,b.w with|some x,some y=>!beq x y|_,_=>true)&&Ag6 a.u (b.f++b.u)&&Ag6 b.u a.f
def bS(e:Edge):Bool:=match e.ground with|.textOnly _=>false|.gcOnly _=>false|_=>true
def VD(o:Oper):List Nat:=(o.after.toList.filter bS).map (·.on)
def Adk{α:Type}:List Nat->(List Nat->α)->α
|[],k=>k []
|i::r,k=>Adk r fun s=>k (i::s)
def SD{α:Type}:∀(l:List Nat)(k:List Nat->α),Adk l k=k l
|[],_=>rfl
|i::r,k=>by rw[Adk,SD r]
def Jx:List Oper->List (List Nat)->List (List Nat)
|[],acc=>acc
|o::r,acc=>Adk (rW (VD o++((VD o).flatMap fun i=>(acc[i]?).getD [])) []) fun a=>Jx r (acc++[a])
def JT:Nat->List Oper->Bool
|_,[]=>true
|i,o::r=>(o.after.toList.all fun e=>!bS e||Nat.blt e.on i)&&JT (i+1) r
def lj(f:Foot)(anc:List Nat):Nat->List Foot->Bool
|_,[]=>true
|i,g::r=>(K3 anc i||rX g f)&&lj f anc (i+1) r
def f7:List Foot->List (List Nat)->List Foot->Bool
|[],_,_=>true
|f::r,a::az9,seen=>lj f a 0 seen&&f7 r az9 (seen++[f])
|_::_,[],_=>false
def Qa(b:Nat):Nat:=cond (ble Kt b) (b - Kt) b
mutual
def KE(g:Cg):AV->AV
|.own b off n=>match Ms g b with|some _=>.own (Qa b) off n|none=>.undef
|.optr b off=>match Ms g b with|some _=>.optr (Qa b) off|none=>.undef
|.omap b=>match Ms g b with|some _=>.omap (Qa b)|none=>.undef
|.agg c=>.agg (Oq g c)
|.tup c=>.tup (Oq g c)
|.fn f c=>.fn f (Oq g c)
|v=>v
def Oq(g:Cg):List AV->List AV
|[]=>[]
|v::r=>KE g v::Oq g r
end
def pR(g:Cg)(K:List Nat):J5->J5
|[]=>[]
|(t,v)::r=>cond (K3 K t) ((t,KE g v)::pR g K r) (pR g K r)
def vJ(K:List Nat):J5->List Nat
|[]=>[]
|(t,v)::r=>cond (K3 K t) (J6 v++vJ K r) (vJ K r)
def KG(g:Cg):List Nat->A8
|[]=>[]
|b::r=>match Ms g b with
  |some x=>Ja (KG g r) (Qa b) {x with cells:=cond x.pure x.cells (Oq g x.cells)}
  |none=>KG g r
def OC(g:Cg)(ids:List Nat):List Nat:=ids.filter fun b=>match Ms g b with|some _=>true|none=>false
def vK(g:Cg)(ids:List Nat):List Nat->Bool
|[]=>true
|b::r=>(K3 ids b||(Ms g b).isNone)&&vK g ids r
def Apa:List Nat->Bool
|[]=>true
|b::r=>cond (ble Kt b) (Nat.blt (Qa b) 100000) true&&Apa r
def clean(K roots:List Nat)(st:St):Option St :=
 let g:=Aq st.h
 let ids:=OC g (KD g (vJ K st.s++roots))
 cond (bO (ids.map Qa)&&(vK g ids (vJ K st.s)&&(vK g ids (P9 g ids)&&Apa ids))) (some {s:=pR g K st.s,h:=KG g ids}) none
def VE{R:Type}(E:Env)(roots:List Nat)(ops:Array Oper)(draw:Bool)(st:St)(k:St->O R):O R :=
 vI E ops ops.toList st [] fun st tr =>
  cond (!draw||(JT 0 ops.toList&&f7 tr.reverse (Jx ops.toList []) [])) ((clean (st.s.map (·.1)) roots st).bind k) none
def vL(b:Nat):Bool:=ble 100000 b&&Nat.blt b 200000
def VF(live:List Nat):List (Nat×Nat)->St->Option St
|[],st=>some st
|(t,sz)::r,st=>cond (ble 1000000 sz)
  (match K3 live t,Jb st.s t with
  |true,.nsl=>VF live r {s:=ju st.s t (.imm [] 0 (sz - 1000000) false false),h:=st.h}
  |true,.own b off n=>(jC (Aq st.h) (.own b off n)).bind fun q=>VF live r {s:=ju st.s t q.1,h:=As q.2.1 st.h}
  | _,_=>VF live r st)
  (match K3 live t,Jb st.s t with
  |true,.nsl=>cond (Aq st.h (nid t+15)).isSome none (VF live r {s:=ju st.s t (.own (nid t+15) 0 0),h:=Ja st.h (nid t+15) (Jc sz)})
  | _,_=>VF live r st)
def SE(free:List Nat)(b:Nat):Bool:=vL b&&!K3 free b
def Ath(free ids:List Nat):List (Nat×Nat):=Bi 300000 (ids.filter fun b=>!SE free b)
def KH(free ids:List Nat)(b:Nat):Nat:=cond (SE free b) b (Nf 0 (Ath free ids) b)
def Ati(ρ:Nat->Nat)(K:List Nat):J5->J5
|[]=>[]
|(t,v)::r=>cond (K3 K t) ((t,gt ρ v)::Ati ρ K r) (Ati ρ K r)
def YT(E:Env)(live roots:List Nat)(st:St):Option St :=
 (VF live E.nils st).bind fun st =>
 let g:=Aq st.h
 let ids:=OC g (KD g (vJ live st.s++roots))
 cond (bO (ids.map (KH E.free ids))&&(YS ids (vJ live st.s)&&(YS ids (P9 g ids)&&ble ids.length 100000))) (some {s:=Ati (KH E.free ids) live st.s,h:=sub g (KH E.free ids) ids}) none
inductive Hint where
|leaf
|node (live:List Nat) (a b:Hint)
|join (live:List Nat) (a b:Hint)
def Hint.live:Hint->List Nat
|.leaf=>[]
|.node l _ _=>l
|.join l _ _=>l
def Hint.a:Hint->Hint
|.leaf=>.leaf
|.node _ a _=>a
|.join _ a _=>a
def Hint.b:Hint->Hint
|.leaf=>.leaf
|.node _ _ b=>b
|.join _ _ b=>b
def Hint.isJoin:Hint->Bool
|.join _ _ _=>true
|_=>false
noncomputable def Ad{α:Type}(a:α):{x:α // x=a}:=Classical.choice ⟨⟨a,rfl⟩⟩
noncomputable def Atj{R:Type}(j:Bool)(f:St->O R):St->O R:=cond j (Ad f).1 f
def CD{R:Type}(j:Bool)(f:St->O R):Atj j f=f:=by cases j;rfl;exact(Ad f).2
noncomputable def Ag8{R:Type}(E:Env)(roots:List Nat)(H:Hint)(f:St->O R)(st:St):O R:=cond H.isJoin ((YT E H.live roots st).bind (Atj true f)) (f st)
def YU{R:Type}(cn:St->Option St)(body:(St->O R)->St->O R):Nat->St->O R
|0,_=>none
|n+1,st=>body (fun st=>(cn st).bind (YU cn body n)) st
noncomputable def Gi{R:Type}(E:Env)(roots:List Nat)(N:Nat):Code->Hint->(St->O R)->(Nat->St->O R)->(St->O R)->St->O R
|.skip,_,k,_,_,st=>k st
|.region _ ops draw,_,k,_,_,st=>VE E roots ops draw st k
|.seq a b,H,k,x,r,st=>Gi E roots N a H.a (Ag8 E roots H fun st=>Gi E roots N b H.b k x r st) x r st
|.cond c a b,H,k,x,r,st=>match ev st.s c with
  |.bool t=>cond t (Gi E roots N a H.a k x r st) (Gi E roots N b H.b k x r st)
  |_=>none
|.block id c,H,k,x,r,st=>Gi E roots N c H.a k (fun j st=>cond (beq j id) (k st) (x j st)) r st
|.loop c,H,_,x,r,st=>(YT E H.live roots st).bind (Atj true (YU (YT E H.live roots) (fun k st=>Gi E roots N c H.a k x r st) N))
|.exit id,_,_,x,_,st=>x id st
|.ret,_,_,_,r,st=>r st
|_,_,_,_,_,_=>none
def T6{R:Type}(E:Env)(st:St):List ResultVar->LA->(LA->O R)->O R
|[],acc,k=>k acc.reverse
|.tmp t::r,acc,k=>T6 E st r (Jb st.s t::acc) k
|.cell a t::r,acc,k=>vF E.P (Aq st.h) t (Jb st.s a) fun v=>T6 E st r (v::acc) k
def Ay6(g:Cg)(i:Nat)(m:Nat×Nat)(v:AV):Option (AV×J4) :=
 cond (beq m.1 0) (some (v,[]))
 (cond (beq m.1 1) (match v with
  |.nsl=>some (.imm [] 0 m.2 false false,[])
  |.imm c n sz _ o=>some (.imm c n sz false o,[])
  |.own b off n=>(jC g (.own b off n)).bind fun q=>some (q.1,q.2.1)
  | _=>none)
 (cond (beq m.1 2) (match v with
  |.nsl=>cond (g (nid 90000+i)).isSome none (some (.own (nid 90000+i) 0 0,[(nid 90000+i,some (Jc m.2))]))
  | v=>some (v,[]))
 (match v with
  |.agg c=>(KC g c).bind fun q=>some (.pagg q.1 q.2.2,q.2.1)
  |.pagg c o=>some (.pagg c o,[])
  | _=>none)))
def Ag9(h:A8):Nat->List (Nat×Nat)->LA->Option (LA×A8)
|_,_,[]=>some ([],h)
|i,ms,v::r=>(Ay6 (Aq h) i (ms.headD (0,0)) v).bind fun p=>(Ag9 (As p.2 h) (i+1) ms.tail r).bind fun q=>some (p.1::q.1,q.2)
def Ay7(l:LA):AV:=match l with|[v]=>v|l=>.tup l
def CE{R:Type}(E:Env)(fn:Func)(modes:List (Nat×Nat))(outs:List Nat)(k:AV->A8->O R)(st:St):O R :=
 T6 E st fn.results.toList [] fun l =>
 (Ag9 st.h 0 modes l).bind fun q =>
 let v:=Ay7 q.1
 let g:=Aq q.2
 let ids:=OC g (KD g (J6 v++outs))
 cond (bO (ids.map (KH E.free ids))&&(YS ids (J6 v)&&(YS ids (P9 g ids)&&ble ids.length 100000))) (k (gt (KH E.free ids) v) (sub g (KH E.free ids) ids)) none
def vM:Nat->LA->J5
|_,[]=>[]
|i,v::r=>(i,v)::vM (i+1) r
structure Hints where
 H:Hint
 nils:List (Nat×Nat):=[]
 modes:List (Nat×Nat):=[]
 free:List Nat:=[]
 cob:List Nat:=[]
def lk:A8->Bool
|[]=>true
|(b,_)::r=>vL b&&lk r
noncomputable def rY{R:Type}(P:Program)(muts:Nat->List Bool)(T:List (Nat×Tw))(hs:Hints)(N f:Nat)(args:LA)(h:A8)(k:AV->A8->O R):O R :=
 match P.funcs[f]? with
|none=>none
| some fn=>match fn.body with
  |none=>none
  |some c =>
   let E:Env:={P,nt:=fn.ntmps,muts,nils:=hs.nils,free:=hs.free,cob:=hs.cob,tbl:=T}
   let outs:=h.map (·.1)
   let fin:=CE E fn hs.modes outs k
   cond (ble args.length fn.ntmps&&lk h) (Gi E outs N c hs.H fin (fun _ _=>none) fin {s:=vM 0 args,h}) none
end Gx
namespace Gx
open Go
mutual
def RepC(J:Nat->Prop)(w:World):AV->Value->Prop
|.int k n,v=>v=.int k n
|.bool b,v=>v=.bool b
|.str s,v=>v=.string ⟨⟨s⟩⟩
|.nsl,v=>v=.slice none 0 0
| .imm c len sz tight _,v=>c.length=len*sz/\∃ A cap,v=.slice A len cap/\len<=cap/\(tight=true->cap=len) /\
   (len=0\/∃ a,A=some a/\J a.block/\RepCs J w c (fun j=>w.cell? (a.add j)) 0)
|.iptr c _,v=>∃ a,v=.pointer (some a)/\J a.block/\RepCs J w c (fun j=>w.cell? (a.add j)) 0
|.nilptr,v=>v=.pointer none
|.nilfn,v=>v=.nilFunc
|.fn f [],v=>v=.func (.func (f%1000000)) #[] #[]
|_,_=>False
def RepCs(J:Nat->Prop)(w:World):List AV->(Nat->Option Value)->Nat->Prop
|[],_,_=>True
|x::r,rd,i=>(∃ u,rd i=some u/\RepC J w x u)/\RepCs J w r rd (i+1)
end
def C9{J:Nat->Prop}{w:World}:∀{c:LA}{rd:Nat->Option Value}{i:Nat},
  RepCs J w c rd i↔∀ j x,c[j]?=some x->∃ u,rd (i+j)=some u/\RepC J w x u:=by
 intro c
 induction c with
|nil=>intro rd i;simp[RepCs]
| cons x r e =>
  intro rd i
  rw[RepCs,e]
  constructor
  ·rintro⟨f,k⟩ j y d
   cases j with
   |zero=>simp at d;subst d;simpa using f
   |succ j=>have:=k j y (by simpa using d);rwa [show i+1+j=i+(j+1) by omega]at this
  ·intro h
   refine⟨by simpa using h 0 x (by simp),fun j y d=>?_⟩
   have:=h (j+1) y (by simpa using d)
   rwa [show i+(j+1)=i+1+j by omega]at this
def Aha(J:Nat->Prop)(w w':World):Prop:=∀ k,J k->w'.heap[k]?=w.heap[k]?
def pV{J:Nat->Prop}{w w':World}(h:Aha J w w'){a:Addr}(d:J a.block):w'.cell? a=w.cell? a:=by unfold World.cell?;rw[h a.block d]
def Xs(a:Addr)(n:Nat):(a.add n).block=a.block:=by unfold Addr.add;split<;>rfl
mutual
def RepC.keep{J J':Nat->Prop}{w w':World}(hJ:∀ k,J k->J' k)(hk:Aha J w w'):∀{x:AV}{v:Value},RepC J w x v->RepC J' w' x v
|.int ..,_,h=>h
|.bool _,_,h=>h
|.str _,_,h=>h
|.nsl,_,h=>h
| .imm c _ _ _ _,_,h=>by
  rw[RepC]at h ⊢
  obtain⟨h1,A,cap,h2,h3,h4,h5⟩:=h
  refine⟨h1,A,cap,h2,h3,h4,?_⟩
  rcases h5 with h5|⟨a,ha,hj,hc⟩
  ·exact .inl h5
  ·refine .inr ⟨a,ha,hJ _ hj,RepCs.keep hJ hk (c:=c) (fun j=>?_) hc⟩
   exact pV hk (by rw[Xs];exact hj)
|.iptr c _,_,h=>by
  rw[RepC]at h ⊢
  obtain⟨a,ha,hj,hc⟩:=h
  exact⟨a,ha,hJ _ hj,RepCs.keep hJ hk (c:=c) (fun j=>pV hk (by rw[Xs];exact hj)) hc⟩
|.nilptr,_,h=>h
|.nilfn,_,h=>h
|.fn _ [],_,h=>h
|.fn _ (_::_),_,h=>by simp[RepC]at h
|.pagg ..,_,h=>by simp[RepC]at h
|.agg _,_,h=>by simp[RepC]at h
|.tup _,_,h=>by simp[RepC]at h
|.own ..,_,h=>by simp[RepC]at h
|.optr ..,_,h=>by simp[RepC]at h
|.undef,_,h=>by simp[RepC]at h
|.omap _,_,h=>by simp[RepC]at h
def RepCs.keep{J J':Nat->Prop}{w w':World}(hJ:∀ k,J k->J' k)(hk:Aha J w w'):∀{c:List AV}{rd rd':Nat->Option Value}{i:Nat},(∀ j,rd' j=rd j)->RepCs J w c rd i->RepCs J' w' c rd' i
|[],_,_,_,_,_=>trivial
|x::r,rd,rd',i,he,h=>by
  rw[RepCs]at h ⊢
  obtain⟨⟨u,hu,hx⟩,hr⟩:=h
  exact⟨⟨u,by rw[he];exact hu,RepC.keep hJ hk (x:=x) hx⟩,RepCs.keep hJ hk (c:=r) he hr⟩
end
abbrev Dl:=Nat->Option (Nat×Nat)
def Bx(w:World)(k:Nat):Nat:=match w.heap[k]? with|some (.cells cs _ _)=>cs.size|_=>0
def A0v(sz k:Nat):Value:=match sz with|0=>.map (some k)|_+1=>.pointer (some ⟨k,0,none⟩)
mutual
def Rep(J:Bool->Nat->Prop)(β:Dl)(h:A8)(w:World):AV->Value->Prop
| .own b off n,v=>∃ x A cap,(Aq h b=some x/\x.mp=false)/\v=.slice A n cap/\n<=cap/\(cap=0\/∃ k o,A=some ⟨k,o+off,none⟩ /\
   (x.dead=true\/(β b=some (k,o)/\o+off+cap*x.sz<=Bx w k/\off+n*x.sz<=x.cells.length)))
|.omap b,v=>∃ x k,(Aq h b=some x/\x.mp=true)/\(x.dead=true\/(β b=some (k,0)/\v=A0v x.sz k))
|.optr b off,v=>∃ x k o,(Aq h b=some x/\x.mp=false)/\v=.pointer (some ⟨k,o+off,none⟩)/\(x.dead=true\/β b=some (k,o))
|.pagg c org,v=>∃ cs,v=.agg ⟨cs⟩/\cs.length=c.length/\RepCs (J org) w c (fun j=>cs[j]?) 0
|.agg c,v=>∃ cs,v=.agg ⟨cs⟩/\Reps J β h w c cs
|.tup c,v=>∃ cs,v=.tuple ⟨cs⟩/\Reps J β h w c cs
|.fn f c,v=>∃ cs:List Value,v=.func (.func (f%1000000)) ⟨cs.take (f/1000000)⟩ ⟨cs.drop (f/1000000)⟩/\Reps J β h w c cs
|.undef,_=>True
|.imm c n sz t org,v=>RepC (J org) w (.imm c n sz t org) v
|.iptr c org,v=>RepC (J org) w (.iptr c org) v
|.int k n,v=>v=.int k n
|.bool b,v=>v=.bool b
|.str s,v=>v=.string ⟨⟨s⟩⟩
|.nsl,v=>v=.slice none 0 0
|.nilptr,v=>v=.pointer none
|.nilfn,v=>v=.nilFunc
def Reps(J:Bool->Nat->Prop)(β:Dl)(h:A8)(w:World):List AV->List Value->Prop
|[],cs=>cs=[]
|x::r,cs=>∃ u us,cs=u::us/\Rep J β h w x u/\Reps J β h w r us
end
structure Ext(J:Bool->Nat->Prop)(β:Dl)(h:A8)(w:World)(J':Bool->Nat->Prop)(β':Dl)(h':A8)(w':World):Prop where
 jsub:∀ o k,J o k->J' o k
 keep:∀ o,Aha (J o) w w'
 blk:∀ b x,Aq h b=some x->∃ x',(Aq h' b=some x'/\x'.mp=x.mp)/\(x'.dead=true\/(x.dead=false/\β' b=β b/\x'.sz=x.sz/\(x.mp=false->x'.cells.length=x.cells.length)))
 size:∀ b k o,β b=some (k,o)->Bx w k<=Bx w' k
mutual
def Rep.ext{J J':Bool->Nat->Prop}{β β':Dl}{h h':A8}{w w':World}(E:Ext J β h w J' β' h' w'):∀{x:AV}{v:Value},Rep J β h w x v->Rep J' β' h' w' x v
| .own b off n,v,hr=>by
  rw[Rep]at hr ⊢
  obtain⟨x,A,cap,⟨hx,hm⟩,h1,h2,hr⟩:=hr
  obtain⟨x',⟨hx',hm'⟩,hd⟩:=E.blk b x hx
  refine⟨x',A,cap,⟨hx',by rw[hm',hm]⟩,h1,h2,?_⟩
  rcases hr with hr|⟨k,o,h3,hr⟩
  ·exact .inl hr
  ·refine .inr ⟨k,o,h3,?_⟩
   rcases hd with hd|⟨hd,hβ,hs,hl⟩
   ·exact .inl hd
   ·rcases hr with hr|⟨h4,h5,h6⟩
    ·simp[hd]at hr
    ·exact .inr ⟨by rw[hβ];exact h4,by rw[hs];exact A6k h5 (E.size b k o h4),by rw[hs,hl hm];exact h6⟩
| .optr b off,v,hr=>by
  rw[Rep]at hr ⊢
  obtain⟨x,k,o,⟨hx,hm⟩,h1,hr⟩:=hr
  obtain⟨x',⟨hx',hm'⟩,hd⟩:=E.blk b x hx
  refine⟨x',k,o,⟨hx',by rw[hm',hm]⟩,h1,?_⟩
  rcases hd with hd|⟨hd,hβ,hs,hl⟩
  ·exact .inl hd
  ·rcases hr with hr|hr
   ·simp[hd]at hr
   ·exact .inr (by rw[hβ];exact hr)
| .omap b,v,hr=>by
  rw[Rep]at hr ⊢
  obtain⟨x,k,⟨hx,hm⟩,hr⟩:=hr
  obtain⟨x',⟨hx',hm'⟩,hd⟩:=E.blk b x hx
  refine⟨x',k,⟨hx',by rw[hm',hm]⟩,?_⟩
  rcases hd with hd|⟨hd,hβ,hs,hl⟩
  ·exact .inl hd
  ·rcases hr with hr|⟨hr,hv⟩
   ·simp[hd]at hr
   ·exact .inr ⟨by rw[hβ];exact hr,by rw[hs];exact hv⟩
|.pagg c org,v,hr=>by
  rw[Rep]at hr ⊢
  obtain⟨cs,h1,h2,h3⟩:=hr
  exact⟨cs,h1,h2,RepCs.keep (E.jsub org) (E.keep org) (fun _=>rfl) h3⟩
|.agg c,v,hr=>by
  rw[Rep]at hr ⊢
  obtain⟨cs,h1,h2⟩:=hr
  exact⟨cs,h1,Reps.ext E (c:=c) h2⟩
|.tup c,v,hr=>by
  rw[Rep]at hr ⊢
  obtain⟨cs,h1,h2⟩:=hr
  exact⟨cs,h1,Reps.ext E (c:=c) h2⟩
|.fn f c,v,hr=>by
  rw[Rep]at hr ⊢
  obtain⟨cs,h1,h2⟩:=hr
  exact⟨cs,h1,Reps.ext E (c:=c) h2⟩
|.undef,_,_=>by rw[Rep];trivial
|.imm c n sz t org,v,hr=>by rw[Rep]at hr ⊢;exact RepC.keep (E.jsub org) (E.keep org) hr
|.iptr c org,v,hr=>by rw[Rep]at hr ⊢;exact RepC.keep (E.jsub org) (E.keep org) hr
|.int ..,_,hr=>hr
|.bool _,_,hr=>hr
|.str _,_,hr=>hr
|.nsl,_,hr=>hr
|.nilptr,_,hr=>hr
|.nilfn,_,hr=>hr
def Reps.ext{J J':Bool->Nat->Prop}{β β':Dl}{h h':A8}{w w':World}(E:Ext J β h w J' β' h' w'):∀{c:List AV}{cs:List Value},Reps J β h w c cs->Reps J' β' h' w' c cs
|[],_,hr=>hr
|x::r,cs,hr=>by
  rw[Reps]at hr ⊢
  obtain⟨u,us,h1,h2,h3⟩:=hr
  exact⟨u,us,h1,Rep.ext E (x:=x) h2,Reps.ext E (c:=r) h3⟩
end
end Gx
namespace Gx
open Go
def Apb:List (Nat×List Value):=[(1,(List.range 20).map fun i=>.int .u64 ((10 ^ i:Nat):Int))]
def Als:List Nat:=[0]
end Gx
namespace Gx
open Go
def CellsRep(J:Bool->Nat->Prop)(β:Dl)(h:A8)(w:World)(x:Blk)(rd:Nat->Option Value):Prop :=
 (x.pure=true->RepCs (J x.taint) w x.cells rd 0) /\
 (x.pure=false->∀ j c,x.cells[j]?=some c->∃ u,rd j=some u/\Rep J β h w c u/\u.oneCell'=true)
def FrOk(n:Nat)(fr:Nat×Nat):Prop:=fr.1=fr.2\/n<=fr.1
def FrOk.at{n:Nat}{fr:Nat×Nat}(h:FrOk n fr)(j:Nat)(d:j<n):¬ (fr.1<=j/\j<fr.2):=by rcases h with h|h<;>omega
def TyOk(X:Option (Nat×Nat))(ty:TypeId)(o n:Nat):Prop:=∀ t m,X=some (t,m)->ty=t/\o=0/\(m=0\/n=m)
def FrTy(X:Option (Nat×Nat))(ty:TypeId)(o n:Nat)(fr:Nat×Nat):Prop:=FrOk n fr/\TyOk X ty o n
def TyOk.none{ty:TypeId}{o n:Nat}:TyOk .none ty o n:=fun _ _ h=>by cases h
def FrOk.un{n:Nat}{fr:Nat×Nat}(h:FrOk n fr){ty:TypeId}{o:Nat}:FrTy .none ty o n fr:=⟨h,TyOk.none⟩
def FrTy.un0{ty:TypeId}{o n a:Nat}:FrTy .none ty o n (a,a):=⟨.inl rfl,TyOk.none⟩
def Ay8(J:Bool->Nat->Prop)(β:Dl)(h:A8)(w:World)(b:Nat)(x:Blk):Prop :=
 (β b=none/\x.cells=[])\/∃ k o cs ty fr,β b=some (k,o)/\w.heap[k]?=some (.cells cs ty fr) /\
  FrTy x.ty ty o cs.size fr/\o+x.cells.length<=cs.size/\CellsRep J β h w x (fun j=>cs[o+j]?) /\
  (x.sealed=false->∀ g,¬ J g k)/\(x.sealed=true->J x.taint k)
def A1x(c:LA)(es:Array MapEntry):Prop:=∃ l:List Int,c=l.map (fun n=>.int .i64 n)/\es.toList.map (fun e=>(e.key,e.val))=l.map (fun n=>(.int .i64 n,.bool true))
def ObjIs(x:Blk)(ob:Obj):Prop:=(x.sz=0/\∃ es clk,ob=.map es clk/\A1x x.cells es)\/(x.sz=1/\∃ s pos,ob=.stringIter ⟨⟨s⟩⟩ pos/\x.cells=[.str s,.int .i64 (pos:Int)])
def MapRep(J:Bool->Nat->Prop)(β:Dl)(w:World)(b:Nat)(x:Blk):Prop:=x.pure=true/\x.sealed=false/\∃ k ob,β b=some (k,0)/\w.heap[k]?=some ob/\ObjIs x ob/\∀ g,¬ J g k
def ObjIs.row{x:Blk}{ob:Obj}(h:ObjIs x ob){cs:Array Value}{ty:TypeId}{fr:Nat×Nat}:ob≠.cells cs ty fr:=by rcases h with⟨_,es,clk,rfl,_⟩|⟨_,s,pos,rfl,_⟩<;>exact fun h=>by cases h
def GlobOk(J:Bool->Nat->Prop)(w:World):Prop:=(∀ p∈Apb,J false p.1/\∃ ty fr,w.heap[p.1]?=some (.cells p.2.toArray ty fr))/\∀ g∈Als,J false g/\∃ m,w.cell? ⟨g,0,none⟩=some (.int .i64 m)
def GlobOk.to {J J':Bool->Nat->Prop} {w w':World} (h:GlobOk J w) (f:∀ k,J false k->J' false k) (j:Aha (J false) w w'):GlobOk J' w':=⟨fun p d =>
 ⟨f _ (h.1 p d).1,by rw[j _ (h.1 p d).1];exact(h.1 p d).2⟩,fun g e=>⟨f _ (h.2 g e).1,by rw[pV j (by exact(h.2 g e).1)];exact(h.2 g e).2⟩⟩
def GlobOk.ext{J J':Bool->Nat->Prop}{β β':Dl}{h h':A8}{w w':World}(G:GlobOk J w)(E:Ext J β h w J' β' h' w'):GlobOk J' w':=G.to (E.jsub false) (E.keep false)
structure SimH(J:Bool->Nat->Prop)(β:Dl)(h:A8)(w:World):Prop where
 jlt:∀ o k,J o k->k<w.heap.size
 jft:∀ k,J false k->J true k
 gl:GlobOk J w
 blk:∀ b x,Aq h b=some x->x.dead=false->x.mp=false->Ay8 J β h w b x
 mblk:∀ b x,Aq h b=some x->x.dead=false->x.mp=true->MapRep J β w b x
 sep:∀ b b' x x' k o o',Aq h b=some x->Aq h b'=some x'->x.dead=false->x'.dead=false->x.sealed=false->β b=some (k,o)->β b'=some (k,o')->b=b'
mutual
def f8{J:Bool->Nat->Prop}{β:Dl}{h:A8}{w:World}:∀ v:Value,Rep J β h w (pF v) v
|.int ..=>by simp[pF,Rep]
|.bool _=>by simp[pF,Rep]
|.string ⟨⟨s⟩⟩=>by simp[pF,Rep]
|.slice none 0 0=>by simp[pF,Rep]
|.slice none 0 (_+1)=>by simp[pF,Rep]
|.slice none (_+1) _=>by simp[pF,Rep]
|.slice (some _) _ _=>by simp[pF,Rep]
|.pointer none=>by simp[pF,Rep]
|.pointer (some _)=>by simp[pF,Rep]
|.nilFunc=>by simp[pF,Rep]
|.agg ⟨cs⟩=>by rw[pF,Rep];exact⟨cs,rfl,f9 cs⟩
|.float ..=>by simp[pF,Rep]
|.complex ..=>by simp[pF,Rep]
|.map _=>by simp[pF,Rep]
|.chan _=>by simp[pF,Rep]
|.func ..=>by simp[pF,Rep]
|.iface ..=>by simp[pF,Rep]
|.nilIface=>by simp[pF,Rep]
|.tuple _=>by simp[pF,Rep]
def f9{J:Bool->Nat->Prop}{β:Dl}{h:A8}{w:World}:∀ cs:List Value,Reps J β h w (W5 cs) cs
|[]=>by simp[W5,Reps]
|v::r=>by rw[W5,Reps];exact⟨v,r,rfl,f8 v,f9 r⟩
end
structure SimS(J:Bool->Nat->Prop)(β:Dl)(h:A8)(w:World)(s:J5)(t:Array Value):Prop where
 slot:∀ i v,t[i]?=some v->Rep J β h w (Jb s i) v
 out:∀ i,t.size<=i->Jb s i=.undef
def C4{J:Bool->Nat->Prop}{β:Dl}{h:A8}{w:World}{s:J5}{a:Act}(H:SimS J β h w s a.tmps)(x:Operand):Rep J β h w (ev s x) (a.eval x):=by
 cases x with
| tmp t =>
  rw[ev,Act.eval,A7i]
  cases d:a.tmps[t]? with
  |some v=>exact H.slot t v d
  |none =>
   have:a.tmps.size<=t:=by simpa using d
   rw[H.out t this];simp[Rep]
|const v=>exact f8 v
|global g=>simp[ev,Rep]
| func f =>
  rw[ev]
  cases e:Nat.blt f 1000000 with
  |false=>simp[Rep]
  |true =>
   have:f<1000000:=by simpa using e
   simp[Rep,Act.eval,Reps,A59 this]
section
variable{R:Type}{r:R}{P:Program}{J:Bool->Nat->Prop}{β:Dl}{h:A8}{w:World}
def Adl{t:TypeId}{op:BinOp}{k:IntKind}{a b:Int}{v:AV}(d:pG op k a b=some v):
  ∃ vc,(binOp op t (.int k a) (.int k b)).run P w=.ok vc w/\Rep J β h w v vc:=by cases op<;>simp[pG]at d<;>subst d<;>simp[binOp,Op.intArith,Op.intBits,Op.intCmp,Rep]
def Alt{op:BinOp}{t:TypeId}{x y:AV}{k:AV->O R}{vx vy:Value}(e:Aql P t op x y k=some r)(hx:Rep J β h w x vx)(q:Rep J β h w y vy)(ox oy:Operand):
  ∃ v vc,k v=some r/\(do eqGuard op t ox oy vx vy;binOp op t vx vy:Sem Value).run P w=.ok vc w/\Rep J β h w v vc:=by
 unfold Aql at e
 split at e
 ·rename_i m a k2 b
  rw[Rep]at hx q;subst hx q
  have j:(eqGuard op t ox oy (.int m a) (.int k2 b)).run P w=.ok () w:=by
   unfold eqGuard;cases op<;>simp
  split at e
  ·cases f:decide (b<0)<;>rw[f]at e<;>simp at e f
   refine⟨_,_,e,?_,by rw[Rep]⟩
   simp[j,binOp,Op.shift];intro z;omega
  ·cases f:decide (b<0)<;>rw[f]at e<;>simp at e f
   refine⟨_,_,e,?_,by rw[Rep]⟩
   simp[j,binOp,Op.shift];intro z;omega
  ·cases n:Vd m k2<;>rw[n]at e<;>simp at e
   have l:m=k2:=by simpa[Vd]using n
   subst l
   cases f:(b==0)<;>rw[f]at e<;>simp at e f
   refine⟨_,_,e,?_,by rw[Rep]⟩
   simp[j,binOp,Op.intDiv,f]
  ·cases n:Vd m k2<;>rw[n]at e<;>simp at e
   have l:m=k2:=by simpa[Vd]using n
   subst l
   cases f:(b==0)<;>rw[f]at e<;>simp at e f
   refine⟨_,_,e,?_,by rw[Rep]⟩
   simp[j,binOp,Op.intDiv,f]
  ·cases n:Vd m k2<;>rw[n]at e<;>simp at e
   have l:m=k2:=by simpa[Vd]using n
   subst l
   cases hi:pG op m a b with
   |none=>rw[hi]at e;simp at e
   |some v =>
    rw[hi]at e
    obtain⟨vc,A,C⟩:=Adl (P:=P) (J:=J) (β:=β) (h:=h) (w:=w) (t:=t) hi
    exact⟨v,vc,by simpa using e,by simp[j,A],C⟩
 ·rename_i a b
  rw[Rep]at hx q;subst hx q
  split at e
  ·cases f:fX P t<;>rw[f]at e<;>simp at e
   have s:P.underlying t=some .bool:=by unfold fX at f;split at f<;>simp_all
   refine⟨_,_,e,?_,by rw[Rep]⟩
   have u:(Op.equal t (.bool a) (.bool b)).run P w=.ok (a==b) w:=by
    have:∀ d,(Op.equalIn (d+1) t (.bool a) (.bool b)).run P w=.ok (a==b) w:=fun d=>by
     unfold Op.equalIn;simp only[Sem.run_bind,run_underlying s,Result.andThen_ok,Sem.run_pure]
    exact this 9999
   have j:∀ op,(eqGuard op t ox oy (.bool a) (.bool b)).run P w=.ok () w:=fun op=>by unfold eqGuard;cases op<;>simp
   simp only[Sem.run_bind,j,Result.andThen_ok,binOp,u,Sem.run_pure]
  ·cases f:fX P t<;>rw[f]at e<;>simp at e
   have s:P.underlying t=some .bool:=by unfold fX at f;split at f<;>simp_all
   refine⟨_,_,e,?_,by rw[Rep]⟩
   have u:(Op.equal t (.bool a) (.bool b)).run P w=.ok (a==b) w:=by
    have:∀ d,(Op.equalIn (d+1) t (.bool a) (.bool b)).run P w=.ok (a==b) w:=fun d=>by
     unfold Op.equalIn;simp only[Sem.run_bind,run_underlying s,Result.andThen_ok,Sem.run_pure]
    exact this 9999
   have j:∀ op,(eqGuard op t ox oy (.bool a) (.bool b)).run P w=.ok () w:=fun op=>by unfold eqGuard;cases op<;>simp
   simp only[Sem.run_bind,j,Result.andThen_ok,binOp,u,Sem.run_pure]
  ·simp at e
 ·rename_i a b
  rw[Rep]at hx q;subst hx q
  have D:(⟨⟨a⟩⟩:ByteArray).toList=a:=by simp[ByteArray.toList_eq]
  have eb:(⟨⟨b⟩⟩:ByteArray).toList=b:=by simp[ByteArray.toList_eq]
  have j:∀ op,(eqGuard op t ox oy (.string ⟨⟨a⟩⟩) (.string ⟨⟨b⟩⟩)).run P w=.ok () w:=fun op=>by unfold eqGuard;cases op<;>simp
  split at e
  ·cases f:ble (a.length+b.length) 140737488355328<;>rw[f]at e<;>simp at e f
   refine⟨_,_,e,?_,by rw[Rep]⟩
   have F:¬ (((⟨⟨a⟩⟩:ByteArray).size+(⟨⟨b⟩⟩:ByteArray).size:Nat):Int)>IntKind.i64.max:=by
    show ¬ ((a.length+b.length:Nat):Int)>9223372036854775807
    omega
   have G:(⟨⟨a⟩⟩:ByteArray)++⟨⟨b⟩⟩=⟨⟨a++b⟩⟩:=by
    apply ByteArray.ext;simp[ByteArray.data_append]
   simp only[Sem.run_bind,j,Result.andThen_ok,binOp,Op.stringOp,if_neg F,Sem.run_pure,G]
  all_goals first
   |(refine⟨_,_,e,?_,by rw[Rep]⟩;simp only[Sem.run_bind,j,Result.andThen_ok,binOp,Op.stringOp,Sem.run_pure,D,eb];done)
   |simp at e
 ·simp at e
end
end Gx
namespace Gx
open Go
section
variable{R:Type}{r:R}{P:Program}{J:Bool->Nat->Prop}{β:Dl}{h:A8}{w:World}
def ub{α:Type}{o:Option α}{f:α->O R}(d:o.bind f=some r):∃ x,o=some x/\f x=some r:=by
 cases o with
|none=>simp at d
|some x=>exact⟨x,rfl,by simpa using d⟩
def uc{b:Bool}{x:O R}(d:cond b x none=some r):b=true/\x=some r:=by cases b<;>simp at d;exact⟨rfl,d⟩
def Alu{b:Bool}{x:O R}(d:cond b none x=some r):b=false/\x=some r:=by cases b<;>simp at d;exact⟨rfl,d⟩
def Aqo{op:UnOp}{x v:AV}{vx:Value}(d:A1w op x=some v)(hx:Rep J β h w x vx):
  ∃ vc,(Op.unary op vx).run P w=.ok vc w/\Rep J β h w v vc:=by
 unfold A1w at d
 split at d
 ·rename_i k n
  rw[Rep]at hx;subst hx;simp at d;subst d
  refine⟨.int k (k.wrap (-n)),by simp[Op.unary,Op.intArith],?_⟩
  rw[Rep]
 ·rename_i k n
  rw[Rep]at hx;subst hx
  have e:=d
  rw[pG]at e
  simp only[A7l]at e;subst e
  refine⟨_,rfl,?_⟩
  rw[Rep];cases k.signed<;>rfl
 ·rename_i b
  rw[Rep]at hx;subst hx;simp at d;subst d
  exact⟨.bool (!b),by simp[Op.unary],by rw[Rep]⟩
 ·simp at d
def rZ(P:Program)(J:Bool->Nat->Prop)(β:Dl)(h:A8)(w:World)(t:TypeId)(rd:Nat->Option Value)(v:AV):Prop :=
 (∃ d,P.underlying t=some d/\d.isRow=false/\∃ u,rd 0=some u/\Rep J β h w v u) \/
 (∃ d,P.underlying t=some d/\d.isRow=true/\∃ us:List Value,(P.info? t).map (·.size)=some us.length/\(∀ j u,us[j]?=some u->rd j=some u)/\Rep J β h w v (.agg us.toArray))
def RepCs.at{J:Nat->Prop}{c:LA}{rd:Nat->Option Value}(d:RepCs J w c rd 0){j:Nat}{x:AV}(e:c[j]?=some x):∃ u,rd j=some u/\RepC J w x u:=by have:=C9.1 d j x e;simpa using this
def RepCs.drop{J:Nat->Prop}{c:LA}{rd:Nat->Option Value}(d:RepCs J w c rd 0)(n:Nat):RepCs J w (c.drop n) (fun j=>rd (n+j)) 0:=by
 rw[C9]at d ⊢
 intro j x e
 rw[A67]at e
 simpa using d (n+j) x e
def RepCs.take{J:Nat->Prop}{c:LA}{rd:Nat->Option Value}(e:RepCs J w c rd 0)(n:Nat):RepCs J w (c.take n) rd 0:=by
 rw[C9]at e ⊢
 intro j x d
 rw[A7f]at d
 split at d
 ·exact e j x d
 ·simp at d
def RepCs.list{J:Nat->Prop}{c:LA}{rd:Nat->Option Value}(f:RepCs J w c rd 0):
  ∃ us:List Value,us.length=c.length/\(∀ j u,us[j]?=some u->rd j=some u)/\RepCs J w c (fun j=>us[j]?) 0:=by
 refine⟨c.zipIdx.map fun p=>(rd p.2).getD undef,by simp,fun j u d=>?_,?_⟩
 ·rw[A7c,A9q]at d
  cases hx:c[j]? with
  |none=>rw[hx]at d;simp at d
  |some x =>
   rw[hx]at d
   obtain⟨k,e,_⟩:=f.at hx
   simp[e]at d
   rw[e,d]
 ·rw[C9]
  intro j x d
  obtain⟨u,e,hr⟩:=f.at d
  refine⟨u,?_,hr⟩
  simp[d,e]
def r4{J1 J2:Nat->Prop}:∀{c:LA}{rd:Nat->Option Value}{i:Nat},A0 c=true->RepCs J1 w c rd i->RepCs J2 w c rd i
|[],_,_,_,_=>trivial
|x::r,rd,i,d,e=>by
  rw[RepCs]at e ⊢
  obtain⟨⟨u,f,k⟩,j⟩:=e
  have hr:A0 r=true:=by unfold A0 at d;split at d<;>simp_all
  refine⟨⟨u,f,?_⟩,r4 hr j⟩
  unfold A0 at d
  split at d<;>simp_all[RepC]
def jE{t:TypeId}{c:LA}{org:Bool}{k:Bool->O R}{rd:Nat->Option Value}{i:Nat}(d:HZ P t c org k=some r)(e:RepCs (J org) w c rd i):∃ o,k o=some r/\RepCs (J o) w c rd i:=by
 unfold HZ at d
 cases f:Ao3 P t with
|true=>rw[f]at d;exact⟨org,d,e⟩
|false =>
  rw[f,cond_false]at d
  obtain⟨j,l⟩:=uc d
  refine⟨false,l,?_⟩
  cases org with
  |false=>exact e
  |true=>exact r4 (by simpa using j) e
def DY{t:TypeId}{c:LA}{org:Bool}{k:AV->O R}{rd:Nat->Option Value}(f:bI P t c org k=some r)(s:RepCs (J org) w c rd 0):
  ∃ v,k v=some r/\rZ P J β h w t rd v:=by
 unfold bI at f
 have agg:∀{d:TypeDesc},P.underlying t=some d->d.isRow=true->((C8 P t).bind fun n=>cond (ble n c.length) (HZ P t (c.take n) org fun o=>k (.pagg (c.take n) o)) none)=some r ->
   ∃ v,k v=some r/\rZ P J β h w t rd v:=by
  intro d l L f
  obtain⟨n,hn,f⟩:=ub f
  obtain⟨D,f⟩:=uc f
  have I:n<=c.length:=by simpa using D
  obtain⟨us,m,j,F⟩:=(s.take n).list
  have M:us.length=n:=by rw[m];simp;omega
  obtain⟨o,f,G⟩:=jE f F
  refine⟨_,f,.inr ⟨d,l,L,us,?_,j,?_⟩⟩
  ·rw[M];exact hn
  ·rw[Rep];exact⟨us,rfl,by rw[m],G⟩
 split at f
 ·rename_i kd l
  obtain⟨x,hx,f⟩:=ub f
  obtain⟨n,hn,f⟩:=ub f
  obtain⟨u,m,j⟩:=s.at (by rw[<-A57];exact hx)
  refine⟨_,f,.inl ⟨_,l,rfl,u,m,?_⟩⟩
  unfold rQ at hn
  split at hn
  ·obtain⟨y,z⟩:=uc hn
   simp[Vd]at y z;subst y;subst z
   rw[RepC]at j;rw[Rep];exact j
  ·simp at hn
 ·rename_i l
  obtain⟨x,hx,f⟩:=ub f
  obtain⟨n,hn,f⟩:=ub f
  obtain⟨u,m,j⟩:=s.at (by rw[<-A57];exact hx)
  refine⟨_,f,.inl ⟨_,l,rfl,u,m,?_⟩⟩
  unfold asBool at hn
  split at hn
  ·simp at hn;subst hn
   rw[RepC]at j;rw[Rep];exact j
  ·simp at hn
 ·rename_i l
  obtain⟨x,hx,f⟩:=ub f
  obtain⟨n,hn,f⟩:=ub f
  obtain⟨u,m,j⟩:=s.at (by rw[<-A57];exact hx)
  refine⟨_,f,.inl ⟨_,l,rfl,u,m,?_⟩⟩
  unfold rR at hn
  split at hn
  ·simp at hn;subst hn
   rw[RepC]at j;rw[Rep];exact j
  ·simp at hn
 ·rename_i e l
  obtain⟨sz,S,f⟩:=ub f
  obtain⟨x,hx,f⟩:=ub f
  obtain⟨p,q,f⟩:=ub f
  obtain⟨u,m,j⟩:=s.at (by rw[<-A57];exact hx)
  refine⟨_,f,.inl ⟨_,l,rfl,u,m,?_⟩⟩
  unfold Atd at q
  rw[Rep,RepC]
  split at q
  ·obtain⟨y,C⟩:=uc q
   simp at y C;subst y;subst C
   rw[RepC]at j
   obtain⟨F,A,cap,G,T,V,U⟩:=j
   exact⟨F,A,cap,G,T,by simp,U⟩
  ·simp at q;subst q
   rw[RepC]at j
   exact⟨by simp,none,0,j,by simp,by simp,.inl rfl⟩
  ·simp at q
 ·rename_i l;exact agg l rfl f
 ·rename_i l;exact agg l rfl f
 ·simp at f
def Dk:∀{c:LA}{cs:List Value},Reps J β h w c cs↔cs.length=c.length/\∀(j:Nat)(x:AV)(u:Value),c[j]?=some x->cs[j]?=some u->Rep J β h w x u
|[],cs=>by rw[Reps];simp
| x::r,cs=>by
  rw[Reps]
  constructor
  ·rintro⟨u,us,rfl,f,k⟩
   rw[Dk]at k
   refine⟨by simp[k.1],fun j y v d e=>?_⟩
   cases j with
   |zero=>simp at d e;subst d e;exact f
   |succ j=>exact k.2 j y v (by simpa using d) (by simpa using e)
  ·rintro⟨l,f⟩
   cases cs with
   |nil=>simp at l
   |cons u us =>
    refine⟨u,us,rfl,f 0 x u (by simp) (by simp),?_⟩
    rw[Dk]
    exact⟨by simpa using l,fun j y v d e=>f (j+1) y v (by simpa using d) (by simpa using e)⟩
def bT{t:TypeId}{c:LA}{k:AV->O R}{rd:Nat->Option Value}(e:rS P t c k=some r)
  (s:∀ j x,c[j]?=some x->∃ u,rd j=some u/\Rep J β h w x u) :
  ∃ v,k v=some r/\rZ P J β h w t rd v:=by
 unfold rS at e
 have agg:∀{d:TypeDesc},P.underlying t=some d->d.isRow=true->((C8 P t).bind fun n=>cond (ble n c.length) (k (.agg (c.take n))) none)=some r ->
   ∃ v,k v=some r/\rZ P J β h w t rd v:=by
  intro d f z e
  obtain⟨n,hn,e⟩:=ub e
  obtain⟨y,e⟩:=uc e
  have q:n<=c.length:=by simpa using y
  refine⟨_,e,.inr ⟨d,f,z,(c.take n).zipIdx.map fun p=>(rd p.2).getD undef,?_,fun j u m=>?_,?_⟩⟩
  ·simp;rw[A6g q];exact Option.map_eq_some_iff.1 hn
  ·rw[A7c,A9q]at m
   cases hx:(c.take n)[j]? with
   |none=>rw[hx]at m;simp at m
   | some x =>
    rw[hx]at m
    rw[A7f]at hx
    split at hx
    ·obtain⟨A,l,_⟩:=s j x hx
     simp[l]at m
     rw[l,m]
    ·simp at hx
  ·rw[Rep]
   refine⟨_,rfl,Dk.2 ⟨by simp,fun j x u hx f=>?_⟩⟩
   simp[hx]at f
   rw[A7f]at hx
   split at hx
   ·obtain⟨A,l,hr⟩:=s j x hx
    simp[l]at f;subst f;exact hr
   ·simp at hx
 split at e
 ·rename_i f;exact agg f rfl e
 ·rename_i f;exact agg f rfl e
 ·rename_i d _ _ f
  obtain⟨x,hx,e⟩:=ub e
  obtain⟨u,C,D⟩:=s 0 x (by rw[<-A57];exact hx)
  refine⟨x,e,.inl ⟨d,f,?_,u,C,D⟩⟩
  cases d<;>simp_all
 ·simp at e
def Abc{n:Nat}{k:AV->O R}:∀{c:LA}{i:Nat},U' n k c i=some r->i<=n/\∃ x,c[n - i]?=some x/\k x=some r
|[],i,d=>by simp[U']at d
| v::c,i,d=>by
  rw[U']at d
  cases e:beq n i with
  |true =>
   rw[e]at d
   have:n=i:=A5p e
   subst this
   exact⟨A49 _,v,by simp,d⟩
  |false =>
   rw[e]at d
   obtain⟨l,x,f,j⟩:=Abc (c:=c) d
   refine⟨by omega,x,?_,j⟩
   rw[show n - i=(n - (i+1))+1 by omega];simpa using f
def lp{t:TypeId}{c:LA}{off:Nat}{k:AV->O R}(e:bJ P t c off k=some r):rS P t (c.drop off) k=some r:=by
 unfold bJ at e
 unfold rS
 split at e
 ·exact e
 ·exact e
 ·rename_i d m n q
  obtain⟨_,x,f,j⟩:=Abc e
  have l:(c.drop off).head?=some x:=by rw[A57,A67];simpa using f
  rw[l];exact j
 ·simp at e
def f_{t:TypeId}{d:TypeDesc}(e:P.underlying t=some d):(isAgg t).run P w=.ok d.isRow w:=by
 unfold isAgg
 rw[Sem.run_bind,run_underlying e w]
 cases d<;>simp
def jF{t:TypeId}{a:Addr}{v:AV}(hr:rZ P J β h w t (fun j=>w.cell? (a.add j)) v):∃ vc,(loadVar t a).run P w=.ok vc w/\Rep J β h w v vc:=by
 rcases hr with⟨d,f,k,u,e,l⟩|⟨d,f,k,us,e,l,n⟩
 ·refine⟨u,?_,l⟩
  have m:w.cell? a=some u:=by simpa[Addr.add]using e
  simp[loadVar,f_ f,k,m]
 ·refine⟨_,?_,n⟩
  have q:=run_loadCells_list (P:=P) w a us l
  cases hq:P.info? t with
  |none=>simp[hq]at e
  |some i =>
   have hs:i.size=us.length:=by simpa[hq]using e
   simp[loadVar,Sem.run_bind,f_ f,k,Go.sizeOf,typeInfo,hq,hs,q]
def CF{t:TypeId}{cs:List Value}{off:Nat}{v:AV}(hr:rZ P J β h w t (fun j=>cs[off+j]?) v):∃ vc,(part t ⟨cs⟩ off).run P w=.ok vc w/\Rep J β h w v vc:=by
 rcases hr with⟨d,f,k,u,e,l⟩|⟨d,f,k,us,e,l,n⟩
 ·refine⟨u,?_,l⟩
  simp at e
  simp[part,f_ f,k,e]
 ·refine⟨_,?_,n⟩
  cases hq:P.info? t with
  |none=>simp[hq]at e
  | some i =>
   have hs:i.size=us.length:=by simpa[hq]using e
   have:(⟨cs⟩:Array Value).extract off (off+us.length)=us.toArray:=by
    apply A7v
    simp
    apply List.ext_getElem?
    intro j
    rw[A7f,A67]
    split
    ·rename_i m
     rw[A46 m]
     exact l j _ (A46 m)
    ·rename_i m
     rw[A6x (by omega)]
   simp only[part,Sem.run_bind,f_ f,k,Go.sizeOf,typeInfo,run_program,Result.andThen_ok,hq,Sem.run_pure,hs,if_true,this]
end
end Gx
namespace Gx
open Go
section
variable{R:Type}{r:R}{P:Program}{J:Bool->Nat->Prop}{β:Dl}{h:A8}{w:World}{g:Cg}
def DZ{k:Nat}{cs:Array Value}{ty:TypeId}{fr:Nat×Nat}(d:w.heap[k]?=some (.cells cs ty fr))(i:Nat):w.cell? ⟨k,i,none⟩=cs[i]?:=by simp[World.cell?,d]
def Looks(g:Cg)(h:A8):Prop:=∀ b x,g b=some x->Aq h b=some x
def Qp{b:Nat}{x:Blk}(e:Looks g h)(d:Ms g b=some x):Aq h b=some x/\x.dead=false:=by
 unfold Ms at d
 obtain⟨y,f,d⟩:=ub d
 obtain⟨j,d⟩:=Alu d
 simp at d;subst d
 exact⟨e b _ f,j⟩
def Adm{b off:Nat}{x:Blk}{v:Value}(S:SimH J β h w)(l:Aq h b=some x)(m:x.dead=false)(hr:Rep J β h w (.optr b off) v):
  ∃ k o cs ty fr,β b=some (k,o)/\v=.pointer (some ⟨k,o+off,none⟩)/\w.heap[k]?=some (.cells cs ty fr) /\
  FrTy x.ty ty o cs.size fr/\o+x.cells.length<=cs.size/\CellsRep J β h w x (fun j=>cs[o+j]?) /\
  (x.sealed=false->∀ g,¬ J g k)/\(x.sealed=true->J x.taint k):=by
 rw[Rep]at hr
 obtain⟨y,k,o,⟨e,n⟩,q,hr⟩:=hr
 rw[l]at e;simp at e;subst e
 rcases hr with hr|f
 ·simp[m]at hr
 ·rcases S.blk b x l m n with⟨hn,_⟩|⟨D,o',cs,ty,fr,d,s,t,u,z,A,C⟩
  ·rw[f]at hn;simp at hn
  ·rw[f]at d;simp at d;obtain⟨rfl,rfl⟩:=d
   exact⟨k,o,cs,ty,fr,f,q,s,t,u,z,A,C⟩
def CellsRep.reads{t:TypeId}{x:Blk}{cs:Array Value}{o off:Nat}{k:AV->O R}(m:CellsRep J β h w x (fun j=>cs[o+j]?))
  (d:cond x.pure (bI P t (x.cells.drop off) x.taint k) (bJ P t x.cells off k)=some r) :
  ∃ v,k v=some r/\rZ P J β h w t (fun j=>cs[o+off+j]?) v:=by
 cases e:x.pure with
|true =>
  rw[e]at d
  have:=(m.1 e).drop off
  obtain⟨v,f,l⟩:=DY (β:=β) (h:=h) d this
  exact⟨v,f,by simpa[A6l]using l⟩
| false =>
  rw[e]at d
  obtain⟨v,f,l⟩:=bT (J:=J) (β:=β) (h:=h) (w:=w) (rd:=fun j=>cs[o+(off+j)]?) (lp d) (fun j y n=>by
   rw[A67]at n
   obtain⟨u,q,hr,_⟩:=m.2 e _ _ n
   exact⟨u,q,hr⟩)
  exact⟨v,f,by simpa[A6l]using l⟩
def r5{t:TypeId}{p:AV}{vp:Value}{k:AV->O R}(S:SimH J β h w)(u:Looks g h)(d:vF P g t p k=some r)(e:Rep J β h w p vp):
  ∃ v vc,k v=some r/\(Instr.loadAt t vp).run P w=.ok vc w/\Rep J β h w v vc:=by
 unfold vF at d
 split at d
 ·rename_i c org
  rw[Rep,RepC]at e
  obtain⟨a,rfl,_,f⟩:=e
  obtain⟨v,l,m⟩:=DY (β:=β) (h:=h) d f
  obtain⟨vc,n,q⟩:=jF m
  exact⟨v,vc,l,by simp[Instr.loadAt,Instr.sureAddr,n],q⟩
 ·rename_i b off
  obtain⟨x,hx,d⟩:=ub d
  obtain⟨y,z⟩:=Qp u hx
  obtain⟨kk,o,cs,ty,fr,C,rfl,A,_,_,f,_⟩:=Adm S y z e
  obtain⟨v,l,m⟩:=f.reads d
  have s:rZ P J β h w t (fun j=>w.cell? ((⟨kk,o+off,none⟩:Addr).add j)) v:=by
   simpa only[Addr.add_mid,DZ A]using m
  obtain⟨vc,n,q⟩:=jF s
  exact⟨v,vc,l,by simp[Instr.loadAt,Instr.sureAddr,n],q⟩
 ·simp at d
def F0{t:TypeId}{n:Nat}(hs:C8 P t=some n)(w:World):(Go.sizeOf t).run P w=.ok n w:=by
 unfold C8 at hs
 cases hq:P.info? t with
|none=>simp[hq]at hs
|some i=>simp[hq]at hs;simp[Go.sizeOf,typeInfo,hq,hs]
def AR{i:Int}{n:Nat}(hi:Ac i n=true):0<=i/\i<(n:Int):=by simpa[Ac]using hi
def lq{J:Nat->Prop}{c:LA}{a:Addr}(d:RepCs J w c (fun j=>w.cell? (a.add j)) 0)(n:Nat):RepCs J w (c.drop n) (fun j=>w.cell? ((a.add n).add j)) 0:=by
 have e:∀ j,(a.add n).add j=a.add (n+j):=fun j=>by
  unfold Addr.add
  by_cases f:n=0<;>by_cases k:j=0<;>simp[f,k,A6l]
 simpa[e]using d.drop n
def Awv{b off n:Nat}{v:Value}(m:Nat)(hr:Rep J β h w (.own b off n) v)(hn:n≠0):
  ∃ k o cap,v=.slice (some ⟨k,o,none⟩) n cap/\Rep J β h w (.optr b (off+m)) (.pointer (some ⟨k,o+m,none⟩)):=by
 rw[Rep]at hr
 obtain⟨x,A,cap,hx,rfl,d,hr⟩:=hr
 rcases hr with hr|⟨k,o,rfl,hr⟩
 ·omega
 ·refine⟨k,o+off,cap,rfl,?_⟩
  rw[Rep];exact⟨x,k,o,hx,by rw[A6l],hr.imp id (·.1)⟩
def jG{t d:TypeId}{kd:IntKind}{i:Int}{len cap sz:Nat}{a:Addr}(e:P.underlying t=some (.slice d))(hs:C8 P d=some sz)(f:Ac i len=true):
  (Instr.indexAt t (.slice (some a) len cap) (.int kd i)).run P w=.ok (.pointer (some (a.add (i.toNat*sz)))) w:=by
 obtain⟨j,k⟩:=AR f
 simp[Instr.indexAt,asIntOf,run_underlying e,j,k,F0 hs]
def jH{t d:TypeId}{kd:IntKind}{i:Int}{len sz:Nat}{a:Addr}(e:P.underlying t=some (.array len d))(hs:C8 P d=some sz)(f:Ac i len=true):
  (Instr.indexAt t (.pointer (some a)) (.int kd i)).run P w=.ok (.pointer (some (a.add (i.toNat*sz)))) w:=by
 obtain⟨j,k⟩:=AR f
 simp[Instr.indexAt,asIntOf,run_underlying e,j,k,F0 hs,Instr.sureAddr]
def pW{t:TypeId}{x i:AV}{vx vi:Value}{k:AV->O R}(e:AP P t x i k=some r)(hx:Rep J β h w x vx)(hi:Rep J β h w i vi):
  ∃ v vc,k v=some r/\(Instr.indexAt t vx vi).run P w=.ok vc w/\Rep J β h w v vc:=by
 unfold AP at e
 split at e
 ·rename_i m c len sz tight org kd i f
  obtain⟨n,hs,j⟩:=ub e
  obtain⟨C,G⟩:=uc j
  obtain⟨d,l⟩:=uc G
  have q:n=sz:=by simp at C;exact C.symm
  subst q
  rw[Rep]at hi;subst hi
  rw[Rep,RepC]at hx
  obtain⟨D,A,cap,rfl,F,_,hA⟩:=hx
  rcases hA with hA|⟨a,rfl,s,u⟩
  ·have:=AR d;omega
  refine⟨_,_,l,jG f hs d,?_⟩
  rw[Rep,RepC]
  exact⟨_,rfl,by rw[Xs];exact s,lq u _⟩
 ·rename_i m b off len kd i f
  obtain⟨sz,hs,j⟩:=ub e
  obtain⟨d,l⟩:=uc j
  rw[Rep]at hi;subst hi
  obtain⟨kk,o,cap,rfl,z⟩:=Awv (i.toNat*sz) hx (by have:=AR d;omega)
  exact⟨_,_,l,jG f hs d,by rw[Addr.add_mid];exact z⟩
 ·rename_i len m c org kd i f
  obtain⟨sz,hs,j⟩:=ub e
  obtain⟨d,l⟩:=uc j
  rw[Rep]at hi;subst hi
  rw[Rep,RepC]at hx
  obtain⟨a,rfl,s,u⟩:=hx
  refine⟨_,_,l,jH f hs d,?_⟩
  rw[Rep,RepC]
  exact⟨_,rfl,by rw[Xs];exact s,lq u _⟩
 ·rename_i len m b off kd i f
  obtain⟨sz,hs,j⟩:=ub e
  obtain⟨d,l⟩:=uc j
  rw[Rep]at hi;subst hi
  rw[Rep]at hx
  obtain⟨y,kk,o,I,rfl,z⟩:=hx
  refine⟨_,_,l,jH f hs d,?_⟩
  rw[Rep,Addr.add_mid]
  exact⟨y,kk,o,I,by rw[A6l],z⟩
 ·simp at e
def lw{t:TypeId}{f:Nat}{p:Nat×TypeId}(d:uu P t f=some p):∃ fs fd,P.underlying t=some (.struct fs)/\fs[f]?=some fd/\fd.offset=p.1/\fd.type=p.2:=by
 unfold uu at d
 split at d
 ·rename_i fs e
  cases hq:fs[f]? with
  |none=>simp[hq]at d
  |some fd=>simp[hq]at d;subst d;exact⟨fs,fd,e,hq,rfl,rfl⟩
 ·simp at d
def pX{t:TypeId}{x:AV}{f:Nat}{vx:Value}{k:AV->O R}(l:AQ P t x f k=some r)(hx:Rep J β h w x vx):
  ∃ v vc,k v=some r/\(Instr.fieldAt t vx f).run P w=.ok vc w/\Rep J β h w v vc:=by
 unfold AQ at l
 obtain⟨p,m,q⟩:=ub l
 obtain⟨n,hn,s⟩:=ub q
 obtain⟨u,d⟩:=Alu s
 obtain⟨fs,fd,z,A,C,D⟩:=lw m
 have j:n≠0:=by intro e;subst e;simp at u
 have run:∀ a:Addr,(Instr.fieldAt t (.pointer (some a)) f).run P w=.ok (.pointer (some (a.add p.1))) w:=fun a=>by
  simp[Instr.fieldAt,run_underlying z,A,Instr.sureAddr,fieldPlace,D,F0 hn,j,C]
 split at d
 ·rw[Rep,RepC]at hx
  obtain⟨a,rfl,F,G⟩:=hx
  refine⟨_,_,d,run a,?_⟩
  rw[Rep,RepC]
  exact⟨_,rfl,by rw[Xs];exact F,lq G _⟩
 ·rw[Rep]at hx
  obtain⟨y,kk,o,I,rfl,L⟩:=hx
  refine⟨_,_,d,run _,?_⟩
  rw[Rep,Addr.add_mid]
  exact⟨y,kk,o,I,by rw[A6l],L⟩
 ·simp at d
def Adn{t:TypeId}{x:AV}{f:Nat}{vx:Value}{k:AV->O R}(u:pH P t x f k=some r)(hx:Rep J β h w x vx):
  ∃ v vc,k v=some r/\(Instr.field t vx f).run P w=.ok vc w/\Rep J β h w v vc:=by
 unfold pH at u
 obtain⟨p,F,e⟩:=ub u
 obtain⟨fs,fd,z,A,C,D⟩:=lw F
 split at e
 ·rename_i c org
  rw[Rep]at hx
  obtain⟨cs,rfl,G,d⟩:=hx
  obtain⟨v,l,m⟩:=DY (β:=β) (h:=h) e (d.drop p.1)
  obtain⟨vc,n,q⟩:=CF m
  exact⟨v,vc,l,by simp[Instr.field,run_underlying z,A,asAgg,D,C,n],q⟩
 ·rename_i c
  rw[Rep]at hx
  obtain⟨cs,rfl,d⟩:=hx
  rw[Dk]at d
  obtain⟨v,l,m⟩:=bT (J:=J) (β:=β) (h:=h) (w:=w) (rd:=fun j=>cs[p.1+j]?) e (fun j y s=>by
   rw[A67]at s
   have:p.1+j<cs.length:=by
    rw[d.1];exact(A5t.1 s).1
   exact⟨cs[p.1+j],A46 this,d.2 _ _ _ s (A46 this)⟩)
  obtain⟨vc,n,q⟩:=CF m
  exact⟨v,vc,l,by simp[Instr.field,run_underlying z,A,asAgg,D,C,n],q⟩
 ·simp at e
def Ado{t:TypeId}{x i:AV}{vx vi:Value}{k:AV->O R}(d:pI P t x i k=some r)(hx:Rep J β h w x vx)(hi:Rep J β h w i vi):
  ∃ v vc,k v=some r/\(Instr.index t vx vi).run P w=.ok vc w/\Rep J β h w v vc:=by
 unfold pI at d
 split at d
 ·rename_i s kd i e
  obtain⟨f,l⟩:=uc d
  obtain⟨m,u⟩:=AR f
  rw[Rep]at hi;rw[Rep]at hx;subst hi hx
  have n:i.toNat<s.length:=by omega
  refine⟨_,.int .u8 ((s.getD i.toNat 0).toNat:Int),l,?_,by rw[Rep]⟩
  have I:(⟨⟨s⟩⟩:ByteArray)[i.toNat]?=some s[i.toNat]:=by
   have:i.toNat<(⟨⟨s⟩⟩:ByteArray).size:=n
   rw[getElem?_pos (⟨⟨s⟩⟩:ByteArray) i.toNat this];rfl
  simp only[Instr.index,asIntOf,Sem.run_bind,Sem.run_pure,Result.andThen_ok,run_underlying e,m,if_true,I,A5f,A46 n,Option.getD_some]
 ·rename_i len L c org kd i e
  obtain⟨sz,hs,l⟩:=ub d
  obtain⟨f,u⟩:=uc l
  obtain⟨m,z⟩:=AR f
  rw[Rep]at hi;rw[Rep]at hx;subst hi
  obtain⟨cs,rfl,M,q⟩:=hx
  obtain⟨v,A,C⟩:=DY (β:=β) (h:=h) u (q.drop (i.toNat*sz))
  obtain⟨vc,D,F⟩:=CF C
  exact⟨v,vc,A,by simp[Instr.index,asIntOf,run_underlying e,m,z,F0 hs,D],F⟩
 ·rename_i len L c kd i e
  obtain⟨sz,hs,l⟩:=ub d
  obtain⟨f,u⟩:=uc l
  obtain⟨m,z⟩:=AR f
  rw[Rep]at hi;rw[Rep]at hx;subst hi
  obtain⟨cs,rfl,q⟩:=hx
  rw[Dk]at q
  obtain⟨v,A,C⟩:=bT (J:=J) (β:=β) (h:=h) (w:=w) (rd:=fun j=>cs[i.toNat*sz+j]?) (lp u) (fun j y G=>by
   rw[A67]at G
   have:i.toNat*sz+j<cs.length:=by
    rw[q.1];exact(A5t.1 G).1
   exact⟨cs[i.toNat*sz+j],A46 this,q.2 _ _ _ G (A46 this)⟩)
  obtain⟨vc,D,F⟩:=CF C
  exact⟨v,vc,A,by simp[Instr.index,asIntOf,run_underlying e,m,z,F0 hs,D],F⟩
 ·simp at d
def FZ(J:Bool->Nat->Prop)(β:Dl)(h:A8)(w:World):Option AV->Option Value->Prop
|none,none=>True
|some x,some v=>Rep J β h w x v
|_,_=>False
def bU{o:Option AV}{vo:Option Value}{d:Nat}{i:Int}(e:ld o d=some i)(f:FZ J β h w o vo):
  (o=none/\vo=none/\i=d)\/∃ k,vo=some (.int k i):=by
 unfold ld at e
 split at e
 ·simp at e;subst e
  cases vo with
  |none=>exact .inl ⟨rfl,rfl,rfl⟩
  |some v=>simp[FZ]at f
 ·rename_i k j
  simp at e;subst e
  cases vo with
  |none=>simp[FZ]at f
  |some v=>rw[FZ,Rep]at f;subst f;exact .inr ⟨k,rfl⟩
 ·simp at e
def CG{lo hi mx:Option AV}{vlo vhi vmx:Option Value}{n cap:Nat}{k:Nat->Nat->O R}{isSlice:Bool}(u:H_ lo hi mx n k=some r)
  (s:FZ J β h w lo vlo)
  (f:FZ J β h w hi vhi)
  (j:FZ J β h w mx vmx) (v:n<=cap) :
  ∃ l e m,k l e=some r/\l<=e/\e<=n/\e<=m/\m<=cap/\(mx=none->m=cap)/\(∀ kd i,vmx=some (.int kd i)->(m:Int)=i)/\(∀ kd i,vhi=some (.int kd i)->(e:Int)=i)/\(hi=none->e=n) /\
   (Instr.sliceBounds isSlice n cap vlo vhi vmx).run P w=.ok (l,e,m) w:=by
 unfold H_ at u
 obtain⟨l,C,D⟩:=ub u
 obtain⟨d,F,G⟩:=ub D
 obtain⟨m,I,t⟩:=ub G
 obtain⟨x,t⟩:=Alu t
 obtain⟨z,A⟩:=uc t
 simp at z x
 obtain⟨c1,L,M,S⟩:=z
 have run:∀(kd:IntKind)(i:Int)(y:Nat)(code:BoundsCode),0<=i->i<=(y:Int)->(Instr.sliceBound (.int kd i) y code).run P w=.ok i.toNat w:=fun kd i y code a b=>by
  simp[Instr.sliceBound,asIntOf,a,b]
 have bl:=bU (J:=J) (β:=β) (h:=h) (w:=w) C s
 have bh:=bU (J:=J) (β:=β) (h:=h) (w:=w) F f
 have bm:=bU (J:=J) (β:=β) (h:=h) (w:=w) I j
 rcases bm with⟨rfl,rfl,rfl⟩|⟨km,rfl⟩
 ·refine⟨l.toNat,d.toNat,cap,A,by omega,by omega,by omega,by omega,fun _=>rfl,by simp,?_,?_,?_⟩
  ·intro kd i q
   rcases bh with⟨_,rfl,_⟩|⟨kh,rfl⟩
   ·simp at q
   ·simp at q;omega
  ·intro hn
   rcases bh with⟨_,_,rfl⟩|⟨kh,rfl⟩
   ·simp
   ·subst hn;simp[FZ]at f
  ·rcases bh with⟨_,rfl,rfl⟩|⟨kh,rfl⟩<;>rcases bl with⟨_,rfl,rfl⟩|⟨kl,rfl⟩
   ·simp[Instr.sliceBounds]
   ·simp[Instr.sliceBounds,run _ l n _ c1 (by omega)]
   ·simp[Instr.sliceBounds,run _ d cap _ (by omega) (by omega)]
   ·simp[Instr.sliceBounds,run _ d cap _ (by omega) (by omega),run _ l d.toNat _ c1 (by omega)]
 ·rcases bh with⟨rfl,rfl,rfl⟩|⟨kh,rfl⟩
  ·have:mx.isSome=true:=by
    cases mx with
    |none=>simp[FZ]at j
    |some _=>rfl
   have:=x this;simp at this
  ·refine⟨l.toNat,d.toNat,m.toNat,A,by omega,by omega,by omega,by omega,?_,?_,?_,?_,?_⟩
   ·intro hn;subst hn;simp[FZ]at j
   ·intro kd i q;simp at q;omega
   ·intro kd i q;simp at q;omega
   ·intro hn;subst hn;simp[FZ]at f
   ·rcases bl with⟨_,rfl,rfl⟩|⟨kl,rfl⟩
    ·simp[Instr.sliceBounds,run _ m cap _ (by omega) (by omega),run _ d m.toNat _ (by omega) (by omega)]
    ·simp[Instr.sliceBounds,run _ m cap _ (by omega) (by omega),run _ d m.toNat _ (by omega) (by omega),run _ l d.toNat _ c1 (by omega)]
def Adp {t:TypeId} {x:AV} {lo hi mx:Option AV} {vx:Value} {vlo vhi vmx:Option Value} {k:AV->O R} (S:SimH J β h w) (hl:Looks g h) (z:pJ P g t x lo hi mx k=some r)
  (hx:Rep J β h w x vx) (C:FZ J β h w lo vlo) (e:FZ J β h w hi vhi) (j:FZ J β h w mx vmx) :
  ∃ v vc,k v=some r/\(Instr.sliceAt t vx vlo vhi vmx).run P w=.ok vc w/\Rep J β h w v vc:=by
 unfold pJ at z
 split at z
 ·rename_i s D
  obtain⟨hm,M⟩:=Alu z
  have hmn:mx=none:=by cases mx<;>simp_all
  subst hmn
  have hv:vmx=none:=by cases vmx<;>simp_all[FZ]
  subst hv
  rw[Rep]at hx;subst hx
  obtain⟨l,d,m,F,T,h4,_,_,h5,_,_,_,h6⟩:=CG (P:=P) (isSlice:=false) M C e (vmx:=none) (by simp[FZ]) (A49 _)
  refine⟨_,_,F,?_,by rw[Rep]⟩
  have hs:(⟨⟨s⟩⟩:ByteArray).size=s.length:=rfl
  have G:(⟨⟨s⟩⟩:ByteArray).extract l d=⟨⟨(s.drop l).take (d - l)⟩⟩:=by
   apply ByteArray.ext
   rw[ByteArray.data_extract]
   simp
  simp[Instr.sliceAt,Instr.slice,run_underlying D,hs,h6,G]
 ·rename_i el D
  rw[Rep]at hx;subst hx
  obtain⟨sz,hs,z⟩:=ub z
  obtain⟨l,d,m,F,T,h4,h5,h6,_,_,_,_,h7⟩:=CG (P:=P) (isSlice:=true) z C e j (A49 _)
  have:l=0:=by omega
  have:d=0:=by omega
  have:m=0:=by omega
  subst l;subst d;subst m
  refine⟨_,.slice none 0 0,F,?_,by rw[Rep]⟩
  simp[Instr.sliceAt,Instr.slice,run_underlying D,h7,F0 hs]
 ·rename_i el c n sz tight org D
  obtain⟨U,hs,M⟩:=ub z
  obtain⟨G,F⟩:=uc M
  have I:U=sz:=by simp at G;exact G.symm
  subst I
  rw[Rep,RepC]at hx
  obtain⟨Y,A,cap,rfl,q,ht,hA⟩:=hx
  obtain⟨l,d,m,T,h4,h5,h6,h7,h8,h9,h10,h11,h12⟩:=CG (P:=P) (isSlice:=true) F C e j q
  refine⟨_,.slice (if m=l then A else A.map (·.add (l*U))) (d - l) (m - l),T,?_,?_⟩
  ·simp[Instr.sliceAt,Instr.slice,run_underlying D,h12,F0 hs]
  ·rw[Rep,RepC]
   refine⟨?_,_,_,rfl,by omega,?_,?_⟩
   ·simp;rw[Y,<-Nat.sub_mul]
    exact A6g (A5y _ (by omega))
   ·intro u
    unfold Ao4 at u
    split at u
    ·have:=ht u
     have:=h8 rfl
     have:=h11 rfl
     omega
    ·rename_i ka a kb b
     cases vhi with
     |none=>simp[FZ]at e
     | some u1=>cases vmx with
      |none=>simp[FZ]at j
      |some u2 =>
       rw[FZ,Rep]at e j;subst e j
       have e1:=h10 _ _ rfl
       have e2:=h9 _ _ rfl
       simp at u
       omega
    ·simp at u
   ·by_cases hz:d - l=0
    ·exact .inl hz
    ·right
     rcases hA with hA|⟨a,rfl,hj,hc⟩
     ·omega
     ·refine⟨a.add (l*U),by rw[if_neg (by omega)];rfl,by rw[Xs];exact hj,(lq hc _).take _⟩
 ·rename_i el b off n D
  obtain⟨sz,hs,M⟩:=ub z
  obtain⟨y,hy,F⟩:=ub M
  obtain⟨G,T⟩:=uc F
  obtain⟨X,hd⟩:=Qp hl hy
  have I:sz=y.sz:=by simpa using G
  rw[Rep]at hx
  obtain⟨x,A,cap,⟨f,L⟩,rfl,q,hr⟩:=hx
  rw[X]at f;simp at f;subst f
  obtain⟨l,d,m,h4,h5,h6,h7,h8,_,_,_,_,h9⟩:=CG (P:=P) (isSlice:=true) T C e j q
  refine⟨_,.slice (if m=l then A else A.map (·.add (l*sz))) (d - l) (m - l),h4,?_,?_⟩
  ·simp[Instr.sliceAt,Instr.slice,run_underlying D,h9,F0 hs]
  ·rw[Rep]
   refine⟨y,_,_,⟨X,L⟩,rfl,by omega,?_⟩
   by_cases hz:m - l=0
   ·exact .inl hz
   ·right
    rcases hr with hr|⟨kk,o,rfl,hr⟩
    ·omega
    ·refine⟨kk,o,by rw[if_neg (by omega)];simp[Addr.add_mid,A6l],?_⟩
     rcases hr with hr|⟨r1,r2,r3⟩
     ·simp[hd]at hr
     ·refine .inr ⟨r1,?_,?_⟩
      ·have:l*sz+(m - l)*y.sz<=cap*y.sz:=by
        rw[I,<-A62];exact A5y _ (by omega)
       omega
      ·have:l*sz+(d - l)*y.sz<=n*y.sz:=by
        rw[I,<-A62];exact A5y _ (by omega)
       omega
 ·rename_i n el b off D
  obtain⟨sz,hs,M⟩:=ub z
  obtain⟨y,hy,F⟩:=ub M
  obtain⟨G,T⟩:=uc F
  simp at G
  obtain⟨e1,e2,e3,e4,e5⟩:=G
  subst e3;subst e4;subst e5
  obtain⟨X,hd⟩:=Qp hl hy
  have nlo:vlo=none:=by cases vlo<;>simp_all[FZ]
  have nhi:vhi=none:=by cases vhi<;>simp_all[FZ]
  have nmx:vmx=none:=by cases vmx<;>simp_all[FZ]
  subst nlo;subst nhi;subst nmx
  rw[Rep]at hx
  obtain⟨x,kk,o,⟨f,L⟩,rfl,hr⟩:=hx
  rw[X]at f;simp at f;subst f
  refine⟨_,.slice (some ⟨kk,o+off,none⟩) n n,T,?_,?_⟩
  ·have e1:(Addr.add ⟨kk,o+off,none⟩ 0)=⟨kk,o+off,none⟩:=rfl
   simp[Instr.sliceAt,Instr.sureAddr,run_underlying D,Instr.sliceBounds,F0 hs,e1]
  ·rw[Rep]
   refine⟨y,_,_,⟨X,L⟩,rfl,A49 _,.inr ⟨kk,o,rfl,?_⟩⟩
   rcases hr with hr|hr
   ·exact .inl hr
   ·rcases S.blk b y X hd L with⟨hn',_⟩|⟨k',o',cs,ty',fr,V,g1,g2,g3,_⟩
    ·rw[hr]at hn';simp at hn'
    ·rw[hr]at V;simp at V;obtain⟨rfl,rfl⟩:=V
     refine .inr ⟨hr,?_,?_⟩
     ·rw[e1,show Bx w kk=cs.size by simp[Bx,g1]];omega
     ·rw[e1];omega
 ·simp at z
def Alv{t:TypeId}{x v:AV}{vx:Value}{ty:TypeId}(d:Ay5 P t x=some v)(hx:Rep J β h w x vx):
  ∃ vc,(Builtin.len_ #[t] ty #[vx]).run P w=.ok vc w/\Rep J β h w v vc:=by
 unfold Ay5 at d
 split at d
 ·rename_i e
  simp at d;subst d;rw[Rep]at hx;subst hx
  exact⟨.int .i64 0,by simp[Builtin.len_,run_underlying e,goInt],by rw[Rep]⟩
 ·rename_i n _ _ _ e
  simp at d;subst d;rw[Rep,RepC]at hx
  obtain⟨_,A,cap,rfl,_⟩:=hx
  exact⟨.int .i64 n,by simp[Builtin.len_,run_underlying e,goInt],by rw[Rep]⟩
 ·rename_i n e
  simp at d;subst d;rw[Rep]at hx
  obtain⟨_,A,cap,_,rfl,_⟩:=hx
  exact⟨.int .i64 n,by simp[Builtin.len_,run_underlying e,goInt],by rw[Rep]⟩
 ·rename_i s e
  simp at d;subst d;rw[Rep]at hx;subst hx
  refine⟨.int .i64 s.length,?_,by rw[Rep]⟩
  have hs:(⟨⟨s⟩⟩:ByteArray).size=s.length:=rfl
  simp[Builtin.len_,run_underlying e,goInt,hs]
 ·rename_i n _ e
  simp at d;subst d
  exact⟨.int .i64 n,by simp[Builtin.len_,run_underlying e,goInt],by rw[Rep]⟩
 ·simp at d
def vN{J:Nat->Prop}:∀{x:AV}{u:Value},RepC J w x u->u.oneCell'=true
|.int ..,_,hr=>by rw[RepC]at hr;subst hr;rfl
|.bool _,_,hr=>by rw[RepC]at hr;subst hr;rfl
|.str _,_,hr=>by rw[RepC]at hr;subst hr;rfl
|.nsl,_,hr=>by rw[RepC]at hr;subst hr;rfl
|.imm ..,_,hr=>by rw[RepC]at hr;obtain⟨_,A,cap,rfl,_⟩:=hr;rfl
|.iptr ..,_,hr=>by rw[RepC]at hr;obtain⟨a,rfl,_⟩:=hr;rfl
|.nilptr,_,hr=>by rw[RepC]at hr;subst hr;rfl
|.nilfn,_,hr=>by rw[RepC]at hr;subst hr;rfl
|.fn _ [],_,hr=>by rw[RepC]at hr;subst hr;rfl
|.fn _ (_::_),_,hr=>by simp[RepC]at hr
|.pagg ..,_,hr=>by simp[RepC]at hr
|.agg _,_,hr=>by simp[RepC]at hr
|.tup _,_,hr=>by simp[RepC]at hr
|.own ..,_,hr=>by simp[RepC]at hr
|.optr ..,_,hr=>by simp[RepC]at hr
|.undef,_,hr=>by simp[RepC]at hr
|.omap _,_,hr=>by simp[RepC]at hr
def RepCs.one{J:Nat->Prop}{c:LA}{us:List Value}(f:RepCs J w c (fun j=>us[j]?) 0)(m:us.length=c.length):∀ u∈us,u.oneCell'=true:=by
 intro u k
 obtain⟨j,l,rfl⟩:=A5q k
 have e:j<c.length:=by omega
 obtain⟨n,d,hr⟩:=f.at (A46 e)
 simp[A46 l]at d
 rw[d];exact vN hr
structure Yield(P:Program)(w:World)(sz:Nat)(vx:Value)(n:Nat)(us:List Value):Prop where
 len:∀ w':World,(Builtin.lenOf vx).run P w'=.ok n w'
 cells:∀(w':World)(m:Nat),(∀ a,w'.cell? a=w.cell? a)->m<=n->(Builtin.firstCells sz m vx).run P w'=.ok (us.take (m*sz)).toArray w'
 length:us.length=n*sz
def r6{sz:Nat}{x:AV}{vx:Value}{q:LA×Nat×Bool}(S:SimH J β h w)(hl:Looks g h)(f:jB g sz x=some q)(hx:Rep J β h w x vx):
  ∃ us:List Value,Yield P w sz vx q.2.1 us/\q.1.length=us.length/\RepCs (J q.2.2) w q.1 (fun j=>us[j]?) 0:=by
 have ofSlice:∀(a:Addr)(n cap:Nat)(us:List Value),us.length=n*sz->(∀ j u,us[j]?=some u->w.cell? (a.add j)=some u)->Yield P w sz (.slice (some a) n cap) n us:=fun a n cap us d hu =>
  ⟨fun _=>rfl,fun w' m e L=>by
   have hle:m*sz<=n*sz:=A5y _ L
   refine run_firstCells_some (P:=P) w' sz m a n cap (us.take (m*sz)) (by simp;omega) (fun j v D=>?_)
   rw[e]
   rw[A7f]at D
   split at D
   ·exact hu j v D
   ·simp at D,d⟩
 have ofEmpty:∀(A:Option Addr)(cap:Nat),Yield P w sz (.slice A 0 cap) 0 []:=fun A cap =>
  ⟨fun _=>rfl,fun w' m e L=>by
   have:m=0:=by omega
   subst this
   cases A with
   |none=>simp[run_firstCells_none]
   | some a=>have:=run_firstCells_some (P:=P) w' sz 0 a 0 cap [] (by simp) (fun j v D=>by simp at D);simpa using this,by simp⟩
 unfold jB at f
 split at f
 ·simp at f;subst f;rw[Rep]at hx;subst hx
  exact⟨[],ofEmpty _ _,rfl,by simp[RepCs]⟩
 ·rename_i c n M tight org
  obtain⟨e,t⟩:=uc f
  have T:M=sz:=by simp at e;exact e.symm
  subst T
  simp at t;subst t
  rw[Rep,RepC]at hx
  obtain⟨d,A,cap,rfl,F,ht,hA⟩:=hx
  rcases hA with rfl|⟨a,rfl,G,hc⟩
  ·have:c=[]:=by simpa using d
   subst this
   exact⟨[],ofEmpty _ _,rfl,by simp[RepCs]⟩
  ·obtain⟨us,l,U,V⟩:=hc.list
   exact⟨us,ofSlice a n cap us (by rw[l,d]) U,l.symm,V⟩
 ·rename_i b off n
  obtain⟨y,hy,t⟩:=ub f
  obtain⟨e,l⟩:=uc t
  obtain⟨I,Y⟩:=Qp hl hy
  simp at e l
  obtain⟨hp,e⟩:=e
  subst l;subst e
  rw[Rep]at hx
  obtain⟨x,A,cap,⟨z,X⟩,rfl,F,hr⟩:=hx
  rw[I]at z;simp at z;subst z
  rcases hr with hr|⟨kk,o,rfl,hr⟩
  ·have:n=0:=by omega
   subst this
   exact⟨[],ofEmpty _ _,by simp,by simp[RepCs]⟩
  ·rcases hr with hr|⟨r1,r2,r3⟩
   ·simp[Y]at hr
   ·rcases S.blk b y I Y X with⟨hn,_⟩|⟨k',o',cs,ty,fr,C,g1,g2,g3,g4,g5,g6⟩
    ·rw[r1]at hn;simp at hn
    ·rw[r1]at C;simp at C;obtain⟨rfl,rfl⟩:=C
     obtain⟨us,l,U,V⟩:=(((g4.1 hp).drop off).take (n*y.sz)).list
     have d:us.length=n*y.sz:=by rw[l];simp;omega
     refine⟨us,ofSlice _ n cap us d (fun j u G=>?_),l.symm,V⟩
     have:=U j u G
     rw[Addr.add_mid,DZ g1,A6l];exact this
 ·rename_i s
  obtain⟨e,t⟩:=uc f
  simp at e t
  subst e;subst t
  rw[Rep]at hx;subst hx
  refine⟨s.map fun b=>.int .u8 (b.toNat:Int),⟨fun _=>rfl,fun w' m _ L=>?_,by simp⟩,by simp,?_⟩
  ·simp[Builtin.firstCells]
  ·rw[C9]
   intro j x G
   simp at G
   obtain⟨b,I,rfl⟩:=G
   exact⟨_,by simp[I];rfl,by rw[RepC]⟩
 ·simp at f
def VG{l:TypeId}{sz:Nat}{x:AV}{vx:Value}{k:LA×Nat×Bool->O R}(S:SimH J β h w)(m:Looks g h)(f:jv P l g sz x k=some r)(hx:Rep J β h w x vx):
  ∃(q:LA×Nat×Bool)(us:List Value),k q=some r/\Yield P w sz vx q.2.1 us/\q.1.length=us.length/\RepCs (J q.2.2) w q.1 (fun j=>us[j]?) 0:=by
 unfold jv at f
 obtain⟨q,hq,n⟩:=ub f
 obtain⟨us,Y,d,e⟩:=r6 (P:=P) S m hq hx
 obtain⟨o,s,t⟩:=jE n e
 exact⟨_,us,s,Y,d,t⟩
end
end Gx
namespace Gx
open Go
def bV{a b:Nat}(h:a≠b):beq a b=false:=by
 cases d:beq a b with
|false=>rfl
|true=>exact absurd (A5p d) h
def GR{a b:Nat}(h:beq a b=false):a≠b:=fun e=>by subst e;rw[Nat.beq_refl]at h;cases h
def Ai:∀(h:A8)(b:Nat)(y:Blk)(c:Nat),Aq (Ja h b y) c=if c=b then some y else Aq h c
| [],b,y,c=>by
  by_cases e:c=b
  ·subst e;simp[Ja,Aq]
  ·have:beq b c=false:=bV (fun f=>e f.symm)
   simp[Ja,Aq,e,this]
| (i,x)::r,b,y,c=>by
  rw[Ja]
  cases k:beq i b with
  | true =>
   have d:i=b:=by simpa using k
   subst d
   by_cases e:c=i
   ·subst e;simp[Aq]
   ·have:beq i c=false:=bV (fun f=>e f.symm)
    simp[Aq,e,this]
  | false =>
   have d:i≠b:=GR k
   cases m:Nat.blt b i with
   | true =>
    by_cases e:c=b
    ·subst e;simp[Aq]
    ·have:beq b c=false:=bV (fun f=>e f.symm)
     simp[Aq,e,this]
   | false =>
    simp only[cond_false]
    rw[Aq]
    cases l:beq i c with
    |true =>
     have j:i=c:=by simpa using l
     subst j
     simp[Aq,d]
    |false=>simp[Aq,l,Ai r b y c]
def T7:∀(h:J5)(b:Nat)(y:AV)(c:Nat),Jb (ju h b y) c=if c=b then y else Jb h c
| [],b,y,c=>by
  by_cases e:c=b
  ·subst e;simp[ju,Jb]
  ·have:beq b c=false:=bV (fun f=>e f.symm)
   simp[ju,Jb,e,this]
| (i,x)::r,b,y,c=>by
  rw[ju]
  cases k:beq i b with
  | true =>
   have d:i=b:=by simpa using k
   subst d
   by_cases e:c=i
   ·subst e;simp[Jb]
   ·have:beq i c=false:=bV (fun f=>e f.symm)
    simp[Jb,e,this]
  | false =>
   have d:i≠b:=GR k
   cases m:Nat.blt b i with
   | true =>
    by_cases e:c=b
    ·subst e;simp[Jb]
    ·have:beq b c=false:=bV (fun f=>e f.symm)
     simp[Jb,e,this]
   | false =>
    simp only[cond_false]
    rw[Jb]
    cases l:beq i c with
    |true =>
     have j:i=c:=by simpa using l
     subst j
     simp[Jb,d]
    |false=>simp[Jb,l,T7 r b y c]
def Ahb(β:Dl)(h:A8)(k:Nat):Prop:=∃ b x o,Aq h b=some x/\x.dead=false/\x.sealed=false/\β b=some (k,o)
structure Step(J:Bool->Nat->Prop)(β:Dl)(h:A8)(w:World)(J':Bool->Nat->Prop)(β':Dl)(h':A8)(w':World):Prop where
 ext:Ext J β h w J' β' h' w'
 sim:SimH J' β' h' w'
 os:w'.os=w.os
 tape:w'.tape=w.tape
 output:w'.output=w.output
 size:w.heap.size<=w'.heap.size
 frame:∀ k,k<w.heap.size->¬ Ahb β h k->w'.heap[k]?=w.heap[k]?
 wr:∀ k,Ahb β' h' k->k<w.heap.size->Ahb β h k
 jup:∀ o k,J' o k->J o k\/Ahb β h k\/w.heap.size<=k
section
variable{J J' J'':Bool->Nat->Prop}{β β' β'':Dl}{h h' h'':A8}{w w' w'':World}
def Ext.refl:Ext J β h w J β h w:=⟨fun _ _ d=>d,fun _ _ _=>rfl,fun b x e=>⟨x,⟨e,rfl⟩,by cases f:x.dead<;>simp⟩,fun _ _ _ _=>A49 _⟩
def Ext.trans(A:Ext J β h w J' β' h' w')(B:Ext J' β' h' w' J'' β'' h'' w'')(hs:∀ b k o,β b=some (k,o)->Bx w k<=Bx w'' k):Ext J β h w J'' β'' h'' w'' where
 jsub o k e:=B.jsub o k (A.jsub o k e)
 keep o k e:=(B.keep o k (A.jsub o k e)).trans (A.keep o k e)
 blk b x l:=by
  obtain⟨x',⟨m,m1⟩,f⟩:=A.blk b x l
  obtain⟨x'',⟨n,m3⟩,d⟩:=B.blk b x' m
  refine⟨x'',⟨n,m3.trans m1⟩,?_⟩
  rcases d with d|⟨d,q,s,t⟩
  ·exact .inl d
  ·rcases f with f|⟨u,v,y,z⟩
   ·simp[d]at f
   ·exact .inr ⟨u,q.trans v,s.trans y,fun j=>(t (m1.trans j)).trans (z j)⟩
 size:=hs
def Step.refl(S:SimH J β h w):Step J β h w J β h w:=⟨Ext.refl,S,rfl,rfl,rfl,A49 _,fun _ _ _=>rfl,fun _ d _=>d,fun _ _ e=>.inl e⟩
def Step.trans(A:Step J β h w J' β' h' w')(B:Step J' β' h' w' J'' β'' h'' w'')(hs:∀ b k o,β b=some (k,o)->Bx w k<=Bx w'' k):Step J β h w J'' β'' h'' w'' where
 ext:=A.ext.trans B.ext hs
 sim:=B.sim
 os:=B.os.trans A.os
 tape:=B.tape.trans A.tape
 output:=B.output.trans A.output
 size:=A6k A.size B.size
 frame k d f:=(B.frame k (A68 d A.size) (fun j=>f (A.wr k j d))).trans (A.frame k d f)
 wr k f d:=A.wr k (B.wr k f (A68 d A.size)) d
 jup o k l:=by
  rcases B.jup o k l with e|e|e
  ·exact A.jup o k e
  ·by_cases d:k<w.heap.size
   ·exact .inr (.inl (A.wr k e d))
   ·exact .inr (.inr (by omega))
  ·exact .inr (.inr (A6k A.size e))
def CellsRep.ext(E:Ext J β h w J' β' h' w'){x:Blk}{rd:Nat->Option Value}(e:CellsRep J β h w x rd):CellsRep J' β' h' w' x rd :=
 ⟨fun d=>RepCs.keep (E.jsub _) (E.keep _) (fun _=>rfl) (e.1 d),fun d j c f=>by
  obtain⟨u,k,l,m⟩:=e.2 d j c f
  exact⟨u,k,Rep.ext E l,m⟩⟩
def J7{k:Nat}{cs:Array Value}{ty:TypeId}{fr:Nat×Nat}(d:w.heap[k]?=some (.cells cs ty fr)):Bx w k=cs.size:=by simp[Bx,d]
def fa{k:Nat}{o:Obj}(f:w.heap[k]?=some o):k<w.heap.size:=by
 rcases A8t k w.heap.size with d|e
 ·exact d
 ·rw[A66 e]at f;cases f
def MapRep.keep{b:Nat}{x:Blk}(M:MapRep J β w b x)(e:β' b=β b)(f:∀ k o,β b=some (k,o)->w'.heap[k]?=w.heap[k]?)(j:∀ g k o,β b=some (k,o)->J' g k->J g k):MapRep J' β' w' b x:=by
 obtain⟨l,m,k,ob,d,n,q,s⟩:=M
 exact⟨l,m,k,ob,by rw[e];exact d,by rw[f k 0 d];exact n,q,fun g t=>s g (j g k 0 d t)⟩
def Step.drew(S:SimH J β h w):Step J β h w J β h w.drew where
 ext:=⟨fun _ _ d=>d,fun _ _ _=>rfl,fun b x e=>⟨x,⟨e,rfl⟩,by cases f:x.dead<;>simp⟩,fun _ _ _ _=>A49 _⟩
 sim:=by
  have E:Ext J β h w J β h w.drew:=⟨fun _ _ d=>d,fun _ _ _=>rfl,fun b x e=>⟨x,⟨e,rfl⟩,by cases f:x.dead<;>simp⟩,fun _ _ _ _=>A49 _⟩
  refine⟨S.jlt,S.jft,S.gl.ext E,fun b x e f j=>?_,fun b x e f j=>(S.mblk b x e f j).keep rfl (fun _ _ _=>rfl) (fun _ _ _ _ d=>d),S.sep⟩
  rcases S.blk b x e f j with l|⟨k,o,cs,ty,fr,l,m,n,q,s,t⟩
  ·exact .inl l
  ·exact .inr ⟨k,o,cs,ty,fr,l,m,n,q,s.ext E,t⟩
 os:=rfl
 tape:=rfl
 output:=rfl
 size:=A49 _
 frame _ _ _:=rfl
 wr _ j _:=j
 jup _ _ d:=.inl d
def Fh(w:World)(o:Obj){k:Nat}(d:k<w.heap.size):(w.alloc o).heap[k]?=w.heap[k]?:=by
 show(w.heap.push o)[k]?=_
 rw[Array.getElem?_push,if_neg (by omega)]
def F_(S:SimH J β h w){b:Nat}{x:Blk}{k o:Nat}(j:Aq h b=some x)(l:x.dead=false)(e:β b=some (k,o)):k<w.heap.size:=by
 cases m:x.mp with
|false =>
  rcases S.blk b x j l m with⟨hn,_⟩|⟨n,o',cs,ty,fr,d,f,_⟩
  ·rw[e]at hn;simp at hn
  ·rw[e]at d;simp at d;obtain⟨rfl,rfl⟩:=d;exact fa f
|true =>
  obtain⟨_,_,n,ob,d,f,_⟩:=S.mblk b x j l m
  rw[e]at d;simp at d;obtain⟨rfl,_⟩:=d;exact fa f
def Step.new(S:SimH J β h w){d:Nat}{x:Blk}{cs:Array Value}{ty:TypeId}{fr:Nat×Nat}(hn:Aq h d=none)(X:x.dead=false)(D:x.sealed=false)
  (F:FrTy x.ty ty 0 cs.size fr) (T:x.cells.length<=cs.size) (Y:CellsRep J β h w x (fun j=>cs[j]?)) (G:x.mp=false:=by rfl) :
  Step J β h w J (fun b=>if b=d then some (w.heap.size,0)else β b) (Ja h d x) (w.alloc (.cells cs ty fr)):=by
 have ne:∀{b y},Aq h b=some y->b≠d:=fun f e=>by subst e;rw[hn]at f;cases f
 have E:Ext J β h w J (fun b=>if b=d then some (w.heap.size,0)else β b) (Ja h d x) (w.alloc (.cells cs ty fr)):=by
  refine⟨fun _ _ m=>m,fun o k m=>Fh w _ (S.jlt o k m),fun b y f=>⟨y,⟨by rw[Ai,if_neg (ne f)];exact f,rfl⟩,?_⟩,fun b k o l=>?_⟩
  ·cases s:y.dead
   ·exact .inr ⟨rfl,by simp[ne f],rfl,fun _=>rfl⟩
   ·exact .inl rfl
  ·by_cases u:k<w.heap.size
   ·simp[Bx,Fh w _ u]
   ·simp[Bx,A66 (A8b u)]
 have v:(w.alloc (.cells cs ty fr)).heap[w.heap.size]?=some (.cells cs ty fr):=by
  show(w.heap.push _)[_]?=_;simp
 have hsz:(w.alloc (.cells cs ty fr)).heap.size=w.heap.size+1:=by show(w.heap.push _).size=_;simp
 refine⟨E,⟨fun o k m=>by have:=S.jlt o k m;omega,S.jft,S.gl.ext E,fun b y f s A=>?_,fun b y f s A=>by
   rw[Ai]at f
   by_cases e:b=d
   ·rw[if_pos e]at f;simp at f;subst f;simp[G]at A
   ·rw[if_neg e]at f
    exact(S.mblk b y f s A).keep (by simp[e]) (fun k o l=>Fh w _ (F_ S f s l)) (fun _ _ _ _ m=>m),?_⟩,rfl,rfl,rfl,by omega,fun k u _=>Fh w _ u,?_,fun _ _ m=>.inl m⟩
 ·rw[Ai]at f
  by_cases e:b=d
  ·subst e;simp at f;subst f
   exact .inr ⟨w.heap.size,0,cs,ty,fr,by simp,v,F,by omega,by simpa using Y.ext E,fun _ g m=>by have:=S.jlt g _ m;omega,fun hs=>by simp[D]at hs⟩
  ·rw[if_neg e]at f
   rcases S.blk b y f s A with C|⟨k,o,I,L,M,C,U,h3,h4,h5,h6⟩
   ·exact .inl ⟨by simp[e,C.1],C.2⟩
   ·exact .inr ⟨k,o,I,L,M,by simp[e,C],by rw[Fh w _ (fa U)];exact U,h3,h4,h5.ext E,h6⟩
 ·intro b V y y' k o o' f n s z hs l q
  rw[Ai]at f n
  by_cases e:b=d<;>by_cases t:V=d
  ·rw[e,t]
  ·rw[if_neg t]at n
   simp[e]at l;simp[t]at q
   have:=F_ S n z q;omega
  ·rw[if_neg e]at f
   simp[t]at q;simp[e]at l
   have:=F_ S f s l;omega
  ·rw[if_neg e]at f;rw[if_neg t]at n
   simp[e]at l;simp[t]at q
   exact S.sep b V y y' k o o' f n s z hs l q
 ·rintro k ⟨b,y,o,f,s,hs,l⟩ u
  rw[Ai]at f
  by_cases e:b=d
  ·simp[e]at l;omega
  ·rw[if_neg e]at f;simp[e]at l
   exact⟨b,y,o,f,s,hs,l⟩
def Step.newNone(S:SimH J β h w){d:Nat}{x:Blk}(hn:Aq h d=none)(G:x.cells=[])(u:x.mp=false:=by rfl):
  Step J β h w J (fun b=>if b=d then none else β b) (Ja h d x) w:=by
 have ne:∀{b y},Aq h b=some y->b≠d:=fun f e=>by subst e;rw[hn]at f;cases f
 have E:Ext J β h w J (fun b=>if b=d then none else β b) (Ja h d x) w:=by
  refine⟨fun _ _ q=>q,fun o k q=>rfl,fun b y f=>⟨y,⟨by rw[Ai,if_neg (ne f)];exact f,rfl⟩,?_⟩,fun b k o j=>A49 _⟩
  cases l:y.dead
  ·exact .inr ⟨rfl,by simp[ne f],rfl,fun _=>rfl⟩
  ·exact .inl rfl
 refine⟨E,⟨S.jlt,S.jft,S.gl.ext E,fun b y f l s=>?_,fun b y f l s=>by
   rw[Ai]at f
   by_cases e:b=d
   ·rw[if_pos e]at f;simp at f;subst f;simp[u]at s
   ·rw[if_neg e]at f
    exact(S.mblk b y f l s).keep (by simp[e]) (fun k o j=>rfl) (fun _ _ _ _ q=>q),?_⟩,rfl,rfl,rfl,A49 _,fun k I _=>rfl,?_,fun _ _ q=>.inl q⟩
 ·rw[Ai]at f
  by_cases e:b=d
  ·subst e;simp at f;subst f
   exact .inl ⟨by simp,G⟩
  ·rw[if_neg e]at f
   rcases S.blk b y f l s with t|⟨k,o,v,z,A,t,L,M,T,U,V⟩
   ·exact .inl ⟨by simp[e,t.1],t.2⟩
   ·exact .inr ⟨k,o,v,z,A,by simp[e,t],L,M,T,U.ext E,V⟩
 ·intro b F y X k o o' f m l C hs j n
  rw[Ai]at f m
  by_cases e:b=d
  ·simp[e]at j
  ·by_cases D:F=d
   ·simp[D]at n
   ·rw[if_neg e]at f;rw[if_neg D]at m
    simp[e]at j;simp[D]at n
    exact S.sep b F y X k o o' f m l C hs j n
 ·rintro k ⟨b,y,o,f,l,hs,j⟩ I
  rw[Ai]at f
  by_cases e:b=d
  ·simp[e]at j
  ·rw[if_neg e]at f;simp[e]at j
   exact⟨b,y,o,f,l,hs,j⟩
def Step.newObj(S:SimH J β h w){d:Nat}{x:Blk}{ob:Obj}(hn:Aq h d=none)(V:x.dead=false)(C:x.sealed=false)(D:x.pure=true)(F:ObjIs x ob)(G:x.mp=true):
  Step J β h w J (fun b=>if b=d then some (w.heap.size,0)else β b) (Ja h d x) (w.alloc ob):=by
 have ne:∀{b y},Aq h b=some y->b≠d:=fun f e=>by subst e;rw[hn]at f;cases f
 have E:Ext J β h w J (fun b=>if b=d then some (w.heap.size,0)else β b) (Ja h d x) (w.alloc ob):=by
  refine⟨fun _ _ l=>l,fun o k l=>Fh w _ (S.jlt o k l),fun b y f=>⟨y,⟨by rw[Ai,if_neg (ne f)];exact f,rfl⟩,?_⟩,fun b k o j=>?_⟩
  ·cases q:y.dead
   ·exact .inr ⟨rfl,by simp[ne f],rfl,fun _=>rfl⟩
   ·exact .inl rfl
  ·by_cases t:k<w.heap.size
   ·simp[Bx,Fh w _ t]
   ·simp[Bx,A66 (A8b t)]
 have u:(w.alloc ob).heap[w.heap.size]?=some ob:=by
  show(w.heap.push _)[_]?=_;simp
 have X:(w.alloc ob).heap.size=w.heap.size+1:=by show(w.heap.push _).size=_;simp
 refine⟨E,⟨fun o k l=>by have:=S.jlt o k l;omega,S.jft,S.gl.ext E,fun b y f q z=>?_,fun b y f q z=>?_,?_⟩,rfl,rfl,rfl,by omega,fun k t _=>Fh w _ t,?_,fun _ _ l=>.inl l⟩
 ·rw[Ai]at f
  by_cases e:b=d
  ·rw[if_pos e]at f;simp at f;subst f;simp[G]at z
  ·rw[if_neg e]at f
   rcases S.blk b y f q z with A|⟨k,o,I,L,M,A,T,Y,h4,h5,h6⟩
   ·exact .inl ⟨by simp[e,A.1],A.2⟩
   ·exact .inr ⟨k,o,I,L,M,by simp[e,A],by rw[Fh w _ (fa T)];exact T,Y,h4,h5.ext E,h6⟩
 ·rw[Ai]at f
  by_cases e:b=d
  ·rw[if_pos e]at f;simp at f;subst f
   exact⟨D,C,w.heap.size,ob,by simp[e],u,F,fun g l=>by have:=S.jlt g _ l;omega⟩
  ·rw[if_neg e]at f
   exact(S.mblk b y f q z).keep (by simp[e]) (fun k o j=>Fh w _ (F_ S f q j)) (fun _ _ _ _ l=>l)
 ·intro b U y y' k o o' f m q v hs j n
  rw[Ai]at f m
  by_cases e:b=d<;>by_cases s:U=d
  ·rw[e,s]
  ·rw[if_neg s]at m
   simp[e]at j;simp[s]at n
   have:=F_ S m v n;omega
  ·rw[if_neg e]at f
   simp[s]at n;simp[e]at j
   have:=F_ S f q j;omega
  ·rw[if_neg e]at f;rw[if_neg s]at m
   simp[e]at j;simp[s]at n
   exact S.sep b U y y' k o o' f m q v hs j n
 ·rintro k ⟨b,y,o,f,q,hs,j⟩ t
  rw[Ai]at f
  by_cases e:b=d
  ·simp[e]at j;omega
  ·rw[if_neg e]at f;simp[e]at j
   exact⟨b,y,o,f,q,hs,j⟩
def Step.kill(S:SimH J β h w){d:Nat}{x y:Blk}(hx:Aq h d=some x)(m:y.dead=true)(t:y.mp=x.mp:=by rfl):Step J β h w J β (Ja h d y) w:=by
 have E:Ext J β h w J β (Ja h d y) w:=by
  refine⟨fun _ _ n=>n,fun o k n=>rfl,fun b z f=>?_,fun b k o q=>A49 _⟩
  by_cases e:b=d
  ·subst e;rw[hx]at f;simp at f;subst f;exact⟨y,⟨by rw[Ai,if_pos rfl],t⟩,.inl m⟩
  ·refine⟨z,⟨by rw[Ai,if_neg e];exact f,rfl⟩,?_⟩
   cases l:z.dead
   ·exact .inr ⟨rfl,rfl,rfl,fun _=>rfl⟩
   ·exact .inl rfl
 refine⟨E,⟨S.jlt,S.jft,S.gl.ext E,fun b z f l u=>?_,fun b z f l u=>by
   rw[Ai]at f
   by_cases e:b=d
   ·rw[if_pos e]at f;simp at f;subst f;simp[m]at l
   ·rw[if_neg e]at f
    exact(S.mblk b z f l u).keep rfl (fun k o q=>rfl) (fun _ _ _ _ n=>n),?_⟩,rfl,rfl,rfl,A49 _,fun k L _=>rfl,?_,fun _ _ n=>.inl n⟩
 ·rw[Ai]at f
  by_cases e:b=d
  ·rw[if_pos e]at f;simp at f;subst f;simp[m]at l
  ·rw[if_neg e]at f
   rcases S.blk b z f l u with v|⟨k,o,A,C,D,v,M,T,U,V,X⟩
   ·exact .inl v
   ·exact .inr ⟨k,o,A,C,D,v,M,T,U,V.ext E,X⟩
 ·intro b G z Y k o o' f j l s hs q F
  rw[Ai]at f j
  by_cases e:b=d
  ·rw[if_pos e]at f;simp at f;subst f;simp[m]at l
  ·by_cases I:G=d
   ·rw[if_pos I]at j;simp at j;subst j;simp[m]at s
   ·rw[if_neg e]at f;rw[if_neg I]at j
    exact S.sep b G z Y k o o' f j l s hs q F
 ·rintro k ⟨b,z,o,f,l,hs,q⟩ L
  rw[Ai]at f
  by_cases e:b=d
  ·rw[if_pos e]at f;simp at f;subst f;simp[m]at l
  ·rw[if_neg e]at f
   exact⟨b,z,o,f,l,hs,q⟩
end
end Gx
namespace Gx
open Go
section
variable{J J' J'':Bool->Nat->Prop}{β β' β'':Dl}{h h' h'':A8}{w w' w'':World}
def Step.shutB(S:SimH J β h w){d:Nat}{x:Blk}(hx:Aq h d=some x)(q:x.dead=false)(v:x.mp=false):
  Step J β h w (fun o k=>J o k\/∃ o',β d=some (k,o')/\(x.taint=true->o=true)) β (Ja h d {x with sealed:=true}) w:=by
 have E:Ext J β h w (fun o k=>J o k\/∃ o',β d=some (k,o')/\(x.taint=true->o=true)) β (Ja h d {x with sealed:=true}) w:=by
  refine⟨fun _ _ l=>.inl l,fun o k l=>rfl,fun b z f=>?_,fun b k o j=>A49 _⟩
  by_cases e:b=d
  ·subst e;rw[hx]at f;simp at f;subst f
   exact⟨{x with sealed:=true},⟨by rw[Ai,if_pos rfl],rfl⟩,.inr ⟨q,rfl,rfl,fun _=>rfl⟩⟩
  ·refine⟨z,⟨by rw[Ai,if_neg e];exact f,rfl⟩,?_⟩
   cases q:z.dead
   ·exact .inr ⟨rfl,rfl,rfl,fun _=>rfl⟩
   ·exact .inl rfl
 refine⟨E,⟨?_,?_,S.gl.ext E,fun b z f n F=>?_,fun b z f n F=>by
   rw[Ai]at f
   by_cases e:b=d
   ·rw[if_pos e]at f;simp at f;subst f;simp[v]at F
   ·rw[if_neg e]at f
    have M:=S.mblk b z f n F
    refine M.keep rfl (fun k o j=>rfl) (fun g k o j l=>?_)
    rcases l with l|⟨o',A,_⟩
    ·exact l
    ·exact absurd (S.sep b d z x k o o' f hx n q M.2.1 j A) e,?_⟩,rfl,rfl,rfl,A49 _,fun k hk _=>rfl,?_,?_⟩
 ·rintro o k (l|⟨o',j,_⟩)
  ·exact S.jlt o k l
  ·exact F_ S hx q j
 ·rintro k (l|⟨o',j,ht⟩)
  ·exact .inl (S.jft k l)
  ·exact .inr ⟨o',j,fun _=>rfl⟩
 ·rw[Ai]at f
  by_cases e:b=d
  ·rw[if_pos e]at f;simp at f;subst f;subst e
   rcases S.blk b x hx q v with m|⟨k,o,s,t,u,m,G,I,L,T,V,U⟩
   ·exact .inl m
   ·exact .inr ⟨k,o,s,t,u,m,G,I,L,T.ext E,fun hs=>by simp at hs,fun _=>.inr ⟨o,m,id⟩⟩
  ·rw[if_neg e]at f
   rcases S.blk b z f n F with m|⟨k,o,s,t,u,m,G,I,L,T,V,U⟩
   ·exact .inl m
   ·refine .inr ⟨k,o,s,t,u,m,G,I,L,T.ext E,fun hs g l=>?_,fun hs=>.inl (U hs)⟩
    rcases l with l|⟨o',j,_⟩
    ·exact V hs g l
    ·exact e (S.sep b d z x k o o' f hx n q hs m j)
 ·intro b b' z z' k o o' f X Y hd2 hs j A
  have get:∀{c y},Aq (Ja h d {x with sealed:=true}) c=some y->y.dead=false->∃ y',Aq h c=some y'/\y'.dead=false/\(y.sealed=false->y'.sealed=false):=by
   intro c y D hyd
   rw[Ai]at D
   by_cases e:c=d
   ·subst e;exact⟨x,hx,q,fun hs=>by simp at D;subst D;simp at hs⟩
   ·rw[if_neg e]at D;exact⟨y,D,hyd,id⟩
  obtain⟨y1,g1,g2,g3⟩:=get f Y
  obtain⟨y2,g4,g5,g6⟩:=get X hd2
  exact S.sep b b' y1 y2 k o o' g1 g4 g2 g5 (g3 hs) j A
 ·rintro k ⟨b,z,o,f,n,hs,j⟩ hk
  rw[Ai]at f
  by_cases e:b=d
  ·rw[if_pos e]at f;simp at f;subst f;simp at hs
  ·rw[if_neg e]at f
   exact⟨b,z,o,f,n,hs,j⟩
 ·rintro o k (l|⟨o',j,ht⟩)
  ·exact .inl l
  ·cases hs:x.sealed with
   |false=>exact .inr (.inl ⟨d,x,o',hx,q,hs,j⟩)
   | true =>
    left
    rcases S.blk d x hx q v with⟨m,_⟩|⟨k',o1,s,t,u,m,G,I,L,T,V,U⟩
    ·rw[j]at m;simp at m
    ·rw[j]at m;simp at m;obtain⟨rfl,rfl⟩:=m
     have:=U hs
     cases C:x.taint with
     |true=>rw[C]at this;rw[ht C];exact this
     |false =>
      rw[C]at this
      cases o
      ·exact this
      ·exact S.jft _ this
structure OnlyBlk(w w':World)(k:Nat)(cs cs':Array Value)(ty:TypeId)(fr:Nat×Nat):Prop where
 old:w.heap[k]?=some (.cells cs ty fr)
 new:w'.heap[k]?=some (.cells cs' ty fr)
 sz:cs'.size=cs.size
 other:∀ j,j≠k->w'.heap[j]?=w.heap[j]?
 size:w'.heap.size=w.heap.size
 os:w'.os=w.os
 tape:w'.tape=w.tape
 output:w'.output=w.output
def OnlyBlk.setCell{k i:Nat}{cs:Array Value}{ty:TypeId}{fr:Nat×Nat}(d:w.heap[k]?=some (.cells cs ty fr))(u:Value):
  OnlyBlk w (w.setCell ⟨k,i,none⟩ u) k cs (cs.setIfInBounds i u) ty fr:=by
 refine⟨d,?_,by simp,fun j f=>?_,by simp[World.setCell],rfl,rfl,rfl⟩
 ·simp[World.setCell,A78,d]
 ·simp only[World.setCell,A78];rw[if_neg (fun e=>f e.symm)]
def OnlyBlk.setCells{k:Nat}{ty:TypeId}{fr:Nat×Nat}:∀(us:List Value)(i:Nat)(w:World)(cs:Array Value),w.heap[k]?=some (.cells cs ty fr) ->
  ∃ d,OnlyBlk w (w.setCells k i us) k cs d ty fr/\∀ j,d[j]?=if i<=j/\j<i+us.length/\j<cs.size then us[j - i]? else cs[j]?
|[],i,w,cs,e=>⟨cs,⟨e,e,rfl,fun _ _=>rfl,rfl,rfl,rfl,rfl⟩,fun j=>by rw[if_neg (by simp;omega)]⟩
| u::us,i,w,cs,e=>by
  have A:=OnlyBlk.setCell (i:=i) e u
  obtain⟨d,B,hB⟩:=OnlyBlk.setCells us (i+1) (w.setCell ⟨k,i,none⟩ u) _ A.new
  refine⟨d,⟨e,B.new,B.sz.trans A.sz,fun j f=>(B.other j f).trans (A.other j f),B.size.trans A.size,B.os.trans A.os,B.tape.trans A.tape,B.output.trans A.output⟩,fun j=>?_⟩
  rw[hB j]
  simp only[A84,A42]
  by_cases f:j=i
  ·subst f
   rw[if_neg (by omega)]
   by_cases hs:j<cs.size
   ·rw[if_pos (by omega)];simp[hs]
   ·rw[if_neg (by omega)];simp[hs]
  ·by_cases l:i+1<=j/\j<i+1+us.length/\j<cs.size
   ·rw[if_pos l,if_pos (by omega),show j - i=(j - (i+1))+1 by omega];simp
   ·rw[if_neg l,if_neg (by omega),A8h (by omega)]
def Step.set(S:SimH J β h w){d k o:Nat}{x x':Blk}{cs s:Array Value}{ty:TypeId}{fr:Nat×Nat}(hx:Aq h d=some x)(n:x.dead=false)(hs:x.sealed=false)(v:β d=some (k,o))
  (O:OnlyBlk w w' k cs s ty fr) (hd':x'.dead=false) (M:x'.sealed=false) (hz:x'.sz=x.sz) (hl:x'.cells.length=x.cells.length) (D:CellsRep J β h w x' (fun j=>s[o+j]?)) (F:x.mp=false) (q:x'.mp=x.mp:=by rfl) (hty:x'.ty=x.ty:=by rfl) :
  Step J β h w J β (Ja h d x') w':=by
 obtain⟨G,o',cs0,ty0,fr0,t,T,h3,h4,h5,h6,h7⟩:∃ G o' cs0 ty0 fr0,β d=some (G,o')/\w.heap[G]?=some (.cells cs0 ty0 fr0) /\
   FrTy x.ty ty0 o' cs0.size fr0/\o'+x.cells.length<=cs0.size/\CellsRep J β h w x (fun j=>cs0[o'+j]?)/\(x.sealed=false->∀ g,¬ J g G)/\(x.sealed=true->J x.taint G):=by
  rcases S.blk d x hx n F with⟨L,_⟩|L
  ·rw[v]at L;simp at L
  ·exact L
 rw[v]at t;simp at t;obtain⟨rfl,rfl⟩:=t
 rw[O.old]at T;simp at T;obtain⟨rfl,rfl,rfl⟩:=T
 have nj:∀ g j,J g j->j≠k:=fun g j m e=>by subst e;exact h6 hs g m
 have E:Ext J β h w J β (Ja h d x') w':=by
  refine⟨fun _ _ m=>m,fun o j m=>O.other j (nj o j m),fun b z f=>?_,fun b j oo f=>?_⟩
  ·by_cases e:b=d
   ·subst e;rw[hx]at f;simp at f;subst f
    exact⟨_,⟨by rw[Ai,if_pos rfl],q⟩,.inr ⟨n,rfl,hz,fun _=>hl⟩⟩
   ·refine⟨z,⟨by rw[Ai,if_neg e];exact f,rfl⟩,?_⟩
    cases n:z.dead
    ·exact .inr ⟨rfl,rfl,rfl,fun _=>rfl⟩
    ·exact .inl rfl
  ·by_cases e:j=k
   ·subst e;rw[J7 O.old,J7 O.new,O.sz];exact A49 _
   ·simp[Bx,O.other j e]
 refine⟨E,⟨fun g j m=>by rw[O.size];exact S.jlt g j m,S.jft,S.gl.ext E,fun b z f l A=>?_,fun b z f l A=>by
   rw[Ai]at f
   by_cases e:b=d
   ·rw[if_pos e]at f;simp at f;subst f;simp[q,F]at A
   ·rw[if_neg e]at f
    exact(S.mblk b z f l A).keep rfl (fun k2 o2 u=>O.other k2 (fun U=>by subst U;exact e (S.sep d b x z k2 o o2 hx f n l hs v u).symm)) (fun _ _ _ _ m=>m),?_⟩,O.os,O.tape,O.output,by rw[O.size];exact A49 _,fun j m A=>?_,?_,fun _ _ m=>.inl m⟩
 ·rw[Ai]at f
  by_cases e:b=d
  ·rw[if_pos e]at f;simp at f;subst f;subst e
   refine .inr ⟨k,o,s,ty,fr,v,O.new,?_,by rw[hl,O.sz];exact h4,D.ext E,fun _=>h6 hs,fun hh=>by simp[M]at hh⟩
   rw[O.sz,hty];exact h3
  ·rw[if_neg e]at f
   rcases S.blk b z f l A with C|⟨k2,o2,cs2,ty2,fr2,C,V,X,Y,g5,g6,g7⟩
   ·exact .inl C
   ·have hne:k2≠k:=fun U=>by
     subst U;exact e (S.sep d b x z k2 o o2 hx f n l hs v C).symm
    exact .inr ⟨k2,o2,cs2,ty2,fr2,C,by rw[O.other k2 hne];exact V,X,Y,g5.ext E,g6,g7⟩
 ·intro b b' z z' kk oo oo' f hb' hd1 hd2 hs1 hβ1 u
  have get:∀{c y},Aq (Ja h d x') c=some y->y.dead=false->∃ y',Aq h c=some y'/\y'.dead=false/\(y.sealed=false->y'.sealed=false):=by
   intro c y D hyd
   rw[Ai]at D
   by_cases e:c=d
   ·subst e;exact⟨x,hx,n,fun _=>hs⟩
   ·rw[if_neg e]at D;exact⟨y,D,hyd,id⟩
  obtain⟨y1,C,V,X⟩:=get f hd1
  obtain⟨y2,Y,g5,g6⟩:=get hb' hd2
  exact S.sep b b' y1 y2 kk oo oo' C Y V g5 (X hs1) hβ1 u
 ·exact O.other j (fun e=>A (by subst e;exact⟨d,x,o,hx,n,hs,v⟩))
 ·rintro j ⟨b,z,oo,f,l,hsz,I⟩ m
  rw[Ai]at f
  by_cases e:b=d
  ·subst e;exact⟨b,x,oo,hx,n,hs,I⟩
  ·rw[if_neg e]at f
   exact⟨b,z,oo,f,l,hsz,I⟩
def Step.setObj(S:SimH J β h w){d k:Nat}{x x':Blk}{ob A:Obj}(hx:Aq h d=some x)(C:x.dead=false)(I:x.mp=true)(F:β d=some (k,0))
  (old:w.heap[k]?=some ob) (new:w'.heap[k]?=some A) (other:∀ j,j≠k->w'.heap[j]?=w.heap[j]?) (size:w'.heap.size=w.heap.size) (os:w'.os=w.os) (tape:w'.tape=w.tape) (output:w'.output=w.output)
  (L:ObjIs x' A) (hx'd:x'.dead=false) (T:x'.sealed=false) (U:x'.pure=true) (V:x'.sz=x.sz) (v:x'.mp=true):Step J β h w J β (Ja h d x') w':=by
 have M:=S.mblk d x hx C I
 have nJ:∀ g,¬ J g k:=by
  obtain⟨_,_,k',_,q,_,_,t⟩:=M
  rw[F]at q;simp at q;subst q;exact t
 have nj:∀ g j,J g j->j≠k:=fun g j l e=>by subst e;exact nJ g l
 have E:Ext J β h w J β (Ja h d x') w':=by
  refine⟨fun _ _ l=>l,fun o j l=>other j (nj o j l),fun b z f=>?_,fun b j oo f=>?_⟩
  ·by_cases e:b=d
   ·subst e;rw[hx]at f;simp at f;subst f
    exact⟨_,⟨by rw[Ai,if_pos rfl],by rw[v,I]⟩,.inr ⟨C,rfl,V,fun h=>by simp[I]at h⟩⟩
   ·refine⟨z,⟨by rw[Ai,if_neg e];exact f,rfl⟩,?_⟩
    cases C:z.dead
    ·exact .inr ⟨rfl,rfl,rfl,fun _=>rfl⟩
    ·exact .inl rfl
  ·by_cases e:j=k
   ·subst e
    have r0:∀ cs ty fr,ob≠.cells cs ty fr:=by
     obtain⟨_,_,k',ob0,q,t,h3,_⟩:=M
     rw[F]at q;simp at q;subst q
     rw[old]at t;simp at t;subst t
     exact fun _ _ _=>h3.row
    have z0:Bx w j=0:=by
     unfold Bx;rw[old]
     split
     ·rename_i e;simp at e;exact absurd e (r0 _ _ _)
     ·rfl
    rw[z0];exact A8f _
   ·simp[Bx,other j e]
 refine⟨E,⟨fun g j l=>by rw[size];exact S.jlt g j l,S.jft,S.gl.ext E,fun b z f n u=>?_,fun b z f n u=>?_,?_⟩,os,tape,output,by rw[size];exact A49 _,fun j l I=>?_,?_,fun _ _ l=>.inl l⟩
 ·rw[Ai]at f
  by_cases e:b=d
  ·rw[if_pos e]at f;simp at f;subst f;simp[v]at u
  ·rw[if_neg e]at f
   rcases S.blk b z f n u with X|⟨k2,o2,cs2,ty2,fr2,X,G,g3,g4,g5,g6,g7⟩
   ·exact .inl X
   ·have hne:k2≠k:=fun e2=>by
     subst e2;rw[old]at G;simp at G
     obtain⟨_,_,k',ob0,q,t,h3,_⟩:=M
     rw[F]at q;simp at q;subst q
     rw[old]at t;simp at t;subst t
     exact absurd G h3.row
    exact .inr ⟨k2,o2,cs2,ty2,fr2,X,by rw[other k2 hne];exact G,g3,g4,g5.ext E,g6,g7⟩
 ·rw[Ai]at f
  by_cases e:b=d
  ·rw[if_pos e]at f;simp at f;subst f;subst e
   exact⟨U,T,k,A,F,new,L,nJ⟩
  ·rw[if_neg e]at f
   exact(S.mblk b z f n u).keep rfl (fun k2 o2 D=>other k2 (fun e2=>by subst e2;exact e (S.sep d b x z k2 0 o2 hx f C n M.2.1 F D).symm)) (fun _ _ _ _ l=>l)
 ·intro b b' z z' kk oo oo' f hb' hd1 hd2 hs1 hβ1 D
  have get:∀{c y},Aq (Ja h d x') c=some y->y.dead=false->∃ y',Aq h c=some y'/\y'.dead=false/\(y.sealed=false->y'.sealed=false):=by
   intro c y L hyd
   rw[Ai]at L
   by_cases e:c=d
   ·subst e;exact⟨x,hx,C,fun _=>M.2.1⟩
   ·rw[if_neg e]at L;exact⟨y,L,hyd,id⟩
  obtain⟨y1,X,G,g3⟩:=get f hd1
  obtain⟨y2,g4,g5,g6⟩:=get hb' hd2
  exact S.sep b b' y1 y2 kk oo oo' X g4 G g5 (g3 hs1) hβ1 D
 ·exact other j (fun e=>I (by subst e;exact⟨d,x,0,hx,C,M.2.1,F⟩))
 ·rintro j ⟨b,z,oo,f,n,hsz,Y⟩ l
  rw[Ai]at f
  by_cases e:b=d
  ·subst e;exact⟨b,x,oo,hx,C,M.2.1,Y⟩
  ·rw[if_neg e]at f
   exact⟨b,z,oo,f,n,hsz,Y⟩
def Step.mark(S:SimH J β h w){d k o:Nat}{x:Blk}{cs:Array Value}{ty:TypeId}{fr q:Nat×Nat}(hx:Aq h d=some x)(u:x.dead=false)(hs:x.sealed=false)(v:β d=some (k,o))
  (old:w.heap[k]?=some (.cells cs ty fr)) (new:w'.heap[k]?=some (.cells cs ty q)) (T:FrOk cs.size q) (other:∀ j,j≠k->w'.heap[j]?=w.heap[j]?) (size:w'.heap.size=w.heap.size) (os:w'.os=w.os) (tape:w'.tape=w.tape) (output:w'.output=w.output) (t:x.mp=false) :
  Step J β h w J β h w':=by
 have nj:∀ g j,J g j->j≠k:=fun g j f e=>by
  subst e
  rcases S.blk d x hx u t with⟨D,_⟩|⟨X,o',cs0,ty0,fr0,s,Y,h3,h4,h5,U,h7⟩
  ·rw[v]at D;simp at D
  ·rw[v]at s;simp at s;obtain⟨rfl,rfl⟩:=s
   exact U hs g f
 have E:Ext J β h w J β h w':=by
  refine⟨fun _ _ f=>f,fun o j f=>other j (nj o j f),fun b z l=>⟨z,⟨l,rfl⟩,?_⟩,fun b j oo l=>?_⟩
  ·cases u:z.dead
   ·exact .inr ⟨rfl,rfl,rfl,fun _=>rfl⟩
   ·exact .inl rfl
  ·by_cases e:j=k
   ·subst e;rw[J7 old,J7 new];exact A49 _
   ·simp[Bx,other j e]
 refine⟨E,⟨fun g j f=>by rw[size];exact S.jlt g j f,S.jft,S.gl.ext E,fun b z l m n=>?_,fun b z l m n=>by
   refine(S.mblk b z l m n).keep rfl (fun k2 o2 C=>other k2 (fun V=>?_)) (fun _ _ _ _ f=>f)
   subst V
   have:=S.sep d b x z k2 o o2 hx l u m hs v C
   subst this
   rw[hx] at l;simp at l;subst l;simp[t] at n,S.sep⟩,os,tape,output,by rw[size];exact A49 _,fun j f n=>?_,fun _ n _=>n,fun _ _ f=>.inl f⟩
 ·rcases S.blk b z l m n with y|⟨k2,o2,cs2,ty2,fr2,y,A,F,G,I,L,M⟩
  ·exact .inl y
  ·by_cases e:k2=k
   ·subst e
    rw[old]at A;simp at A;obtain⟨rfl,rfl,rfl⟩:=A
    exact .inr ⟨k2,o2,cs,ty,q,y,new,⟨T,F.2⟩,G,I.ext E,L,M⟩
   ·exact .inr ⟨k2,o2,cs2,ty2,fr2,y,by rw[other k2 e];exact A,F,G,I.ext E,L,M⟩
 ·exact other j (fun e=>n (by subst e;exact⟨d,x,o,hx,u,hs,v⟩))
def Step.move(S:SimH J β h w){d d' k o o':Nat}{x x' y:Blk}{cs C:Array Value}{ty:TypeId}{fr:Nat×Nat}(hx:Aq h d=some x)(u:x.dead=false)(hs:x.sealed=false)(v:β d=some (k,o))
  (hn:Aq h d'=none) (hy:y.dead=true)
  (O:OnlyBlk w w' k cs C ty fr) (hd':x'.dead=false) (hs':x'.sealed=false) (hl:o'+x'.cells.length<=cs.size) (hc:CellsRep J β h w x' (fun j=>C[o'+j]?)) (hxm:x.mp=false) (hym:y.mp=x.mp:=by rfl) (L:x'.mp=false:=by rfl) (hty:TyOk x'.ty ty o' cs.size:=by exact TyOk.none) :
  Step J β h w J (fun b=>if b=d' then some (k,o')else β b) (Ja (Ja h d y) d' x') w':=by
 obtain⟨M,o1,cs0,ty0,fr0,D,h2,h3,h4,h5,h6,h7⟩:∃ M o' cs0 ty0 fr0,β d=some (M,o')/\w.heap[M]?=some (.cells cs0 ty0 fr0) /\
   FrTy x.ty ty0 o' cs0.size fr0/\o'+x.cells.length<=cs0.size/\CellsRep J β h w x (fun j=>cs0[o'+j]?)/\(x.sealed=false->∀ g,¬ J g M)/\(x.sealed=true->J x.taint M):=by
  rcases S.blk d x hx u hxm with⟨Y,_⟩|Y
  ·rw[v]at Y;simp at Y
  ·exact Y
 rw[v]at D;simp at D;obtain⟨rfl,rfl⟩:=D
 rw[O.old]at h2;simp at h2;obtain⟨rfl,rfl,rfl⟩:=h2
 have nj:∀ g j,J g j->j≠k:=fun g j n e=>by subst e;exact h6 hs g n
 have ndd:d≠d':=fun e=>by subst e;rw[hn]at hx;cases hx
 have ne:∀{b z},Aq h b=some z->b≠d':=fun f e=>by subst e;rw[hn]at f;cases f
 have get:∀ b,Aq (Ja (Ja h d y) d' x') b=if b=d' then some x' else if b=d then some y else Aq h b:=fun b=>by rw[Ai,Ai]
 have E:Ext J β h w J (fun b=>if b=d' then some (k,o')else β b) (Ja (Ja h d y) d' x') w':=by
  refine⟨fun _ _ n=>n,fun o j n=>O.other j (nj o j n),fun b z f=>?_,fun b j oo f=>?_⟩
  ·by_cases e:b=d
   ·have hb0:=f;subst e;rw[hx]at f;simp at f;subst f;exact⟨y,⟨by rw[get,if_neg (ne hb0),if_pos rfl],hym⟩,.inl hy⟩
   ·refine⟨z,⟨by rw[get,if_neg (ne f),if_neg e];exact f,rfl⟩,?_⟩
    cases u:z.dead
    ·exact .inr ⟨rfl,by simp[ne f],rfl,fun _=>rfl⟩
    ·exact .inl rfl
  ·by_cases e:j=k
   ·subst e;rw[J7 O.old,J7 O.new,O.sz];exact A49 _
   ·simp[Bx,O.other j e]
 have live:∀{b z},Aq (Ja (Ja h d y) d' x') b=some z->z.dead=false->(b=d'/\z=x')\/(b≠d'/\b≠d/\Aq h b=some z):=by
  intro b z f hz
  rw[get]at f
  by_cases e:b=d'
  ·rw[if_pos e]at f;simp at f;exact .inl ⟨e,f.symm⟩
  ·rw[if_neg e]at f
   by_cases s:b=d
   ·rw[if_pos s]at f;simp at f;subst f;simp[hy]at hz
   ·rw[if_neg s]at f;exact .inr ⟨e,s,f⟩
 refine⟨E,⟨fun g j n=>by rw[O.size];exact S.jlt g j n,S.jft,S.gl.ext E,fun b z f l I=>?_,fun b z f l I=>by
   rcases live f l with⟨rfl,rfl⟩|⟨e1,s,f⟩
   ·simp[L]at I
   ·exact(S.mblk b z f l I).keep (by simp[e1]) (fun k2 o2 m=>O.other k2 (fun e=>by subst e;exact s (S.sep d b x z k2 o o2 hx f u l hs v m).symm)) (fun _ _ _ _ n=>n),?_⟩,O.os,O.tape,O.output,by rw[O.size];exact A49 _,fun j n I=>?_,?_,fun _ _ n=>.inl n⟩
 ·rcases live f l with⟨rfl,rfl⟩|⟨e1,s,f⟩
  ·refine .inr ⟨k,o',C,ty,fr,by simp,O.new,?_,by rw[O.sz];exact hl,hc.ext E,fun _=>h6 hs,fun hh=>by simp[hs']at hh⟩
   rw[O.sz];exact⟨h3.1,hty⟩
  ·rcases S.blk b z f l I with T|⟨k2,o2,cs2,ty2,fr2,T,g2,g3,g4,g5,g6,g7⟩
   ·exact .inl ⟨by simp[e1,T.1],T.2⟩
   ·have hne:k2≠k:=fun e=>by
     subst e;exact s (S.sep d b x z k2 o o2 hx f u l hs v T).symm
    exact .inr ⟨k2,o2,cs2,ty2,fr2,by simp[e1,T],by rw[O.other k2 hne];exact g2,g3,g4,g5.ext E,g6,g7⟩
 ·intro b b' z z' kk oo U f hb' F G hs1 q m
  rcases live f F with⟨e0,_⟩|⟨e1,s,V⟩<;>rcases live hb' G with⟨X,_⟩|⟨e3,e4,A⟩
  ·rw[e0,X]
  ·simp[e0]at q;simp[e3]at m
   obtain⟨rfl,rfl⟩:=q
   exact absurd (S.sep d b' x z' k o U hx A u G hs v m).symm e4
  ·simp[X]at m;simp[e1]at q
   obtain⟨rfl,rfl⟩:=m
   exact absurd (S.sep d b x z k o oo hx V u F hs v q).symm s
  ·simp[e1]at q;simp[e3]at m
   exact S.sep b b' z z' kk oo U V A F G hs1 q m
 ·exact O.other j (fun e=>I (by subst e;exact⟨d,x,o,hx,u,hs,v⟩))
 ·rintro j ⟨b,z,oo,f,l,hsz,t⟩ n
  rcases live f l with⟨rfl,rfl⟩|⟨e1,s,f⟩
  ·simp at t;obtain⟨rfl,rfl⟩:=t
   exact⟨d,x,o,hx,u,hs,v⟩
  ·simp[e1]at t;exact⟨b,z,oo,f,l,hsz,t⟩
end
end Gx
namespace Gx
open Go
def Dp:∀(a b:J4)(h:A8),As (a++b) h=As b (As a h)
|[],_,_=>rfl
|(_,some _)::r,b,h=>by simp only[A5i,As];exact Dp r b _
|(_,none)::r,b,h=>by simp only[A5i,As];exact Dp r b _
def LooksS(g:Cg)(h:A8):Prop:=∀ b x,g b=some x->∃ y,Aq h b=some y/\{y with sealed:=true}={x with sealed:=true}
def Looks.s{g:Cg}{h:A8}(d:Looks g h):LooksS g h:=fun b x e=>⟨x,d b x e,rfl⟩
section
variable{R:Type}{r:R}{P:Program}{J J':Bool->Nat->Prop}{β:Dl}{h:A8}{w:World}{g:Cg}
def LooksS.shutB(f:LooksS g h){b:Nat}{x:Blk}(j:g b=some x):LooksS g (Ja h b {x with sealed:=true}):=by
 intro c y d
 rw[Ai]
 by_cases e:c=b
 ·subst e;rw[j]at d;simp at d;subst d
  exact⟨{x with sealed:=true},by simp,rfl⟩
 ·rw[if_neg e];exact f c y d
def Apc(S:SimH J β h w){b off n:Nat}{y:Blk}{v:Value}(D:Aq h b=some y)(F:y.dead=false)(G:y.pure=true)(hr:Rep J β h w (.own b off n) v)
  (hJ:∀ k o,β b=some (k,o)->J' y.taint k) (l:∀ o k,J o k->J' o k) (t o:Bool):RepC (J' y.taint) w (.imm ((y.cells.drop off).take (n*y.sz)) n y.sz t o) v↔(t=true->∃ A cap,v=.slice A n cap/\cap=n):=by
 rw[Rep]at hr
 obtain⟨x,A,cap,⟨e,q⟩,rfl,d,hr⟩:=hr
 rw[D]at e;simp at e;subst e
 rw[RepC]
 constructor
 ·rintro⟨_,A',cap',s,_,u,_⟩ z
  exact⟨A',cap',s,u z⟩
 ·intro u
  have m:t=true->cap=n:=fun z=>by
   obtain⟨A',cap',s,T⟩:=u z
   simp at s;omega
  rcases hr with hr|⟨kk,oo,rfl,hr⟩
  ·have:n=0:=by omega
   subst this
   exact⟨by simp,A,cap,rfl,d,m,.inl rfl⟩
  ·rcases hr with hr|⟨C,U,V⟩
   ·simp[F]at hr
   ·rcases S.blk b y D F q with⟨hn,_⟩|⟨X,o',cs,ty,fr,f,I,Y,g3,L,g5,g6⟩
    ·rw[C]at hn;simp at hn
    ·rw[C]at f;simp at f;obtain⟨rfl,rfl⟩:=f
     refine⟨by simp;omega,_,cap,rfl,d,m,.inr ⟨_,rfl,hJ _ _ C,?_⟩⟩
     have:=((L.1 G).drop off).take (n*y.sz)
     refine RepCs.keep (fun k M=>l _ k M) (fun _ _=>rfl) (fun j=>?_) this
     rw[Addr.add_mid,DZ I,A6l]
def Atk{b off n:Nat}{y:Blk}{v:Value}(f:Aq h b=some y)(hr:Rep J β h w (.own b off n) v):y.mp=false:=by
 rw[Rep]at hr
 obtain⟨x,A,cap,⟨d,e⟩,_⟩:=hr
 rw[f]at d;simp at d;subst d;exact e
def Aww{b off:Nat}{y:Blk}{v:Value}(f:Aq h b=some y)(hr:Rep J β h w (.optr b off) v):y.mp=false:=by
 rw[Rep]at hr
 obtain⟨x,k,o,⟨d,e⟩,_⟩:=hr
 rw[f]at d;simp at d;subst d;exact e
def bW{v v':AV}{ups:J4}{org:Bool}{vc:Value}(S:SimH J β h w)(l:LooksS g h)(e:jC g v=some (v',ups,org))(f:Rep J β h w v vc):
    ∃ J',Step J β h w J' β (As ups h) w/\RepC (J' org) w v' vc/\LooksS g (As ups h):=by
  unfold jC at e
  split at e
  · rename_i b off n
    obtain⟨x,hx,t⟩:=ub e
    obtain⟨u,q⟩:=uc t
    simp at q
    obtain⟨rfl,rfl,rfl⟩:=q
    unfold Ms at hx
    obtain⟨x0,j,hx⟩:=ub hx
    obtain⟨s,hx⟩:=Alu hx
    simp at hx;subst hx
    obtain⟨y,m,d⟩:=l b _ j
    have e1:y.cells=x0.cells:=by have:=congrArg Blk.cells d;simpa using this
    have z:y.sz=x0.sz:=by have:=congrArg Blk.sz d;simpa using this
    have e3:y.taint=x0.taint:=by have:=congrArg Blk.taint d;simpa using this
    have e4:y.dead=x0.dead:=by have:=congrArg Blk.dead d;simpa using this
    have C:y.pure=x0.pure:=by have:=congrArg Blk.pure d;simpa using this
    have A:=Step.shutB S m (by rw[e4];exact s) (Atk m f)
    refine⟨_,by simp only[As];rw[<-d];exact A,?_,by simp only[As];exact l.shutB j⟩
    have:=(Apc (J':=fun o k=>J o k\/∃ o',β b=some (k,o')/\(y.taint=true->o=true)) S m (by rw[e4];exact s) (by rw[C];exact u) f (fun k o D=>.inr ⟨o,D,id⟩) (fun o k F=>.inl F) false x0.taint).2 (by simp)
    rw[e1,z,e3]at this
    rw[e3]
    exact this
  all_goals first
    |(simp at e;done)
    | (simp at e; obtain ⟨rfl, rfl, rfl⟩ := e
       refine⟨J,Step.refl S,?_,l⟩
       first
         |(rw[Rep]at f;exact f)
         | skip)
  · cases v
    case imm=>rename_i hi _ _;exact absurd rfl (hi _ _ _ _ _)
    case iptr=>rename_i hi _;exact absurd rfl (hi _ _)
    case pagg=>rename_i hi;exact absurd rfl (hi _ _)
    all_goals first|(rw[Rep]at f;rw[RepC];exact f)|simp_all
def Yg:∀{c e:LA}{ups:J4}{org:Bool}{cs:List Value}{J:Bool->Nat->Prop}{h:A8},SimH J β h w->LooksS g h->KC g c=some (e,ups,org)->Reps J β h w c cs ->
  ∃ J',Step J β h w J' β (As ups h) w/\RepCs (J' org) w e (fun j=>cs[j]?) 0/\e.length=cs.length/\LooksS g (As ups h)
|[],e,ups,org,cs,J,h,S,n,f,l=>by
  simp[KC]at f;obtain⟨rfl,rfl,rfl⟩:=f
  rw[Reps]at l;subst l
  exact⟨J,Step.refl S,by simp[RepCs],rfl,n⟩
| v::r,e,ups,org,cs,J,h,S,n,f,l=>by
  rw[KC]at f
  obtain⟨⟨v1,u1,o1⟩,D,F⟩:=ub f
  obtain⟨⟨I,u2,o2⟩,hq,z⟩:=ub F
  simp at z
  obtain⟨rfl,rfl,rfl⟩:=z
  rw[Reps]at l
  obtain⟨u,us,rfl,q,s⟩:=l
  obtain⟨J1,A,hA,t⟩:=bW S n D q
  obtain⟨J2,B,hB,m,y⟩:=Yg A.sim t hq (Reps.ext A.ext s)
  refine⟨J2,by rw[Dp];exact A.trans B (fun _ _ _ _=>A49 _),?_,by simp[m],by rw[Dp];exact y⟩
  have mono:∀{a b:Bool}(k:Nat),J2 a k->J2 (a||b) k:=fun{a b} k d=>by
   cases a
   ·cases b
    ·exact d
    ·exact B.sim.jft k d
   ·exact d
  have mono':∀{a b:Bool}(k:Nat),J2 b k->J2 (a||b) k:=fun{a b} k d=>by rw[A9e];exact mono k d
  rw[RepCs]
  refine⟨⟨u,by simp,?_⟩,?_⟩
  ·exact RepC.keep (J:=J1 o1) (fun k d=>mono k (B.ext.jsub _ k d)) (fun _ _=>rfl) hA
  ·have:=RepCs.keep (J':=J2 (o1||o2)) (w':=w) (fun k d=>mono' k d) (fun _ _=>rfl) (rd':=fun j=>us[j]?) (fun _=>rfl) hB
   rw[C9]at this ⊢
   intro j x G
   have C:=this j x G
   simp only[A5j]at C
   rw[show 1+j=j+1 by omega]
   simpa using C
def YV{v:AV}{f:LA}{ups:J4}{org:Bool}{vc:Value}(S:SimH J β h w)(m:LooksS g h)(e:JP g v=some (f,ups,org))(k:Rep J β h w v vc):
  ∃ J',Step J β h w J' β (As ups h) w/\RepCs (J' org) w f (fun j=>vc.cells.toList[j]?) 0/\f.length=vc.cells.toList.length/\LooksS g (As ups h):=by
 unfold JP at e
 split at e
 ·rename_i c org'
  simp at e;obtain⟨rfl,rfl,rfl⟩:=e
  rw[Rep]at k
  obtain⟨cs,rfl,s,l⟩:=k
  exact⟨J,Step.refl S,l,by simp[Value.cells,s],m⟩
 ·rename_i c
  rw[Rep]at k
  obtain⟨cs,rfl,l⟩:=k
  exact Yg S m e l
 ·rename_i v s l
  obtain⟨J',A,hA,d,n⟩:=Yg (cs:=[vc]) S m e (by rw[Reps];exact⟨vc,[],rfl,k,by rw[Reps]⟩)
  have C:vc.oneCell'=true:=by
   have q:f.length=1:=d
   cases t:f with
   |nil=>simp[t]at q
   |cons x r =>
    obtain⟨u,y,hr⟩:=hA.at (j:=0) (x:=x) (by simp[t])
    simp at y;subst y
    exact vN hr
  have z:vc.cells=#[vc]:=by cases vc<;>simp_all[Value.cells,Value.oneCell']
  rw[z]
  exact⟨J',A,hA,d,n⟩
end
end Gx
namespace Gx
open Go
def Dq:∀(ups:J4)(h:A8)(b:Nat),Br ups b=false->Aq (As ups h) b=Aq h b
|[],_,_,_=>rfl
| (i,some x)::r,h,b,hi=>by
  rw[Br]at hi
  cases d:beq i b with
  |true=>rw[d]at hi;simp at hi
  |false =>
   rw[d]at hi
   rw[As,Dq r _ b hi,Ai,if_neg (fun e=>GR d e.symm)]
| (i,none)::r,h,b,hi=>by
  rw[Br]at hi
  cases d:beq i b with
  |true=>rw[d]at hi;simp at hi
  |false =>
   rw[d]at hi
   rw[As,Dq r _ b hi]
   split
   ·rw[Ai,if_neg (fun e=>GR d e.symm)]
   ·rfl
def jy{c vs:LA}{off:Nat}(f:off+vs.length<=c.length)(j:Nat):(Gh c off vs)[j]?=if off<=j/\j<off+vs.length then vs[j - off]? else c[j]?:=by
 unfold Gh
 rw[A5e,A6a]
 simp only[A58,A6g (show off<=c.length by omega)]
 by_cases d:j<off
 ·rw[if_pos d,if_neg (by omega),A7f,if_pos d]
 ·rw[if_neg d,A6a]
  by_cases e:j - off<vs.length
  ·rw[if_pos e,if_pos (by omega)]
  ·rw[if_neg e,if_neg (by omega),A67];congr 1;omega
def QQ{c vs:LA}{off:Nat}(d:off+vs.length<=c.length):(Gh c off vs).length=c.length:=by unfold Gh;simp;omega
def VH{c vs:LA}{off:Nat}(d:off+vs.length<=c.length)(j:Nat):(setCells c off vs)[j]?=if off<=j/\j<off+vs.length then vs[j - off]? else c[j]?:=by
 unfold setCells
 split
 ·rename_i y
  simp at d
  rw[List.getElem?_set]
  by_cases e:off=j
  ·subst e;simp;omega
  ·rw[if_neg e,if_neg (by simp;omega)]
 ·exact jy d j
def F'{c vs:LA}{off:Nat}(d:off+vs.length<=c.length):(setCells c off vs).length=c.length:=by
 unfold setCells
 split
 ·simp
 ·exact QQ d
section
variable{R:Type}{r:R}{P:Program}{J J':Bool->Nat->Prop}{β:Dl}{h:A8}{w w':World}{g:Cg}
def Yh{v:AV}{vc:Value}(hs:R_ g v=true)(d:Rep J β h w v vc):vc.oneCell'=true:=by
 cases v<;>simp[R_]at hs
 case own=>rw[Rep]at d;obtain⟨x,A,cap,_,rfl,_⟩:=d;rfl
 case optr=>rw[Rep]at d;obtain⟨x,k,o,_,rfl,_⟩:=d;rfl
 case fn=>rw[Rep]at d;obtain⟨cs,rfl,_⟩:=d;rfl
 case imm=>rw[Rep,RepC]at d;obtain⟨_,A,cap,rfl,_⟩:=d;rfl
 case iptr=>rw[Rep,RepC]at d;obtain⟨a,rfl,_⟩:=d;rfl
 all_goals (rw[Rep]at d;subst d;rfl)
def H':∀{c:LA},JQ g c=true->∀(j:Nat)(x:AV),c[j]?=some x->R_ g x=true
|[],_,j,x,d=>by simp at d
|v::r,hs,j,x,d=>by
  rw[JQ]at hs;simp at hs
  cases j with
  |zero=>simp at d;subst d;exact hs.1
  |succ j=>exact H' hs.2 j x (by simpa using d)
def Alw{k:Nat}{cs d:Array Value}{ty:TypeId}{fr:Nat×Nat}(O:OnlyBlk w w' k cs d ty fr):∀ j,Bx w j<=Bx w' j:=fun j=>by
 by_cases e:j=k
 ·subst e;rw[J7 O.old,J7 O.new,O.sz];exact A49 _
 ·simp[Bx,O.other j e]
def bX{t:TypeId}{k o:Nat}{vc:Value}{cs:Array Value}{ty:TypeId}{fr:Nat×Nat}(f:w.heap[k]?=some (.cells cs ty fr))(l:FrOk cs.size fr)
  (hs:C8 P t=some vc.cells.toList.length) (m:o+vc.cells.toList.length<=cs.size) (n:∀ u∈vc.cells.toList,u.oneCell'=true) :
  (Instr.storeAt t (.pointer (some ⟨k,o,none⟩)) vc).run P w=.ok () (w.setCells k o vc.cells.toList):=by
 have d:=run_storeCells_cells (P:=P) k o vc.cells.toList 0 w (fun j q=>by
   rw[A7k,DZ f];simp;omega)
  (fun j q=>by
   rw[A7k];simp only[World.frozen?,f]
   have:=l.at (o+j) (by omega)
   cases fr;simp at this ⊢;omega) n
 simp only[A7k]at d
 have e:=F0 hs w
 simp only[A8r]at e
 simp[Instr.storeAt,Instr.sureAddr,storeVar,e,d]
def Adq{t:TypeId}{p v:AV}{vp vv:Value}{k:AV->J4->O R}(S:SimH J β h w)(hl:Looks g h)(M:pK P g t p v k=some r)(hp:Rep J β h w p vp)(hv:Rep J β h w v vv):
  ∃ val ups,k val ups=some r/\∃ J' β' w',(Instr.storeAt t vp vv).run P w=.ok () w'/\Step J β h w J' β' (As ups h) w'/\val=.undef:=by
 unfold pK at M
 split at M
 ·rename_i b off
  obtain⟨x,hx,h1⟩:=ub M
  obtain⟨n,hn,h2⟩:=ub h1
  obtain⟨hs,X⟩:=Alu h2
  obtain⟨hb,Y⟩:=Qp hl hx
  have z:=Aww hb hp
  cases T:x.pure with
  | true =>
   rw[T]at X
   obtain⟨⟨c',u1,org⟩,hq,h4⟩:=ub X
   obtain⟨l,h5⟩:=uc h4
   simp at l
   obtain⟨C,D,U⟩:=l
   obtain⟨J1,A,hA,m,_⟩:=YV S hl.s hq hv
   have hb1:Aq (As u1 h) b=some x:=by rw[Dq _ _ _ U];exact hb
   obtain⟨kk,o,cs,ty,fr,hβ,rfl,f,hf,hle,hcr,_,_⟩:=Adm A.sim hb1 Y (Rep.ext A.ext hp)
   obtain⟨G,O,hO⟩:=OnlyBlk.setCells (k:=kk) vv.cells.toList (o+off) w cs f
   have I:off+c'.length<=x.cells.length:=by omega
   have hone:=RepCs.one hA m.symm
   have B:=Step.set (x':={ x with pure:=true,cells:=setCells x.cells off c',taint:=x.taint||org }) A.sim hb1 Y hs hβ O Y hs rfl (F' I) (by
    refine⟨fun _=>?_,fun M=>by simp at M⟩
    have hold:=hcr.1 T
    rw[C9]
    intro j y d
    simp only[VH I]at d
    simp only[A5j]
    have mono:∀{a b:Bool}(k:Nat),J1 a k->J1 (a||b) k:=fun{a b} k f=>by
     cases a
     ·cases b
      ·exact f
      ·exact A.sim.jft k f
     ·exact f
    split at d
    ·rename_i hj'
     obtain⟨u,L,hr⟩:=hA.at d
     refine⟨u,?_,RepC.keep (J:=J1 org) (fun k f=>by rw[A9e];exact mono k f) (fun _ _=>rfl) hr⟩
     rw[hO,if_pos (by omega),<-L];congr 1;omega
    ·rename_i hj'
     obtain⟨u,L,hr⟩:=hold.at d
     refine⟨u,?_,RepC.keep (J:=J1 x.taint) (fun k f=>mono k f) (fun _ _=>rfl) hr⟩
     rw[hO,if_neg (by omega)];exact L)
   refine⟨_,_,h5,J1,β,_,bX f hf.1 (by rw[<-m,C];exact hn) (by omega) hone,?_,rfl⟩
   rw[Dp]
   exact A.trans (B z) (fun _ k _ _=>Alw O k)
  | false =>
   rw[T]at X
   obtain⟨kk,o,cs,ty,fr,hβ,rfl,f,hf,hle,hcr,_,_⟩:=Adm S hb Y hp
   have go:∀(c:LA)(cells':LA),(∀(j:Nat)(y:AV),c[j]?=some y->∃ u,vv.cells.toList[j]?=some u/\Rep J β h w y u/\u.oneCell'=true)->c.length=vv.cells.toList.length->c.length=n->off+c.length<=x.cells.length ->
     cells'.length=x.cells.length->(∀ j:Nat,cells'[j]?=if off<=j/\j<off+c.length then c[j - off]? else x.cells[j]?) ->
     ∃ J' β' w',(Instr.storeAt t (.pointer (some ⟨kk,o+off,none⟩)) vv).run P w=.ok () w'/\Step J β h w J' β' (As [(b,some {x with pure:=false,cells:=cells'})] h) w':=by
    intro c cells' l m hcn hoff hcl hget'
    obtain⟨G,O,hO⟩:=OnlyBlk.setCells (k:=kk) vv.cells.toList (o+off) w cs f
    have B:=Step.set (x':={ x with pure:=false,cells:=cells' }) S hb Y hs hβ O Y hs rfl hcl (by
     refine⟨fun M=>by simp at M,fun _ j y d=>?_⟩
     simp only[hget']at d
     split at d
     ·rename_i hj'
      obtain⟨u,L,hr,ho⟩:=l _ _ d
      refine⟨u,?_,hr,ho⟩
      show G[o+j]?=some u
      rw[hO,if_pos (by omega),<-L];congr 1;omega
     ·rename_i hj'
      obtain⟨u,L,hr⟩:=hcr.2 T j y d
      refine⟨u,?_,hr⟩
      show G[o+j]?=some u
      rw[hO,if_neg (by omega)];exact L)
    refine⟨J,β,_,bX f hf.1 (by rw[hn,<-hcn,m]) (by omega) (fun u L=>?_),B z⟩
    obtain⟨j,d,rfl⟩:=A5q L
    obtain⟨u',hu',_,ho⟩:=l j c[j] (A46 (by omega))
    rw[A46 d]at hu';simp only[A7l]at hu';rw[hu'];exact ho
   simp only[cond_false]at X
   split at X
   ·rename_i c
    obtain⟨l,h5⟩:=uc X
    simp at l
    obtain⟨C,D,U⟩:=l
    rw[Rep]at hv
    obtain⟨us,rfl,e⟩:=hv
    rw[Dk]at e
    obtain⟨J',β',w',g1,g2⟩:=go c (Gh x.cells off c) (fun j y d=>by
      have V:j<us.length:=by rw[e.1];exact(A5t.1 d).1
      refine⟨us[j],by simp[Value.cells,A46 V],e.2 j y _ d (A46 V),Yh (H' C j y d) (e.2 j y _ d (A46 V))⟩)
     (by simp[Value.cells,e.1]) D (by omega) (QQ (by omega)) (jy (by omega))
    exact⟨_,_,h5,J',β',w',g1,g2,rfl⟩
   ·rename_i c org
    obtain⟨l,h5⟩:=uc X
    simp at l
    obtain⟨rfl,D,U⟩:=l
    rw[Rep]at hv
    obtain⟨us,rfl,e,hrc⟩:=hv
    obtain⟨G,O,hO⟩:=OnlyBlk.setCells (k:=kk) us (o+0) w cs f
    have B:=Step.set (x':={ x with pure:=true,taint:=org,cells:=c }) S hb Y hs hβ O Y hs rfl (by simp;omega) (by
     refine⟨fun _=>?_,fun M=>by simp at M⟩
     rw[C9]
     intro j y d
     obtain⟨u,L,hr⟩:=hrc.at d
     have V:j<us.length:=by rw[e];exact(A5t.1 d).1
     refine⟨u,?_,hr⟩
     show G[o+(0+j)]?=some u
     rw[hO,if_pos (by omega),<-L];congr 1;omega)
    exact⟨_,_,h5,J,β,_,bX (vc:=.agg ⟨us⟩) f hf.1 (by simp[Value.cells];rw[e,D];exact hn) (by simp[Value.cells];omega) (by simpa[Value.cells]using RepCs.one hrc e),B z,rfl⟩
   ·rename_i hna
    obtain⟨l,h5⟩:=uc X
    simp at l
    obtain⟨C,D,U⟩:=l
    have ho:=Yh C hv
    have q:vv.cells=#[vv]:=by cases vv<;>simp_all[Value.cells,Value.oneCell']
    obtain⟨J',β',w',g1,g2⟩:=go [v] (x.cells.set off v) (fun j y d=>by
      cases j with
      |zero=>simp at d;subst d;exact⟨vv,by simp[q],hv,ho⟩
      |succ j=>simp at d) (by simp[q]) (by simp;omega) (by simp;omega) (by simp) (fun j=>by
      have:=VH (c:=x.cells) (vs:=[v]) (off:=off) (by simp;omega) j
      simpa[setCells] using this)
    exact⟨_,_,h5,J',β',w',g1,g2,rfl⟩
 ·simp at M
end
end Gx
namespace Gx
open Go
section
variable{R:Type}{r:R}{P:Program}{J J':Bool->Nat->Prop}{β:Dl}{h:A8}{w w':World}{g:Cg}
def Abd{v v':AV}{ups:J4}{org:Bool}(d:jC g v=some (v',ups,org))(b:Nat)(j:Br ups b=true):∃ x,g b=some x:=by
 unfold jC at d
 split at d
 ·rename_i k off n
  obtain⟨x,hx,m⟩:=ub d
  obtain⟨q,l⟩:=uc m
  simp at l
  obtain⟨rfl,rfl,rfl⟩:=l
  unfold Ms at hx
  obtain⟨x0,f,hx⟩:=ub hx
  have:k=b:=by
   cases e:beq k b with
   |true=>exact A5p e
   |false=>simp[Br,e]at j
  subst this;exact⟨x0,f⟩
 all_goals first
  |(simp at d;done)
  |(simp at d;obtain⟨rfl,rfl,rfl⟩:=d;simp[Br]at j)
def Lh:∀(a b:J4)(c:Nat),Br (a++b) c=(Br a c||Br b c)
|[],_,_=>by simp[Br]
|(i,_)::r,b,c=>by
  rw[A5i,Br,Br,Lh r b c]
  cases beq i c<;>simp
def KI:∀{c f:LA}{ups:J4}{org:Bool},KC g c=some (f,ups,org)->∀ b,Br ups b=true->∃ x,g b=some x
|[],f,ups,org,d,b,e=>by simp[KC]at d;obtain⟨rfl,rfl,rfl⟩:=d;simp[Br]at e
|v::r,f,ups,org,d,b,e=>by
  rw[KC]at d
  obtain⟨⟨v1,u1,o1⟩,l,m⟩:=ub d
  obtain⟨⟨n,u2,o2⟩,hq,j⟩:=ub m
  simp at j
  obtain⟨rfl,rfl,rfl⟩:=j
  rw[Lh]at e
  cases k:Br u1 b with
  |true=>exact Abd l b k
  |false=>rw[k]at e;exact KI hq b (by simpa using e)
def zN{v:AV}{f:LA}{ups:J4}{org:Bool}(d:JP g v=some (f,ups,org))(b:Nat)(e:Br ups b=true):∃ x,g b=some x:=by
 unfold JP at d
 split at d
 ·simp at d;obtain⟨rfl,rfl,rfl⟩:=d;simp[Br]at e
 ·exact KI d b e
 ·exact KI d b e
def Apd{ups:J4}{d:Nat}(e:Looks g h)(f:∀ b,Br ups b=true->∃ x,g b=some x)(hn:Aq h (nid d)=none):Aq (As ups h) (nid d)=none:=by
 rw[Dq]
 ·exact hn
 ·cases j:Br ups (nid d)with
  |false=>rfl
  |true =>
   obtain⟨x,hx⟩:=f _ j
   rw[e _ _ hx]at hn;cases hn
def OpDone(J:Bool->Nat->Prop)(β:Dl)(h:A8)(w:World)(ups:J4)(val:AV)(vc:Value)(w':World):Prop:=∃ J' β',Step J β h w J' β' (As ups h) w'/\Rep J' β' (As ups h) w' val vc
def UpsFree(d:Nat)(h:A8)(ups:J4):Prop:=∀ b,Br ups b=true->SC d b=true->Aq h b=none
def UpsFree.nid {d:Nat} {h:A8} {ups:J4} (e:UpsFree d h ups) (hi:Br ups (nid d)=true):Aq h (nid d)=none:=e _ hi (by
 have f:ble (Gx.nid d) (Gx.nid d)=true:=by simp
 have j:Nat.blt (Gx.nid d) (Gx.nid d+16)=true:=by simp
 rw[SC,f,j];rfl)
def fb{d:Nat}{x:Blk}{cs:Array Value}{ty:TypeId}(S:SimH J β h w)(hn:Aq h (nid d)=none)(k:x.dead=false)(hs:x.sealed=false)(e:x.cells.length<=cs.size)(l:CellsRep J β h w x (fun j=>cs[j]?))(f:x.mp=false:=by rfl)(hty:TyOk x.ty ty 0 cs.size:=by exact TyOk.none):
  OpDone J β h w [(nid d,some x)] (.optr (nid d) 0) (.pointer (some ⟨w.heap.size,0,none⟩)) (w.alloc (.cells cs ty)):=by
 have A:=Step.new (ty:=ty) (fr:=(0,0)) S hn k hs ⟨.inl rfl,hty⟩ e l f
 refine⟨_,_,A,?_⟩
 rw[Rep]
 exact⟨x,w.heap.size,0,⟨by simp[As,Ai],f⟩,rfl,.inr (by simp)⟩
def OpDone.after{ups ups':J4}{val:AV}{vc:Value}{J1:Bool->Nat->Prop}{β1:Dl}{d:World}(A:Step J β h w J1 β1 (As ups h) d)(B:OpDone J1 β1 (As ups h) d ups' val vc w')
  (hs:∀ k,Bx w k<=Bx w' k):OpDone J β h w (ups++ups') val vc w':=by
 obtain⟨J2,β2,B1,B2⟩:=B
 exact⟨J2,β2,by rw[Dp];exact A.trans B1 (fun _ k _ _=>hs k),by rw[Dp];exact B2⟩
def W6(w:World)(o:Obj):∀ k,Bx w k<=Bx (w.alloc o) k:=fun k=>by
 by_cases d:k<w.heap.size
 ·simp[Bx,Fh w _ d]
 ·simp[Bx,A66 (A8b d)]
def VI{t:TypeId}{vc:Value}:(Instr.box t vc).run P w=.ok (.pointer (some ⟨w.heap.size,0,none⟩)) (w.alloc (.cells vc.cells t)):=by simp[Instr.box,newVar,newRow]
def r7{c:LA}{org:Bool}{cs:List Value}(z:RepCs (J org) w c (fun j=>cs[j]?) 0):∀{L:List (Nat×TypeId)}{e:LA}{k:LA->O R},lf P c org L e k=some r ->
  (∀(j:Nat) x,e[j]?=some x->∃ u,cs[j]?=some u/\Rep J β h w x u)->∃ l:LA,k l=some r/\∀(j:Nat) x,l[j]?=some x->∃ u,cs[j]?=some u/\Rep J β h w x u
|[],e,k,m,n=>⟨e,m,n⟩
| (off,t)::L,e,k,m,n=>by
  rw[lf]at m
  obtain⟨q,D⟩:=uc m
  simp at q
  obtain⟨v,F,G⟩:=DY (β:=β) (h:=h) D (z.drop off)
  refine r7 z F (fun j x f=>?_)
  rw[A6a]at f
  split at f
  ·exact n j x f
  ·have s:j=e.length:=by
    have:=(A5t.1 f).1
    simp at this;omega
   subst s
   simp at f;subst f
   rcases G with⟨d,A,I,u,C,M⟩|⟨d,A,I,_⟩
   ·refine⟨u,?_,M⟩
    rw[q.1]at C;simpa using C
   ·exfalso
    have y:=q.2
    unfold Atg at y
    rw[A]at y
    split at y<;>simp_all[TypeDesc.isRow]
def Adr{co:Bool}{t:TypeId}{v:AV}{vv:Value}{k:AV->O R}(e:pN P co t v k=some r)(f:Rep J β h w v vv):∃ v',k v'=some r/\Rep J β h w v' vv:=by
 unfold pN at e
 split at e
 ·rename_i c org
  rw[Rep]at f
  obtain⟨cs,rfl,C,m⟩:=f
  obtain⟨l,n,q⟩:=r7 (β:=β) (h:=h) m e (fun j x s=>by simp at s)
  obtain⟨y,z⟩:=uc n
  simp at y
  refine⟨_,z,?_⟩
  rw[Rep]
  refine⟨cs,rfl,Dk.2 ⟨by omega,fun j x u hx A=>?_⟩⟩
  obtain⟨D,d,hr⟩:=q j x hx
  rw[A]at d;simp at d;subst d;exact hr
 ·exact⟨_,e,f⟩
def Aqp{t q m:Nat}(h:Adb P t=some (q,m)):t=q/\C8 P t=some m:=by
 have key:∀{o:Option Nat},o=C8 P t->(o.map fun n=>(t,n))=some (q,m)->t=q/\C8 P t=some m:=by
  intro o d h
  cases o with
  |none=>simp at h
  |some n=>simp at h;exact⟨h.1,by rw[<-d,h.2]⟩
 unfold Adb at h
 split at h
 ·obtain⟨f,_,h⟩:=ub h
  split at h
  ·obtain⟨_,h⟩:=uc h;exact key rfl h
  ·obtain⟨g,_,h⟩:=ub h
   split at h
   ·obtain⟨_,h⟩:=uc h;exact key rfl h
   ·cases h
  ·cases h
 ·cases h
def vO{d:Nat}{t:TypeId}{v:AV}{vv:Value}{k:AV->J4->O R}(S:SimH J β h w)(I:Looks g h)(l:Ag4 P g d t v k=some r)(z:Rep J β h w v vv):
  ∃ val ups,k val ups=some r/\(UpsFree d h ups->∃ vc w',(Instr.box t vv).run P w=.ok vc w'/\OpDone J β h w ups val vc w'):=by
 unfold Ag4 at l
 split at l
 ·rename_i c org
  refine⟨_,_,l,fun hn=>⟨_,_,VI,?_⟩⟩
  replace hn:=hn.nid (by simp[DX,Br])
  rw[Rep]at z
  obtain⟨cs,rfl,G,n⟩:=z
  exact fb S hn rfl rfl (by simp[Value.cells,G]) ⟨fun _=>by simpa[Value.cells]using n,fun u=>by simp at u⟩
 ·rename_i c
  cases u:Ao3 P t with
  | true =>
   rw[u]at l
   obtain⟨f,l⟩:=uc l
   simp only[A47]at f
   obtain⟨f,x⟩:=f
   have x:=A5p x
   refine⟨_,_,l,fun hn=>⟨_,_,VI,?_⟩⟩
   replace hn:=hn.nid (by simp[Br])
   rw[Rep]at z
   obtain⟨cs,rfl,n⟩:=z
   rw[Dk]at n
   have hty:TyOk (Adb P t) t 0 (Value.agg ⟨cs⟩).cells.size:=fun q m hq=>by
    obtain⟨e1,L⟩:=Aqp hq
    refine⟨e1,rfl,.inr ?_⟩
    rw[L]at x
    simp[Value.cells,n.1];simpa using x
   refine fb S hn rfl rfl (by simp[Value.cells,n.1]) ⟨fun u=>by simp at u,fun _ j y C=>?_⟩ rfl hty
   have D:j<cs.length:=by rw[n.1];exact(A5t.1 C).1
   exact⟨cs[j],by simp[Value.cells,D],n.2 j y _ C (A46 D),Yh (H' f j y C) (n.2 j y _ C (A46 D))⟩
  |false =>
   rw[u]at l
   obtain⟨⟨T,u1,o1⟩,hq,G⟩:=ub l
   refine⟨_,_,G,fun hn=>⟨_,_,VI,?_⟩⟩
   replace hn:=hn.nid (by simp[Lh,DX,Br])
   rw[Rep]at z
   obtain⟨cs,rfl,n⟩:=z
   obtain⟨J1,A,hA,F,_⟩:=Yg S I.s hq n
   refine OpDone.after A (fb A.sim (Apd I (KI hq) hn) rfl rfl (by simp[Value.cells,F]) ⟨fun _=>?_,fun u=>by simp at u⟩) (W6 _ _)
   simpa[Value.cells]using hA
 ·rename_i v G n
  obtain⟨f,l⟩:=uc l
  refine⟨_,_,l,fun hn=>⟨_,_,VI,?_⟩⟩
  replace hn:=hn.nid (by simp[DX,Br])
  have M:=Yh f z
  have e:vv.cells=#[vv]:=by cases vv<;>simp_all[Value.cells,Value.oneCell']
  refine fb S hn rfl rfl (by simp[e]) ⟨fun u=>by simp at u,fun _ j y C=>?_⟩
  cases j with
  |zero=>simp at C;subst C;exact⟨vv,by simp[e],z,M⟩
  |succ j=>simp at C
end
end Gx
namespace Gx
open Go
def Ads(z:LA):∀(l j:Nat),j<l*z.length->(Vy l z)[j]?=z[j%z.length]?:=by
 have flat:∀(l j:Nat),j<l*z.length->((replicate l z).flatten)[j]?=z[j%z.length]?:=by
  intro l
  induction l with
  |zero=>intro j d;simp at d
  | succ l f =>
   intro j d
   rw[A8c,List.flatten_cons,A6a]
   by_cases e:j<z.length
   ·rw[if_pos e,A59 e]
   ·rw[if_neg e,f _ (by rw[Bag]at d;omega)]
    rw[Nat.mod_eq_sub_mod (a:=j) (by omega)]
 intro l j d
 unfold Vy
 split
 ·rename_i v
  simp at d
  simp[d,Nat.mod_one]
 ·exact flat l j d
def Wk(l:Nat)(z:LA):(Vy l z).length=l*z.length:=by
 unfold Vy
 split
 ·simp
 ·simp
section
variable{R:Type}{r:R}{P:Program}{J J':Bool->Nat->Prop}{β:Dl}{h:A8}{w w':World}{g:Cg}
def VJ{J:Nat->Prop}:∀{cs:List Value},A0 (W5 cs)=true->∀(j:Nat)(u:Value),cs[j]?=some u->∃ x,(W5 cs)[j]?=some x/\RepC J w x u
|[],_,j,u,d=>by simp at d
| v::r,e,j,u,d=>by
  have key:∃ x,pF v=x/\A0 (W5 r)=true/\RepC J w x v:=by
   rw[W5]at e
   have hr:=f8 (J:=fun _=>J) (β:=fun _=>none) (h:=[]) (w:=w) v
   cases hx:pF v<;>rw[hx]at e hr<;>simp[A0]at e<;>refine⟨_,rfl,e,?_⟩<;>(rw[Rep]at hr;rw[RepC];exact hr)
  obtain⟨x,hx,f,hr⟩:=key
  cases j with
  |zero=>simp at d;subst d;exact⟨x,by simp[W5,hx],hr⟩
  |succ j =>
   obtain⟨y,k,l⟩:=VJ (J:=J) (cs:=r) f j u (by simpa using d)
   exact⟨y,by simpa[W5]using k,l⟩
def D_:∀ cs:List Value,(W5 cs).length=cs.length
|[]=>rfl
|v::r=>by simp[W5,D_ r]
def KJ{t:TypeId}{z:LA}(e:rP P t=some z):∃ i v,P.info? t=some i/\i.zero=some v/\z=W5 v.cells.toList/\A0 z=true/\v.cells.size=i.size/\z.length=i.size:=by
 unfold rP at e
 obtain⟨i,hi,j⟩:=ub e
 obtain⟨v,k,l⟩:=ub j
 obtain⟨d,f⟩:=uc l
 simp at f d
 subst f
 exact⟨i,v,hi,k,rfl,d.1,by simpa using d.2,by rw[D_];simpa using d.2⟩
def vP{J:Nat->Prop}{v:Value}(t:A0 (W5 v.cells.toList)=true)(l n:Nat)(z:l*v.cells.size<=n):
  RepCs J w (Vy l (W5 v.cells.toList)) (fun j=>(madeCells v.cells n)[j]?) 0:=by
 rw[C9]
 intro j x k
 have e:(W5 v.cells.toList).length=v.cells.size:=by rw[D_];simp
 have d:j<l*(W5 v.cells.toList).length:=by
  have:=(A5t.1 k).1
  rwa [Wk]at this
 rw[Ads _ _ _ d]at k
 rw[e]at k d
 have f:0<v.cells.size:=by
  rcases A6w v.cells.size with m|m
  ·rw[m]at d;simp at d
  ·exact m
 have s:j%v.cells.size<v.cells.size:=A71 _ f
 obtain⟨y,q,u⟩:=VJ (w:=w) (J:=J) t (j%v.cells.size) v.cells[j%v.cells.size] (by simp[s])
 rw[k]at q;simp at q;subst q
 refine⟨_,?_,u⟩
 have:j<n:=by omega
 simp[madeCells,this,getElem!_pos,s]
def uv{d n cap sz:Nat}{x:Blk}{cs:Array Value}{ty:TypeId}{fr:Nat×Nat}(S:SimH J β h w)(hn:Aq h (nid d)=none)(t:x.dead=false)(hs:x.sealed=false)(q:x.sz=sz)
  (m:FrTy x.ty ty 0 cs.size fr) (e:x.cells.length=n*sz) (s:cap*sz<=cs.size) (f:n<=cap) (u:CellsRep J β h w x (fun j=>cs[j]?)) (k:x.mp=false:=by rfl) :
  OpDone J β h w [(nid d,some x)] (.own (nid d) 0 n) (.slice (some ⟨w.heap.size,0,none⟩) n cap) (w.alloc (.cells cs ty fr)):=by
 have v:n*sz<=cap*sz:=A5y _ f
 have A:=Step.new (ty:=ty) (fr:=fr) S hn t hs m (by omega) u k
 refine⟨_,_,A,?_⟩
 rw[Rep]
 refine⟨x,_,cap,⟨by simp[As,Ai],k⟩,rfl,f,.inr ⟨w.heap.size,0,rfl,.inr ⟨by simp,?_,by rw[q,e];omega⟩⟩⟩
 have l:(w.alloc (.cells cs ty fr)).heap[w.heap.size]?=some (.cells cs ty fr):=by show(w.heap.push _)[_]?=_;simp
 rw[J7 l,q];omega
def Ahc{d:Nat}{t:TypeId}{l c:AV}{vl vc:Value}{k:AV->J4->O R}(S:SimH J β h w)(f:Aa6 P d t l c k=some r)(q:Rep J β h w l vl)(s:Rep J β h w c vc):
  ∃ val ups,k val ups=some r/\(UpsFree d h ups->∃ u w',(Instr.makeSlice t vl vc).run P w=.ok u w'/\OpDone J β h w ups val u w'):=by
 unfold Aa6 at f
 split at f
 ·rename_i y l c A
  obtain⟨sz,hs,C⟩:=ub f
  obtain⟨by_,x,D⟩:=ub C
  obtain⟨z,F,G⟩:=ub D
  obtain⟨hq,I⟩:=uc G
  simp at hq
  obtain⟨L,M,V,X⟩:=hq
  rw[Rep]at q s;subst q s
  obtain⟨i,v,hi,T,rfl,j,e1,U⟩:=KJ F
  have e:i.size=sz:=by simp[C8,hi]at hs;exact hs
  have m:i.bytes=by_:=by simp[Ac8,hi]at x;exact x
  have n:Br (DX d true false sz (Vy l.toNat (W5 v.cells.toList))) (nid d)=true:=by simp[DX,Br]
  refine⟨_,_,I,fun hn=>⟨_,_,run_make w t y i v A hi T _ _ l c L M (by rw[m,Int.mul_comm];omega) (by omega),?_⟩⟩
  refine uv (sz:=sz) S (hn.nid n) rfl rfl rfl FrTy.un0 ?_ (by rw[size_madeCells,e];exact A49 _) (by omega) ⟨fun _=>?_,fun j=>by simp at j⟩
  ·show(Vy l.toNat (W5 v.cells.toList)).length=_
   rw[Wk,U,e]
  ·exact vP j _ _ (by rw[e1];exact A5y _ (by omega))
 ·simp at f
def Yield.src{sz n:Nat}{tx:TypeId}{vx:Value}{us:List Value}(Y:Yield P w sz vx n us)(d:Adg P tx=true)(j:∀ u∈us,u.oneCell'=true):Src P sz tx vx n us w:=by
 refine⟨?_,Y.len,?_,?_,Y.length,j⟩
 ·unfold Adg at d
  split at d
  ·rename_i e f;exact .inl ⟨e,f⟩
  ·rename_i f;exact .inr f
  ·simp at d
 ·have:=Y.cells w n (fun _=>rfl) (A49 _)
  rwa [<-Y.length,A6c]at this
 ·have:=Y.cells w.drew n (fun _=>rfl) (A49 _)
  rwa [<-Y.length,A6c]at this
def Adt{J:Nat->Prop}{a b:LA}{us vs:List Value}(k:RepCs J w a (fun j=>us[j]?) 0)(l:RepCs J w b (fun j=>vs[j]?) 0)(m:a.length=us.length)(tail:List Value):
  RepCs J w (a++b) (fun j=>(us++vs++tail)[j]?) 0:=by
 rw[C9]
 intro j x d
 rw[A6a]at d
 simp only[A5j]
 by_cases f:j<a.length
 ·rw[if_pos f]at d
  obtain⟨u,e,hr⟩:=k.at d
  refine⟨u,?_,hr⟩
  rw[A5e,A6a,if_pos (by omega)];exact e
 ·rw[if_neg f]at d
  obtain⟨u,e,hr⟩:=l.at d
  refine⟨u,?_,hr⟩
  have n:j - a.length<vs.length:=(A5t.1 e).1
  rw[A5e,A6a,if_neg (by omega),A6a,if_pos (by omega),<-m];exact e
def VK(w:World)(k:Nat):Bx w.drew k=Bx w k:=rfl
def vR{d sz n1 n2 cap0:Nat}{t tx ty e:TypeId}{i:TypeInfo}{z vx:Value}{A:Option Addr}{olds news:List Value}{c1 f:LA}{o:Bool}(S:SimH J β h w)(hn:Aq h (nid d)=none)
  (L:P.underlying t=some (.slice e)) (hi:P.info? e=some i) (M:i.zero=some z) (C:i.size=sz) (D:z.cells.size=sz)
  (l:∀ w':World,(∀ a,w'.cell? a=w.cell? a)->(Builtin.firstCells sz n1 (.slice A n1 cap0)).run P w'=.ok olds.toArray w') (s:olds.length=n1*sz)
  (Y:Yield P w sz vx n2 news) (T:Adg P tx=true) (U:∀ u∈news,u.oneCell'=true)
  (V:RepCs (J o) w c1 (fun j=>olds[j]?) 0) (v:c1.length=olds.length) (h2:RepCs (J o) w f (fun j=>news[j]?) 0) (F:f.length=news.length)
  (I:cap0<n1+n2) (hb1:n1+n2<=140737488355328) (G:(n1+n2)*i.bytes<=140737488355328) {X:Option (Nat×Nat)} (hX:∀ q,X=some q->q=(e,0)) :
  ∃ u w',(Builtin.append_ #[t,tx] ty #[.slice A n1 cap0,vx]).run P w=.ok u w' /\
   OpDone J β h w [(nid d,some {dead:=false,sealed:=false,pure:=true,taint:=o,sz:=sz,cells:=c1++f,ty:=X})] (.own (nid d) 0 (n1+n2)) u w'/\(∀ k,Bx w k<=Bx w' k):=by
 subst C
 have run:=run_append_grow_src (P:=P) w t tx ty e i z L hi M A n1 cap0 olds (l w.drew (fun _=>rfl)) vx n2 news (Y.src T U) I (by omega) (growslice_fits I G)
 have y:n1+n2<=grownCap w (n1+n2) cap0 e:=by
  unfold grownCap;simp[Question.cut]
 refine⟨_,_,run,?_,?_⟩
 ·obtain⟨J',β',B1,B2⟩:=uv (d:=d) (n:=n1+n2) (cap:=grownCap w (n1+n2) cap0 e) (sz:=i.size) (ty:=e) (fr:=(0,0)) (x:={dead:=false,sealed:=false,pure:=true,taint:=o,sz:=i.size,cells:=c1++f,ty:=X})
   (cs:=(olds++news).toArray++Builtin.zeroCells z.cells (grownCap w (n1+n2) cap0 e - (n1+n2))) (Step.drew S).sim hn rfl rfl rfl ⟨.inl rfl,fun t m hm=>by have:=hX _ hm;simp at this;exact⟨this.1.symm,rfl,.inl this.2⟩⟩
   (by simp[v,F,s,Y.length,A62]) (by
    simp[Builtin.zeroCells,s,Y.length,D]
    rw[<-A62,<-A62];exact A5y _ (by omega)) y
   ⟨fun _=>by
    have:=Adt V h2 v (Builtin.zeroCells z.cells (grownCap w (n1+n2) cap0 e - (n1+n2))).toList
    show RepCs (J o) w.drew (c1++f) _ 0
    refine RepCs.keep (J:=J o) (w:=w) (w':=w.drew) (fun _ hj=>hj) (fun _ _=>rfl) (fun j=>?_) this
    rw[<-A9m]
    simp,fun hp=>by simp at hp⟩
  exact⟨J',β',(Step.drew S).trans B1 (fun _ k _ _=>by rw[<-VK];exact W6 _ _ k),B2⟩
 ·intro k;rw[<-VK];exact W6 _ _ k
def fc{J:Bool->Nat->Prop}(e:∀ k,J false k->J true k)(a b:Bool)(k:Nat)(d:J a k):J (a||b) k:=by
 cases a
 ·cases b
  ·exact d
  ·exact e k d
 ·exact d
def vS{J:Bool->Nat->Prop}(d:∀ k,J false k->J true k)(a b:Bool)(k:Nat)(e:J b k):J (a||b) k:=by rw[A9e];exact fc d b a k e
def Ahd{d sz:Nat}{x:Blk}{A:Option Addr}(S:SimH J β h w)(hn:Aq h (nid d)=none)(f:x.cells=[])(e:x.mp=false:=by rfl):
  OpDone J β h w [(nid d,some x)] (.own (nid d) 0 0) (.slice A 0 0) w:=by
 refine⟨_,_,Step.newNone S hn f e,?_⟩
 rw[Rep]
 exact⟨x,A,0,⟨by simp[As,Ai],e⟩,rfl,A49 _,.inl rfl⟩
def Ahe{g:Cg}{d tx:TypeId}{s:AV}{q:Nat×Nat}(h:rV P g d tx s=some q):q=(d,0):=by
 unfold rV at h
 split at h
 ·split at h
  ·simp at h;exact h.symm
  ·cases h
 ·obtain⟨x,_,h⟩:=ub h
  obtain⟨y,_,h⟩:=ub h
  obtain⟨_,h⟩:=uc h
  simp at h;exact h.symm
 ·cases h
def Atl{g:Cg}{f tx b off n o m:Nat}{ty:TypeId}{y:Blk}(j:Ms g b=some y)(l:TyOk y.ty ty o m):TyOk (rV P g f tx (.own b off n)) ty (o+off) m:=by
 intro t k h
 have e:=Ahe h
 simp at e;obtain⟨rfl,rfl⟩:=e
 unfold rV at h
 simp only[j,A6s]at h
 obtain⟨q,hq,h⟩:=ub h
 obtain⟨d,_⟩:=uc h
 simp only[A47]at d
 have c1:=A5p d.1
 have u:=A5p d.2.1
 have v:=A5p d.2.2
 obtain⟨s,x,_⟩:=l q.1 q.2 hq
 exact⟨by rw[s,c1],by omega,.inl rfl⟩
def zO {d:Nat} {t tx ty:TypeId} {s x:AV} {vs vx:Value} {k:AV->J4->O R} (S:SimH J β h w) (hl:Looks g h) (hh:f4 P g d t tx s x k=some r) (hs:Rep J β h w s vs) (hx:Rep J β h w x vx) :
  ∃ val ups,k val ups=some r/\(UpsFree d h ups->∃ u w',(Builtin.append_ #[t,tx] ty #[vs,vx]).run P w=.ok u w'/\OpDone J β h w ups val u w'):=by
 unfold f4 at hh
 split at hh
 ·rename_i el hu
  obtain⟨ht,M⟩:=uc hh
  obtain⟨sz,hsz,h1⟩:=ub M
  obtain⟨by_,hby,h2⟩:=ub h1
  obtain⟨zz,hz,h3⟩:=ub h2
  obtain⟨old,l,h4⟩:=ub h3
  obtain⟨new,us,h5,Y,C,hur⟩:=VG (P:=P) S hl h4 hx
  obtain⟨hq,h6⟩:=uc h5
  simp at hq
  obtain⟨q1,q2⟩:=hq
  obtain⟨i,z,hi,hiz,rfl,hp,e1,e2⟩:=KJ hz
  have f:i.size=sz:=by simp[C8,hi]at hsz;exact hsz
  have hb':i.bytes=by_:=by simp[Ac8,hi]at hby;exact hby
  have m:=RepCs.one hur C.symm
  have I:RepCs (J (old.2.2.1||new.2.2)) w new.1 (fun j=>us[j]?) 0:=RepCs.keep (J:=J new.2.2) (w:=w) (vS S.jft _ _) (fun _ _=>rfl) (fun _=>rfl) hur
  refine⟨_,_,h6,fun hn=>?_⟩
  replace hn:=hn.nid (by simp[Lh,Br])
  have hX:∀ q,rV P g el tx s=some q->q=(el,0):=fun q=>Ahe
  have empty:∀(A:Option Addr),vs=.slice A 0 0->old.1=[]->old.2.1=0->old.2.2.2=[] ->
    ∃ u w',(Builtin.append_ #[t,tx] ty #[vs,vx]).run P w=.ok u w'/\OpDone J β h w (old.2.2.2++[(nid d,some {dead:=false,sealed:=false,pure:=true,taint:=old.2.2.1||new.2.2,sz,cells:=old.1++new.1,ty:=rV P g el tx s})]) (.own (nid d) 0 (old.2.1+new.2.1)) u w':=by
   intro A hA o1 o2 o3
   subst hA
   rw[o1,o2,o3]
   rcases A6w new.2.1 with M|M
   ·have hus:us=[]:=by have:=Y.length;rw[M]at this;simpa using this
    subst hus
    have D:=Y.src ht m
    rw[M]at D
    refine⟨_,_,run_append_nothing (P:=P) w t tx ty el i hu hi A 0 0 (A49 _) vx (by rw[f];exact D),?_⟩
    rw[M]
    have hnc:new.1=[]:=by simpa using C
    exact Ahd (sz:=sz) S hn (by simp[hnc])
   ·obtain⟨u,w',V,g2,_⟩:=vR (ty:=ty) (c1:=[]) (olds:=[]) (n1:=0) (cap0:=0) (A:=A) S hn hu hi hiz f (by rw[e1,f]) (fun w' _=>by
      cases A with
      |none=>exact run_firstCells_none (P:=P) w' sz 0 0 0
      | some a=>exact run_firstCells_some (P:=P) w' sz 0 a 0 0 [] (by simp) (fun j v L=>by simp at L)) (by simp) Y ht m (by simp[RepCs]) rfl I C (by omega) (by rw[o2] at q1;omega) (by rw[o2,<-hb'] at q2;exact q2) hX
    exact⟨u,w',V,g2⟩
  unfold Ao7 at l
  split at l
  ·simp at l;subst l
   rw[Rep]at hs
   exact empty none hs rfl rfl rfl
  ·rename_i c n sz' org
   obtain⟨hz0,h7⟩:=uc l
   simp at hz0 h7;subst hz0;subst h7
   rw[Rep,RepC]at hs
   obtain⟨_,A,cap,L,_,X,_⟩:=hs
   have:=X rfl;subst this
   exact empty A L rfl rfl rfl
  ·rename_i b off n
   obtain⟨y,hy,h7⟩:=ub l
   obtain⟨hc,h8⟩:=uc h7
   simp at hc h8
   obtain⟨c1,c2,c3⟩:=hc
   subst h8;subst c3
   obtain⟨hb,hd⟩:=Qp hl hy
   simp only at *
   rw[Rep]at hs
   obtain⟨y',A,cap,⟨hy1,hmp⟩,rfl,X,hr⟩:=hs
   rw[hb]at hy1;simp at hy1;subst hy1
   have kill:=Step.kill (y:={y with dead:=true,pure:=true,cells:=[]}) S hb rfl
   have hkn:Aq (Ja h b {y with dead:=true,pure:=true,cells:=[]}) (nid d)=none:=by
    rw[Ai,if_neg (fun e=>by rw[<-e,hn]at hb;cases hb)];exact hn
   have F:As [(b,none)] h=Ja h b {y with dead:=true,pure:=true,cells:=[]}:=by simp[As,hb]
   by_cases hc0:cap=0
   ·have hn0:n=0:=by omega
    subst hc0;subst hn0
    have S':=kill.sim
    rcases A6w new.2.1 with M|M
    ·have hus:us=[]:=by have:=Y.length;rw[M]at this;simpa using this
     subst hus
     have D:=Y.src ht m
     rw[M]at D
     refine⟨_,_,run_append_nothing (P:=P) w t tx ty el i hu hi A 0 0 (A49 _) vx (by rw[f];exact D),?_⟩
     rw[M]
     have hnc:new.1=[]:=by simpa using C
     refine OpDone.after (ups:=[(b,none)]) (by rw[F];exact kill) ?_ (fun _=>A49 _)
     rw[F]
     exact Ahd (sz:=y.sz) S' hkn (by simp[hnc])
    ·obtain⟨u,w',V,g2,g3⟩:=vR (ty:=ty) (c1:=[]) (olds:=[]) (n1:=0) (cap0:=0) (A:=A) S' hkn hu hi hiz f (by rw[e1,f]) (fun w' _=>by
       cases A with
       |none=>exact run_firstCells_none (P:=P) w' y.sz 0 0 0
       | some a=>exact run_firstCells_some (P:=P) w' y.sz 0 a 0 0 [] (by simp) (fun j v L=>by simp at L)) (by simp) Y ht m (by simp[RepCs]) rfl I C (by omega) (by omega) (by rw[<-hb'] at q2;exact q2) hX
     refine⟨u,w',V,OpDone.after (ups:=[(b,none)]) (by rw[F];exact kill) ?_ g3⟩
     rw[F];simpa[DX]using g2
   ·rcases hr with hr | ⟨kk,o,rfl,hr⟩
    ·exact absurd hr hc0
    ·rcases hr with hr|⟨r1,r2,r3⟩
     ·simp[hd]at hr
     ·rcases S.blk b y hb hd hmp with⟨hn',_⟩|⟨k',o',cs,ty',fr,hβ',V,g2,g3,g4,g5,g6⟩
      ·rw[r1]at hn';simp at hn'
      ·rw[r1]at hβ';simp at hβ';obtain⟨rfl,rfl⟩:=hβ'
       have hbs:=J7 V
       have T:=((g4.1 c1).drop off).take (n*y.sz)
       have U:((y.cells.drop off).take (n*y.sz)).length=n*y.sz:=by simp;omega
       by_cases G:n+new.2.1<=cap
       ·
        have hle:(n+new.2.1)*y.sz<=cap*y.sz:=A5y _ G
        rw[A62]at hle
        have run:=run_append_room_src (P:=P) w t tx ty el i hu hi kk (o+off) n cap vx new.2.1 us (by rw[f];exact Y.src ht m) G (fun j hj=>by
          rw[f,DZ V];have:=Y.length;simp;omega) (fun j hj=>by
          rw[f];simp only[World.frozen?,V]
          have h9:=Y.length
          have:=g2.1.at (o+off+n*y.sz+j) (by omega)
          cases fr;simp at this ⊢;omega)
        rw[f]at run
        obtain⟨cs',O,hO⟩:=OnlyBlk.setCells (k:=kk) us (o+off+n*y.sz) w cs V
        have h9:=Y.length
        have B:=Step.move (y:={y with dead:=true,pure:=true,cells:=[]}) (o':=o+off) (x':={dead:=false,sealed:=false,pure:=true,taint:=y.taint||new.2.2,sz:=y.sz,cells:=(y.cells.drop off).take (n*y.sz)++new.1,ty:=rV P g el tx (.own b off n)}) S hb hd c2 r1 hn rfl O rfl rfl
         (by rw[A41,U,C];omega) ⟨fun _=>by
          show RepCs (J (y.taint||new.2.2)) w ((y.cells.drop off).take (n*y.sz)++new.1) _ 0
          rw[C9]
          intro j q hj
          rw[A6a,U]at hj
          simp only[A5j]
          by_cases hjn:j<n*y.sz
          ·rw[if_pos hjn]at hj
           obtain⟨v,L,hvr⟩:=T.at hj
           refine⟨v,?_,RepC.keep (J:=J y.taint) (w:=w) (fc S.jft _ _) (fun _ _=>rfl) hvr⟩
           rw[hO,if_neg (by omega),A6l];exact L
          ·rw[if_neg hjn]at hj
           obtain⟨v,L,hvr⟩:=I.at hj
           refine⟨v,?_,hvr⟩
           have:j - n*y.sz<us.length:=(A5t.1 L).1
           rw[hO,if_pos (by omega),<-L];congr 1;omega,fun hp=>by simp at hp⟩ hmp (hty:=Atl (P:=P) (tx:=tx) (n:=n) hy g2.2)
        refine⟨_,_,run,J,(fun b=>if b=nid d then some (kk,o+off)else β b),?_,?_⟩
        ·rw[Dp,F];exact B
        ·rw[Dp,F,Rep]
         refine⟨_,_,cap,⟨by simp[DX,As,Ai];rfl,rfl⟩,rfl,G,.inr ⟨kk,o+off,rfl,.inr ⟨by simp,?_,?_⟩⟩⟩
         ·rw[J7 O.new,O.sz];simp;omega
         ·simp only[A41,U,C,h9,A5j];rw[A62];exact A49 _
       ·
        obtain⟨olds,l1,l2,l3⟩:=T.list
        obtain⟨u,w',g1',g2',g3'⟩:=vR (ty:=ty) (c1:=(y.cells.drop off).take (n*y.sz)) (olds:=olds) (n1:=n) (cap0:=cap) (A:=some ⟨kk,o+off,none⟩) kill.sim hkn hu hi hiz f (by rw[e1,f]) (fun w' he =>
          run_firstCells_some (P:=P) w' y.sz n _ n cap olds (by rw[l1,U]) (fun j v L=>by
           rw[he,Addr.add_mid,DZ V,A6l];exact l2 j v L)) (by rw[l1,U]) Y ht m
          (RepCs.keep (J:=J y.taint) (w:=w) (fc S.jft _ _) (fun _ _=>rfl) (fun _=>rfl) l3) l1.symm I C (by omega) (by omega) (by rw[<-hb']at q2;exact q2) hX
        refine⟨u,w',g1',OpDone.after (ups:=[(b,none)]) (by rw[F];exact kill) ?_ g3'⟩
        rw[F];exact g2'
  ·simp at l
 ·simp at hh
end
end Gx
namespace Gx
open Go
section
variable{R:Type}{r:R}{P:Program}{J J':Bool->Nat->Prop}{β:Dl}{h:A8}{w w':World}{g:Cg}
def Step.retaint(S:SimH J β h w){d:Nat}{x:Blk}(hx:Aq h d=some x)(v:x.dead=false)(hs:x.sealed=false)(hp:x.pure=true)(A:x.mp=false)(o:Bool):
  Step J β h w J β (Ja h d {x with taint:=x.taint||o}) w:=by
 have E:Ext J β h w J β (Ja h d {x with taint:=x.taint||o}) w:=by
  refine⟨fun _ _ t=>t,fun o k t=>rfl,fun b z f=>?_,fun b k o u=>A49 _⟩
  by_cases e:b=d
  ·subst e;rw[hx]at f;simp at f;subst f
   exact⟨{x with taint:=x.taint||o},⟨by rw[Ai,if_pos rfl],rfl⟩,.inr ⟨v,rfl,rfl,fun _=>rfl⟩⟩
  ·refine⟨z,⟨by rw[Ai,if_neg e];exact f,rfl⟩,?_⟩
   cases v:z.dead
   ·exact .inr ⟨rfl,rfl,rfl,fun _=>rfl⟩
   ·exact .inl rfl
 refine⟨E,⟨S.jlt,S.jft,S.gl.ext E,fun b z f j C=>?_,fun b z f j C=>by
   rw[Ai]at f
   by_cases e:b=d
   ·rw[if_pos e]at f;simp at f;subst f;simp[A]at C
   ·rw[if_neg e]at f
    exact(S.mblk b z f j C).keep rfl (fun k o u=>rfl) (fun _ _ _ _ t=>t),?_⟩,rfl,rfl,rfl,A49 _,fun k hk _=>rfl,?_,fun _ _ t=>.inl t⟩
 ·rw[Ai]at f
  by_cases e:b=d
  ·rw[if_pos e]at f;simp at f;subst f;subst e
   rcases S.blk b x hx v A with l|⟨k,o',m,n,q,l,D,F,G,I,L,h7⟩
   ·exact .inl l
   ·refine .inr ⟨k,o',m,n,q,l,D,F,G,CellsRep.ext E ⟨fun _=>?_,fun M=>?_⟩,fun _=>L hs,fun M=>by simp[hs]at M⟩
    ·exact RepCs.keep (J:=J x.taint) (w:=w) (fc S.jft _ _) (fun _ _=>rfl) (fun _=>rfl) (I.1 hp)
    ·simp[hp]at M
  ·rw[if_neg e]at f
   rcases S.blk b z f j C with l|⟨k,o,m,n,q,l,D,F,G,I,L,h7⟩
   ·exact .inl l
   ·exact .inr ⟨k,o,m,n,q,l,D,F,G,I.ext E,L,h7⟩
 ·intro b b' z z' k oo T f U V X s u Y
  have get:∀{c y},Aq (Ja h d {x with taint:=x.taint||o}) c=some y->y.dead=false->∃ y',Aq h c=some y'/\y'.dead=false/\(y.sealed=false->y'.sealed=false):=by
   intro c y hc hyd
   rw[Ai]at hc
   by_cases e:c=d
   ·subst e;exact⟨x,hx,v,fun _=>hs⟩
   ·rw[if_neg e]at hc;exact⟨y,hc,hyd,id⟩
  obtain⟨y1,g1,g2,g3⟩:=get f V
  obtain⟨y2,g4,g5,g6⟩:=get U X
  exact S.sep b b' y1 y2 k oo T g1 g4 g2 g5 (g3 s) u Y
 ·rintro k ⟨b,z,o,f,j,s,u⟩ hk
  rw[Ai]at f
  by_cases e:b=d
  ·subst e;exact⟨b,x,o,hx,v,hs,u⟩
  ·rw[if_neg e]at f
   exact⟨b,z,o,f,j,s,u⟩
def Alx(c:LA)(off:Nat):Gh c off []=c:=by simp[Gh]
def Ahf {t tx ty:TypeId} {s x:AV} {vs vx:Value} {k:AV->J4->O R} (S:SimH J β h w) (hl:Looks g h) (U:Aa7 P g t s x k=some r) (hs:Rep J β h w s vs) (hx:Rep J β h w x vx) :
  ∃ val ups,k val ups=some r/\∃ u w',(Builtin.copy_ #[t,tx] ty #[vs,vx]).run P w=.ok u w'/\OpDone J β h w ups val u w':=by
 unfold Aa7 at U
 split at U
 ·rename_i el b off n v
  obtain⟨sz,l,h1⟩:=ub U
  obtain⟨y,hy,h2⟩:=ub h1
  obtain⟨new,us,h3,Y,V,z⟩:=VG (P:=P) S hl h2 hx
  obtain⟨hb,X⟩:=Qp hl hy
  cases C:(y.pure&&(!y.sealed&&beq sz y.sz))with
  |false=>rw[C]at h3;cases h3
  |true =>
  rw[C]at h3
  have h4:=h3
  simp only[cond_true]at h4
  have hc:=C
  simp at hc
  obtain⟨c1,c2,c3⟩:=hc
  subst c3
  have hone:=RepCs.one z V.symm
  refine⟨_,_,h4,?_⟩
  rw[Rep]at hs
  obtain⟨y',A,cap,⟨D,F⟩,rfl,hcap,hr⟩:=hs
  rw[hb]at D;simp at D;subst D
  have hm:Nat.min new.2.1 n<=new.2.1:=Nat.min_le_left _ _
  have d:=Y.cells w (Nat.min new.2.1 n) (fun _=>rfl) hm
  have f:=Y.len w
  by_cases G:Nat.min new.2.1 n*y.sz=0
  ·
   refine⟨.int .i64 (Nat.min new.2.1 n:Nat),w,?_,J,β,?_,by rw[Rep]⟩
   ·have e:us.take (Nat.min new.2.1 n*y.sz)=[]:=by rw[G];rfl
    rw[e]at d
    cases A with
    |none=>simp[Builtin.copy_,run_underlying v,f,F0 l,d,goInt]
    |some a=>simp[Builtin.copy_,run_underlying v,f,F0 l,d,goInt,storeCells]
   ·have e:(new.1.take (min new.2.1 n*y.sz))=[]:=by
     have:min new.2.1 n*y.sz=0:=G
     rw[this];rfl
    have T:=Step.retaint S hb X c2 c1 F new.2.2
    simp only[As]
    rw[e,Alx]
    exact T
  ·rcases hr with hr|⟨kk,o,rfl,hr⟩
   ·have:n=0:=by omega
    subst this;simp at G
   ·rcases hr with hr|⟨r1,r2,r3⟩
    ·simp[X]at hr
    ·rcases S.blk b y hb X F with⟨hn',_⟩|⟨k',o',cs,ty',fr,I,g1,g2,g3,g4,g5,g6⟩
     ·rw[r1]at hn';simp at hn'
     ·rw[r1]at I;simp at I;obtain⟨rfl,rfl⟩:=I
      have hle1:Nat.min new.2.1 n*y.sz<=new.2.1*y.sz:=A5y _ hm
      have hle2:Nat.min new.2.1 n*y.sz<=n*y.sz:=A5y _ (Nat.min_le_right _ _)
      have hul':=Y.length
      have htl:(us.take (Nat.min new.2.1 n*y.sz)).length=Nat.min new.2.1 n*y.sz:=by rw[A58];omega
      have htl':(new.1.take (Nat.min new.2.1 n*y.sz)).length=Nat.min new.2.1 n*y.sz:=by rw[A58];omega
      obtain⟨cs',O,hO⟩:=OnlyBlk.setCells (k:=kk) (us.take (Nat.min new.2.1 n*y.sz)) (o+off) w cs g1
      have hst:=run_storeCells_cells (P:=P) kk (o+off) (us.take (Nat.min new.2.1 n*y.sz)) 0 w (fun j M=>by
        rw[A7k,DZ g1];simp;omega)
       (fun j M=>by
        rw[A7k];simp only[World.frozen?,g1]
        have:=g2.1.at (o+off+j) (by omega)
        cases fr;simp at this ⊢;omega) (fun u v=>hone u (A8l v))
      simp only[A7k]at hst
      have B:=Step.set (x':={ y with cells:=Gh y.cells off (new.1.take (Nat.min new.2.1 n*y.sz)),taint:=y.taint||new.2.2 }) S hb X c2 r1 O X c2 rfl (QQ (by omega)) ⟨fun _=>by
       show RepCs (J (y.taint||new.2.2)) w (Gh y.cells off (new.1.take (Nat.min new.2.1 n*y.sz))) _ 0
       rw[C9]
       intro j q M
       rw[jy (by omega),htl']at M
       simp only[A5j]
       split at M
       ·obtain⟨u,L,hr⟩:=(z.take _).at M
        refine⟨u,?_,RepC.keep (J:=J new.2.2) (w:=w) (vS S.jft _ _) (fun _ _=>rfl) hr⟩
        rw[hO,if_pos (by omega),A7f,if_pos (by omega),<-L];congr 1;omega
       ·obtain⟨u,L,hr⟩:=(g4.1 c1).at M
        refine⟨u,?_,RepC.keep (J:=J y.taint) (w:=w) (fc S.jft _ _) (fun _ _=>rfl) hr⟩
        rw[hO,if_neg (by omega)];exact L,fun hp=>by simp[c1] at hp⟩ F
      refine⟨.int .i64 (Nat.min new.2.1 n:Nat),_,?_,J,β,B,by rw[Rep]⟩
      simp[Builtin.copy_,run_underlying v,f,F0 l,d,goInt,hst]
 ·rename_i el v
  obtain⟨sz,l,h1⟩:=ub U
  obtain⟨new,us,h2,Y,V,z⟩:=VG (P:=P) S hl h1 hx
  rw[Rep]at hs;subst hs
  have f:=Y.len w
  have d:=Y.cells w 0 (fun _=>rfl) (A8f _)
  simp at d
  refine⟨_,_,h2,.int .i64 0,w,?_,J,β,Step.refl S,by rw[Rep]⟩
  have hm:∀ m:Nat,Nat.min m 0=0:=fun m=>Nat.min_eq_right (A8f _)
  simp[Builtin.copy_,run_underlying v,f,F0 l,hm,d,goInt]
 ·simp at U
def jI:∀{c:LA}{s:Lu}{us:List Value}{J:Nat->Prop},CB c=some s->RepCs J w c (fun j=>us[j]?) 0->c.length=us.length ->
  ∃ ns:List Int,us=ns.map (Value.int .u8)/\s=ns.map (fun n=>UInt8.ofNat n.toNat)
|[],s,us,J,k,q,t=>by
  simp[CB]at k;subst k
  have:us=[]:=by cases us<;>simp_all
  exact⟨[],by simp[this],rfl⟩
| x::r,s,us,J,k,q,t=>by
  rw[CB]at k
  obtain⟨b,d,F⟩:=ub k
  obtain⟨l,z,C⟩:=ub F
  simp at C;subst C
  cases us with
  |nil=>simp at t
  | cons u us =>
   rw[RepCs]at q
   obtain⟨⟨M,m,hr⟩,e⟩:=q
   simp at m;subst m
   unfold Alq at d
   split at d
   ·rename_i n
    simp at d;subst d
    rw[RepC]at hr;subst hr
    have f:RepCs J w r (fun j=>us[j]?) 0:=by
     rw[C9]at e ⊢
     intro j y G
     obtain⟨v,D,A⟩:=e j y G
     refine⟨v,?_,A⟩
     rw[show 0+1+j=j+1 by omega]at D
     simpa using D
    obtain⟨ns,I,L⟩:=jI z f (by simpa using t)
    exact⟨n::ns,by simp[I],by simp[L]⟩
   ·simp at d
def Atm:∀(ns:List Int)(s:Lu),(ns.foldl (fun r n=>r.push (UInt8.ofNat n.toNat)) (⟨⟨s⟩⟩:ByteArray))=⟨⟨s++ns.map fun n=>UInt8.ofNat n.toNat⟩⟩
|[],s=>by simp
| n::r,s=>by
  rw[A53]
  have:(⟨⟨s⟩⟩:ByteArray).push (UInt8.ofNat n.toNat)=⟨⟨s++[UInt8.ofNat n.toNat]⟩⟩:=by
   simp[ByteArray.push]
  rw[this,Atm r];simp
def Ahg {d:Nat} {src dst:TypeId} {x:AV} {vx:Value} {k:AV->J4->O R} (S:SimH J β h w) (hl:Looks g h) (f:Aa8 P g d src dst x k=some r) (hx:Rep J β h w x vx) :
  ∃ val ups,k val ups=some r/\(UpsFree d h ups->∃ u w',(convert src dst vx).run P w=.ok u w'/\OpDone J β h w ups val u w'):=by
 unfold Aa8 at f
 split at f
 ·rename_i kd v
  split at f
  ·rename_i kd' n
   rw[Rep]at hx;subst hx
   obtain⟨z,L⟩:=uc f
   obtain⟨s,hs⟩:=A87.1 z
   refine⟨_,_,L,fun _=>⟨.int kd (kd.wrap n),w,?_,J,β,Step.refl S,by rw[Rep]⟩⟩
   cases s<;>simp[convert,run_underlying hs,run_underlying v,Conv.intToInt]
  ·simp at f
 ·rename_i v
  split at f
  ·rename_i hs
   split at f
   ·rename_i s
    rw[Rep]at hx;subst hx
    refine⟨_,_,f,fun _=>⟨.string ⟨⟨s⟩⟩,w,?_,J,β,Step.refl S,by rw[Rep]⟩⟩
    simp[convert,run_underlying hs,run_underlying v]
   ·simp at f
  ·rename_i t hs
   split at f
   ·rename_i M
    split at f
    ·simp at f
    ·rename_i hns
     obtain⟨q,hq,L⟩:=ub f
     obtain⟨s,hs',h2⟩:=ub L
     obtain⟨us,Y,hul,hur⟩:=r6 (P:=P) S hl hq hx
     obtain⟨ns,e1,e2⟩:=jI hs' hur hul
     refine⟨_,_,h2,fun _=>⟨.string ⟨⟨s⟩⟩,w,?_,J,β,Step.refl S,by rw[Rep]⟩⟩
     have hv:∃ A n cap,vx=.slice A n cap:=by
      unfold jB at hq
      split at hq
      ·rw[Rep]at hx;exact⟨_,_,_,hx⟩
      ·rw[Rep,RepC]at hx;obtain⟨_,A,cap,rfl,_⟩:=hx;exact⟨_,_,_,rfl⟩
      ·rw[Rep]at hx;obtain⟨_,A,cap,_,rfl,_⟩:=hx;exact⟨_,_,_,rfl⟩
      ·exact absurd rfl (hns _)
      ·simp at hq
     obtain⟨A,n,cap,rfl⟩:=hv
     have hn:q.2.1=n:=by have:=Y.len w;simpa[Builtin.lenOf]using this.symm
     have G:=Y.cells w n (fun _=>rfl) (by omega)
     have T:=Y.length
     rw[hn]at T
     rw[show us.take (n*1)=us by rw[<-T,A6c]]at G
     have C:(convert src dst (.slice A n cap)).run P w=(Conv.bytesToString (.slice A n cap)).run P w:=by
      cases A<;>simp[convert,run_underlying hs,run_underlying v,run_underlying M]
     rw[C]
     cases A with
     |none =>
      rw[run_firstCells_none]at G
      injection G with hc1 _
      have hus:us=[]:=by simpa using hc1.symm
      rw[hus]at e1
      have U:ns=[]:=by simpa using e1.symm
      rw[U]at e2
      simp at e2;subst e2
      simp[Conv.bytesToString];rfl
     |some a =>
      simp only[Builtin.firstCells,A5m]at G
      rw[e1]at G
      rw[run_bytesToString w a n cap ns G,e2]
      have:=Atm ns []
      simp at this
      rw[<-this];rfl
   ·simp at f
  ·simp at f
 ·rename_i t v
  split at f
  ·rename_i e' b off n hs M
   obtain⟨l,L⟩:=uc f
   simp only[A47]at l
   obtain⟨l,V⟩:=l
   have V:1<=n:=by simpa using V
   have l:=A5p l
   subst l
   have hee:e'=t:=by rw[hs]at v;simpa using v
   subst hee
   obtain⟨x,m,h2⟩:=ub L
   obtain⟨hsl,h3⟩:=Alu h2
   obtain⟨m,hd⟩:=Qp hl m
   refine⟨_,_,h3,fun _=>?_⟩
   have hx':=hx
   rw[Rep]at hx
   obtain⟨x0,A,cap,⟨D,X⟩,rfl,hle,hr⟩:=hx
   rw[m]at D;simp at D;subst D
   rcases hr with hr|⟨k1,o1,rfl,hr⟩
   ·omega
   ·rcases hr with hr|⟨hβ,_,_⟩
    ·simp[hd]at hr
    ·rcases S.blk b x m hd X with⟨I,_⟩|⟨k2,o2,cs,ty,fr,I,h5,h6,h7,h8,h9,h10⟩
     ·rw[hβ]at I;simp at I
     ·rw[hβ]at I;simp at I;obtain⟨rfl,rfl⟩:=I
      have hsh:w.shape? k1=some (ty,cs.size):=by simp[World.shape?,h5]
      have hnew:∃ F,(w.freeze ⟨k1,cs.size,none⟩ 1).heap[k1]?=some (.cells cs ty F)/\FrOk cs.size F:=by
       obtain⟨lo,hi⟩:=fr
       refine⟨if lo==hi then(cs.size,cs.size+1)else(min lo cs.size,max hi (cs.size+1)),?_,?_⟩
       ·simp[World.freeze,A78,h5]
       ·by_cases e:lo=hi
        ·simp[e,FrOk]
        ·have h11:cs.size<=lo:=by rcases h6 with h6|h6;exact absurd h6 e;exact h6
         simp[e,FrOk];omega
      obtain⟨F,hf1,hf2⟩:=hnew
      have A:=Step.mark S m hd hsl hβ h5 hf1 hf2 (fun j y=>by
       simp only[World.freeze]
       rw[if_neg (by decide)]
       show(w.heap.modify k1 _)[j]?=_
       rw[A78,if_neg (fun e=>y e.symm)]) (by simp[World.freeze]) rfl rfl rfl X
      refine⟨_,w.freeze ⟨k1,cs.size,none⟩ 1,?_,J,β,A,Rep.ext A.ext hx'⟩
      simp[convert,run_underlying hs,run_underlying M,markStringish,hsh]
  ·rename_i s hs M
   rw[Rep]at hx;subst hx
   refine⟨_,_,f,fun hn=>⟨_,_,run_bytes_of_string (P:=P) w src dst t ⟨⟨s⟩⟩ hs v M,?_⟩⟩
   replace hn:=hn.nid (by simp[DX,Br])
   have hsz:(⟨⟨s⟩⟩:ByteArray).size=s.length:=rfl
   have hcap:s.length<=grownCap w s.length 0 t:=by unfold grownCap;simp[Question.cut]
   rw[hsz]
   obtain⟨J',β',B1,B2⟩:=uv (d:=d) (n:=s.length) (cap:=grownCap w s.length 0 t) (sz:=1) (ty:=t) (fr:=((bytesRow ⟨⟨s⟩⟩ (grownCap w s.length 0 t)).size,(bytesRow ⟨⟨s⟩⟩ (grownCap w s.length 0 t)).size+1))
    (x:={dead:=false,sealed:=false,pure:=true,taint:=false,sz:=1,cells:=s.map fun b=>.int .u8 (b.toNat:Int)})
    (cs:=bytesRow ⟨⟨s⟩⟩ (grownCap w s.length 0 t)) (Step.drew S).sim hn rfl rfl rfl (FrOk.un (.inr (A49 _))) (by simp) (by simp[bytesRow,hsz];omega) hcap
    ⟨fun _=>by
     show RepCs (J false) w.drew (s.map fun b=>.int .u8 (b.toNat:Int)) _ 0
     rw[C9]
     intro j q y
     rw[A7c]at y
     cases hb:s[j]? with
     |none=>rw[hb]at y;simp at y
     |some b =>
      rw[hb]at y;simp at y;subst y
      refine⟨.int .u8 (b.toNat:Int),?_,by rw[RepC]⟩
      have hlt:j<s.length:=(A5t.1 hb).1
      simp only[A5j,bytesRow]
      rw[A79 (by simp;exact hlt)]
      simp[hb],fun hp=>by simp at hp⟩
   exact⟨J',β',(Step.drew S).trans B1 (fun _ k _ _=>by rw[<-VK];exact W6 _ _ k),B2⟩
  ·simp at f
 ·simp at f
end
end Gx
namespace Gx
open Go
def aE(CR:AV->Value->Prop)(c:LA)(cs:List Value):Prop:=c.length=cs.length/\∀(j:Nat)(x:AV)(u:Value),c[j]?=some x->cs[j]?=some u->CR x u
def PartsRel(CR:AV->Value->Prop):List (Nat×LA)->List (Nat×Value)->Prop
|[],vs=>vs=[]
|(i,c)::r,vs=>∃ v vs',vs=(i,v)::vs'/\aE CR c v.cells.toList/\PartsRel CR r vs'
def Ape:∀(vs:List Value)(n off:Nat)(cells:Array Value)(j:Nat),
  ((vs.zipIdx n).foldl (fun(cs:Array Value)(p:Value×Nat)=>cs.setIfInBounds (off+p.2) p.1) cells)[j]?=if off+n<=j/\j<off+n+vs.length/\j<cells.size then vs[j - (off+n)]? else cells[j]?
|[],n,off,cells,j=>by simp;omega
| v::r,n,off,cells,j=>by
  rw[List.zipIdx_cons,A53,Ape r (n+1) off]
  simp only[A84,A42]
  by_cases e:j=off+n
  ·subst e
   rw[if_neg (by omega)]
   by_cases d:off+n<cells.size
   ·rw[if_pos (by omega)];simp[d]
   ·rw[if_neg (by omega)];simp[d]
  ·by_cases d:off+(n+1)<=j/\j<off+(n+1)+r.length/\j<cells.size
   ·rw[if_pos d,if_pos (by omega),show j - (off+n)=(j - (off+(n+1)))+1 by omega];simp
   ·rw[if_neg d,if_neg (by omega),A8h (by omega)]
def lx:∀(vs:List Value)(n off:Nat)(cells:Array Value),((vs.zipIdx n).foldl (fun(cs:Array Value)(p:Value×Nat)=>cs.setIfInBounds (off+p.2) p.1) cells).size=cells.size
|[],_,_,_=>rfl
|v::r,n,off,cells=>by rw[List.zipIdx_cons,A53,lx r];simp
def SF{CR:AV->Value->Prop}{place:Nat->Option (Nat×Nat)}:∀{parts:List (Nat×LA)}{vparts:List (Nat×Value)}{c n:LA}{cs:Array Value},PartsRel CR parts vparts->aE CR c cs.toList ->
  Z2 place parts c=some n->∃ d,Instr.fill place cs vparts=some d/\aE CR n d.toList
|[],vparts,c,n,cs,k,s,l=>by
  rw[PartsRel]at k;subst k
  simp[Z2]at l;subst l
  exact⟨cs,rfl,s⟩
| (i,vs)::r,vparts,c,n,cs,k,s,l=>by
  rw[PartsRel]at k
  obtain⟨v,A,rfl,y,hr⟩:=k
  rw[Z2]at l
  obtain⟨p,t,C⟩:=ub l
  obtain⟨z,D⟩:=uc C
  simp at z
  obtain⟨S,T⟩:=z
  have e1:vs.length=v.cells.size:=by have:=y.1;simpa using this
  have G:c.length=cs.size:=by have:=s.1;simpa using this
  have m:p.1+vs.length<=c.length:=by omega
  have key:aE CR (setCells c p.1 vs) (v.cells.zipIdx.foldl (fun(cs:Array Value)(q:Value×Nat)=>cs.setIfInBounds (p.1+q.2) q.1) cs).toList:=by
   have e:v.cells.zipIdx.foldl (fun(cs:Array Value)(q:Value×Nat)=>cs.setIfInBounds (p.1+q.2) q.1) cs=(v.cells.toList.zipIdx 0).foldl (fun(cs:Array Value)(q:Value×Nat)=>cs.setIfInBounds (p.1+q.2) q.1) cs:=by
    rw[<-Array.foldl_toList];simp
   rw[e]
   refine⟨by rw[F' m,G];exact(lx _ 0 _ _).symm,fun j x u hx f=>?_⟩
   rw[VH m]at hx
   rw[A9m,Ape]at f
   simp only[A7k,A8r]at f
   split at hx
   ·rename_i I
    rw[if_pos (by omega)]at f
    exact y.2 _ x u hx f
   ·rename_i I
    rw[if_neg (by omega)]at f
    exact s.2 j x u hx (by simpa using f)
  obtain⟨d,L,M⟩:=SF hr key D
  refine⟨d,?_,M⟩
  rw[Instr.fill,t]
  have:¬ (v.cells.size≠p.2||p.1+v.cells.size>cs.size)=true:=by simp;omega
  simp only[this]
  exact L
section
variable{R:Type}{r:R}{P:Program}{J J':Bool->Nat->Prop}{β:Dl}{h:A8}{w w':World}{g:Cg}
def RepParts(J:Bool->Nat->Prop)(β:Dl)(h:A8)(w:World):List (Nat×AV)->List (Nat×Value)->Prop
|[],vs=>vs=[]
|(i,x)::r,vs=>∃ v vs',vs=(i,v)::vs'/\Rep J β h w x v/\RepParts J β h w r vs'
def RepParts.ext{β':Dl}{h':A8}(E:Ext J β h w J' β' h' w'):∀{ps:List (Nat×AV)}{vs:List (Nat×Value)},RepParts J β h w ps vs->RepParts J' β' h' w' ps vs
|[],_,hr=>hr
|(i,x)::r,vs,hr=>by
  rw[RepParts]at hr ⊢
  obtain⟨v,d,e,f,j⟩:=hr
  exact⟨v,d,e,Rep.ext E f,RepParts.ext E j⟩
def PartsRel.mono{CR CR':AV->Value->Prop}(f:∀ x u,CR x u->CR' x u):∀{ps:List (Nat×LA)}{vs:List (Nat×Value)},PartsRel CR ps vs->PartsRel CR' ps vs
|[],_,hr=>hr
|(i,c)::r,vs,hr=>by
  rw[PartsRel]at hr ⊢
  obtain⟨v,d,e,k,l⟩:=hr
  exact⟨v,d,e,⟨k.1,fun j x u hx m=>f _ _ (k.2 j x u hx m)⟩,PartsRel.mono f l⟩
def QR{J:Nat->Prop}{c:LA}{us:List Value}(e:RepCs J w c (fun j=>us[j]?) 0)(f:c.length=us.length):aE (RepC J w) c us :=
 ⟨f,fun j x u hx k=>by
  obtain⟨l,d,hr⟩:=e.at hx
  rw[k] at d;simp at d;subst d;exact hr⟩
def QS{J:Nat->Prop}{c:LA}{us:List Value}(d:aE (RepC J w) c us):RepCs J w c (fun j=>us[j]?) 0:=by
 rw[C9]
 intro j x hx
 have:j<us.length:=by rw[<-d.1];exact(A5t.1 hx).1
 exact⟨us[j],by simp[this],d.2 j x _ hx (A46 this)⟩
def GA:∀{ps:List (Nat×AV)}{vs:List (Nat×Value)}{q:List (Nat×LA)}{ups:J4}{org:Bool}{J:Bool->Nat->Prop}{h:A8},SimH J β h w->LooksS g h->JR g ps=some (q,ups,org)->RepParts J β h w ps vs ->
  ∃ J',Step J β h w J' β (As ups h) w/\PartsRel (RepC (J' org) w) q vs/\LooksS g (As ups h)/\∀ b,Br ups b=true->∃ x,g b=some x
|[],vs,q,ups,org,J,h,S,l,d,e=>by
  simp[JR]at d;obtain⟨rfl,rfl,rfl⟩:=d
  rw[RepParts]at e
  exact⟨J,Step.refl S,by rw[PartsRel];exact e,l,fun b f=>by simp[Br]at f⟩
| (i,x)::r,vs,q,ups,org,J,h,S,l,d,e=>by
  rw[JR]at d
  obtain⟨⟨c1,u1,o1⟩,D,I⟩:=ub d
  obtain⟨⟨L,u2,o2⟩,hq,F⟩:=ub I
  simp at F
  obtain⟨rfl,rfl,rfl⟩:=F
  rw[RepParts]at e
  obtain⟨v,m,rfl,n,s⟩:=e
  obtain⟨J1,A,hA,j,t⟩:=YV S l D n
  obtain⟨J2,B,hB,y,z⟩:=GA A.sim t hq (RepParts.ext A.ext s)
  refine⟨J2,by rw[Dp];exact A.trans B (fun _ _ _ _=>A49 _),?_,by rw[Dp];exact y,fun b f=>?_⟩
  ·rw[PartsRel]
   refine⟨v,m,rfl,QR (RepCs.keep (J:=J1 o1) (w:=w) (fun k C=>fc B.sim.jft _ _ k (B.ext.jsub _ k C)) (fun _ _=>rfl) (fun _=>rfl) hA) j,?_⟩
   exact PartsRel.mono (fun x u hx=>RepC.keep (J:=J2 o2) (w:=w) (fun k C=>vS B.sim.jft _ _ k C) (fun _ _=>rfl) hx) hB
  ·rw[Lh]at f
   cases G:Br u1 b with
   |true=>exact zN D b G
   |false=>rw[G]at f;exact z b (by simpa using f)
def EA{place:Nat->Option (Nat×Nat)}{k:LA->O R}:∀(ps:List (Nat×LA))(c:LA),rT place ps c k=(Z2 place ps c).bind k
|[],c=>rfl
|(i,vs)::r,c=>by
  rw[rT,Z2,A5a]
  congr 1;funext p
  rw[EA r]
  cases (beq vs.length p.2&&ble (p.1+p.2) c.length)<;>rfl
def ly{d len:Nat}{t:TypeId}{ps:List (Nat×AV)}{vs:List (Nat×Value)}{k:AV->J4->O R}(S:SimH J β h w)(X:Looks g h)(y:Xr P g d t len ps k=some r)(hv:RepParts J β h w ps vs):
  ∃ val ups,k val ups=some r/\(UpsFree d h ups->∃ u w',(Instr.buildSlice t len vs.toArray).run P w=.ok u w'/\OpDone J β h w ups val u w'):=by
 unfold Xr at y
 split at y
 ·rename_i el Y
  obtain⟨sz,e,h1⟩:=ub y
  obtain⟨zz,hz,h2⟩:=ub h1
  obtain⟨⟨q,u1,o1⟩,hq,h3⟩:=ub h2
  obtain⟨hb,h4⟩:=uc h3
  rw[EA]at h4
  obtain⟨cells,hc,h5⟩:=ub h4
  simp at hb
  obtain⟨i,z,hi,D,rfl,G,e1,e2⟩:=KJ hz
  have f:i.size=sz:=by simp[C8,hi]at e;exact e
  refine⟨_,_,h5,fun hn=>?_⟩
  replace hn:=hn.nid (by simp[Lh,DX,Br])
  obtain⟨J1,A,hA,_,n⟩:=GA S X.s hq hv
  have I:=vP (w:=w) (J:=J1 o1) G len (len*sz) (by rw[e1,f];exact A49 _)
  have L:aE (RepC (J1 o1) w) (Vy len (W5 z.cells.toList)) (madeCells z.cells (len*sz)).toList:=by
   refine QR (RepCs.keep (J:=J1 o1) (w:=w) (fun _ M=>M) (fun _ _=>rfl) (fun j=>by simp) I) ?_
   rw[Wk,e2,f,A8r,size_madeCells]
  obtain⟨l,f1,f2⟩:=SF hA L hc
  have v:cells.length=len*sz:=by
   have:∀{ps:List (Nat×LA)}{c C:LA},Z2 (fun i=>some (i*sz,sz)) ps c=some C->C.length=c.length:=by
    intro ps
    induction ps with
    |nil=>intro c C x;simp[Z2]at x;rw[x]
    |cons p r ih =>
     intro c C x
     obtain⟨i,vs⟩:=p
     rw[Z2]at x
     obtain⟨p,hpl,g1⟩:=ub x
     obtain⟨gb,g2⟩:=uc g1
     simp at gb
     rw[ih g2,F' (by omega)]
   rw[this hc,Wk,e2,f]
  have hcs:l.size=len*sz:=by have:=f2.1;simp at this;omega
  refine⟨.slice (some ⟨w.heap.size,0,none⟩) len len,w.alloc (.cells l el),?_,?_⟩
  ·have m:Instr.fill (fun i=>some (i*sz,sz)) ((Array.range (len*sz)).map (z.cells[·%z.cells.size]!)) vs=some l:=f1
   have T:¬ (16777216<len*sz):=by omega
   by_cases U:len*sz=0
   ·have V:∀(a:Array Value),(Array.range (len*sz)).map (a[·%a.size]!)=#[]:=fun a=>by rw[U];simp[Array.range_zero']
    rw[V]at m
    simp[Instr.buildSlice,run_underlying Y,F0 e,U,Array.range_zero',m,newRow]
   ·simp[Instr.buildSlice,run_underlying Y,F0 e,T,U,zeroValue,typeInfo,hi,D,m,newRow]
  ·refine OpDone.after A (uv (sz:=sz) (fr:=(0,0)) A.sim (Apd X n hn) rfl rfl rfl FrTy.un0 v (by omega) (A49 _) ⟨fun _=>?_,fun G=>by simp at G⟩) (W6 _ _)
   have:=QS f2
   exact RepCs.keep (J:=J1 o1) (w:=w) (fun _ M=>M) (fun _ _=>rfl) (fun j=>by simp) this
 ·simp at y
def jz{t:TypeId}{ps:List (Nat×AV)}{k:AV->O R}:Adf P t ps k=(Ade P t ps).bind k:=by
 unfold Adf Ade
 rw[A5a]
 congr 1;funext place
 cases (ps.all fun p=>bL p.2)with
|false=>rfl
| true =>
  simp only[cond_true]
  cases (ps.any fun p=>VA p.2)with
  | true =>
   simp only[cond_true]
   cases (ps.any fun p=>vG p.2)with
   |true =>
    simp only[cond_true]
    rw[A5a]
    congr 1;funext z
    rw[EA]
    cases Z2 place (On ps) z<;>rfl
   |false =>
    simp only[cond_false]
    rw[A5a]
    congr 1;funext z
    rw[EA]
    cases Z2 place (Iw ps) z<;>rfl
  |false =>
   simp only[cond_false]
   rw[A5a]
   congr 1;funext z
   rw[EA]
   cases Z2 place (Iw ps) z<;>rfl
def CH{d:Nat}:∀{l:List (Nat×Nat)}{j:Nat}{c:LA}{cs:List Value}{β:Dl}{h:A8},SimH J β h w->1<=j->j+l.length<=16->(∀ i,j<=i->i<16->Br (Jj d l j c).2 (nid d+i)=true->Aq h (nid d+i)=none)->Reps J β h w c cs ->
  ∃ β',Step J β h w J β' (As (Jj d l j c).2 h) w/\Reps J β' (As (Jj d l j c).2 h) w (Jj d l j c).1 cs
|[],j,c,cs,β,h,S,_,_,_,hr=>⟨β,Step.refl S,hr⟩
| (o,sz)::l,j,c,cs,β,h,S,I,C,n,hr=>by
  rw[Jj]at n ⊢
  split
  ·rename_i q
   simp only[q]at n
   simp at C
   have G:Aq h (nid d+j)=none:=n j (A49 _) (by omega) (by simp[Br])
   have A:=Step.newNone S (d:=nid d+j) (x:=Jc sz) G rfl
   have f:=Reps.ext A.ext hr
   rw[Dk]at f
   have t:Reps J (fun b=>if b=nid d+j then none else β b) (Ja h (nid d+j) (Jc sz)) w (c.set o (.own (nid d+j) 0 0)) cs:=by
    rw[Dk]
    refine⟨by rw[f.1];simp,fun i y u s D=>?_⟩
    by_cases hi:i=o
    ·subst hi
     have v:i<c.length:=(A5t.1 q).1
     rw[List.getElem?_set_self v]at s;simp at s;subst s
     have F:=f.2 i _ u q D
     rw[Rep]at F;subst F
     rw[Rep]
     exact⟨Jc sz,none,0,⟨by simp[Ai],rfl⟩,rfl,A49 _,.inl rfl⟩
    ·rw[List.getElem?_set_ne (by omega)]at s
     exact f.2 i y u s D
   obtain⟨β',B,hB⟩:=CH (d:=d) (l:=l) (j:=j+1) A.sim (by omega) (by omega) (fun i hi k m=>by
    have:=n i (by omega) k (by
     rw[Br]
     have:beq (nid d+j) (nid d+i)=false:=bV (by omega)
     rw[this];exact m)
    rw[Ai,if_neg (by omega)];exact this) t
   exact⟨β',by simp only[As];exact A.trans B (fun _ _ _ _=>A49 _),by simp only[As];exact hB⟩
  ·rename_i q
   have e:Jj d ((o,sz)::l) j c=Jj d l (j+1) c:=by
    rw[Jj]
    split
    ·rename_i z;exact absurd z (q ·)
    ·rfl
   simp at C
   split at n
   ·rename_i z;exact absurd z (q ·)
   ·exact CH S (by omega) (by omega) (fun i hi k m=>n i (by omega) k m) hr
def Aly{t:TypeId}{co:Bool}{d:Nat}{v:AV}{vc:Value}{k:AV->J4->O R}(S:SimH J β h w)(e:Aqn P t co d v k=some r)(f:Rep J β h w v vc):
  ∃ val ups,k val ups=some r/\(UpsFree d h ups->OpDone J β h w ups val vc w):=by
 unfold Aqn at e
 split at e
 ·rename_i c
  obtain⟨n,q⟩:=uc e
  refine⟨_,_,q,fun s=>?_⟩
  rw[Rep]at f
  obtain⟨cs,rfl,hr⟩:=f
  obtain⟨β',A,hA⟩:=CH (d:=d) (l:=Yf P t) (j:=1) S (A49 _) (by simp at n;omega) (fun i hi u m=>s _ m (by unfold SC;simp;omega)) hr
  exact⟨J,β',A,by rw[Rep];exact⟨cs,rfl,hA⟩⟩
 ·exact⟨_,_,e,fun _=>⟨J,β,Step.refl S,f⟩⟩
def r8{x:AV}{v:Value}(d:Rep J β h w x v)(m:VA x=false)(f:bL x=true):aE (Rep J β h w) (cellsOf x) v.cells.toList:=by
 have one:v.cells=#[v]->cellsOf x=[x]->aE (Rep J β h w) (cellsOf x) v.cells.toList:=fun n e=>by
  rw[n,e]
  refine⟨rfl,fun j y u k l=>?_⟩
  cases j with
  |zero=>simp at k l;subst k l;exact d
  |succ j=>simp at k
 cases x
 case pagg=>simp[VA]at m
 case agg c =>
  rw[Rep]at d
  obtain⟨cs,rfl,e⟩:=d
  rw[Dk]at e
  exact⟨e.1.symm,e.2⟩
 case tup c=>simp[bL]at f
 case undef=>simp[bL]at f
 case omap=>simp[bL]at f
 case own=>rw[Rep]at d;obtain⟨_,A,cap,_,rfl,_⟩:=d;exact one rfl rfl
 case optr=>rw[Rep]at d;obtain⟨_,kk,o,_,rfl,_⟩:=d;exact one rfl rfl
 case fn=>rw[Rep]at d;obtain⟨cs,rfl,_⟩:=d;exact one rfl rfl
 case imm=>rw[Rep,RepC]at d;obtain⟨_,A,cap,rfl,_⟩:=d;exact one rfl rfl
 case iptr=>rw[Rep,RepC]at d;obtain⟨a,rfl,_⟩:=d;exact one rfl rfl
 all_goals (rw[Rep]at d;subst d;exact one rfl rfl)
def Abe{x:AV}{v:Value}(f:∀ k,J false k->J true k)(e:Rep J β h w x v)(hr:jw x=false){o:Bool}(j:Adc x=true->o=true):RepC (J o) w x v:=by
 cases x<;>simp[jw]at hr
 case imm c n sz t org =>
  rw[Rep]at e
  refine RepC.keep (J:=J org) (w:=w) (fun k d=>?_) (fun _ _=>rfl) e
  cases org
  ·cases o
   ·exact d
   ·exact f k d
  ·rw[j rfl];exact d
 case iptr c org =>
  rw[Rep]at e
  refine RepC.keep (J:=J org) (w:=w) (fun k d=>?_) (fun _ _=>rfl) e
  cases org
  ·cases o
   ·exact d
   ·exact f k d
  ·rw[j rfl];exact d
 all_goals (rw[Rep]at e;rw[RepC];exact e)
def Adu{x:AV}{v:Value}(m:∀ k,J false k->J true k)(f:Rep J β h w x v)(hr:vG x=false){o:Bool}(n:rU x=true->o=true):aE (RepC (J o) w) (cellsOf x) v.cells.toList:=by
 have one:jw x=false->cellsOf x=[x]->rU x=Adc x->aE (RepC (J o) w) (cellsOf x) v.cells.toList:=fun D d q=>by
  have A:=Abe (o:=o) m f D (by rw[<-q];exact n)
  have s:v.cells=#[v]:=by have:=vN A;cases v<;>simp_all[Value.cells,Value.oneCell']
  rw[s,d]
  refine⟨rfl,fun j y u e l=>?_⟩
  cases j with
  |zero=>simp at e l;subst e l;exact A
  |succ j=>simp at e
 cases x
 case pagg c org =>
  rw[Rep]at f
  obtain⟨cs,rfl,s,d⟩:=f
  refine QR (RepCs.keep (J:=J org) (w:=w) (fun k t=>?_) (fun _ _=>rfl) (fun j=>by simp[Value.cells]) d) (by simp[Value.cells,cellsOf,s])
  cases org
  ·cases o
   ·exact t
   ·exact m k t
  ·rw[n rfl];exact t
 case agg c =>
  rw[Rep]at f
  obtain⟨cs,rfl,d⟩:=f
  rw[Dk]at d
  refine⟨d.1.symm,fun j y u e l=>?_⟩
  simp only[vG,A7u]at hr
  have C:y∈c:=A9s e
  have z:jw y=false:=by simpa using hr y C
  refine Abe m (d.2 j y u e l) z (fun q=>n ?_)
  rw[rU,List.any_eq_true];exact⟨y,C,q⟩
 all_goals first|exact one hr rfl rfl|simp[vG,jw]at hr
def Aqq{o:Bool}{x:AV}{v:Value}(hr:RepC (J o) w x v):Rep J β h w (Ag5 o x) v:=by
 cases x
 case imm=>rw[Ag5,Rep];rw[RepC]at hr ⊢;exact hr
 case iptr=>rw[Ag5,Rep];rw[RepC]at hr ⊢;exact hr
 case fn f c =>
  cases c with
  |nil=>rw[RepC]at hr;subst hr;show Rep J β h w (.fn f []) _;rw[Rep];exact⟨[],by simp,by rw[Reps]⟩
  |cons a b=>simp[RepC]at hr
 all_goals first|(rw[RepC]at hr;unfold Ag5;rw[Rep];exact hr)|(simp[RepC]at hr)
def Alz{x:AV}{v:Value}(f:Rep J β h w x v)(m:bL x=true):aE (Rep J β h w) (vH x) v.cells.toList:=by
 cases k:VA x with
|false =>
  have:=r8 f k m
  cases x<;>first|exact this|simp[VA]at k
| true =>
  cases x<;>simp[VA]at k
  rename_i c o
  rw[Rep]at f
  obtain⟨cs,rfl,n,q⟩:=f
  refine⟨by simp[vH,Value.cells,n],fun j y u e l=>?_⟩
  simp only[vH,A7c]at e
  cases hx:c[j]? with
  |none=>rw[hx]at e;simp at e
  |some x0 =>
   rw[hx]at e;simp at e;subst e
   obtain⟨s,d,hr⟩:=q.at hx
   simp[Value.cells]at l
   rw[l]at d;simp at d;subst d
   exact Aqq hr
def bY{CR:AV->Value->Prop}:∀{ps:List (Nat×AV)}{vs:List (Nat×Value)},RepParts J β h w ps vs->(∀ p∈ps,∀ v,Rep J β h w p.2 v->aE CR (vH p.2) v.cells.toList)->PartsRel CR (On ps) vs
|[],vs,hr,_=>by rw[RepParts]at hr;rw[On,PartsRel];exact hr
|(i,x)::r,vs,hr,e=>by
  rw[RepParts]at hr
  obtain⟨v,d,rfl,f,j⟩:=hr
  rw[On,PartsRel]
  exact⟨v,d,rfl,e (i,x) (by simp) v f,bY j (fun p k=>e p (by simp[k]))⟩
def QT{CR:AV->Value->Prop}:∀{ps:List (Nat×AV)}{vs:List (Nat×Value)},RepParts J β h w ps vs->(∀ p∈ps,∀ v,Rep J β h w p.2 v->aE CR (cellsOf p.2) v.cells.toList)->PartsRel CR (Iw ps) vs
|[],vs,hr,_=>by rw[RepParts]at hr;rw[Iw,PartsRel];exact hr
|(i,x)::r,vs,hr,e=>by
  rw[RepParts]at hr
  obtain⟨v,d,rfl,f,j⟩:=hr
  rw[Iw,PartsRel]
  exact⟨v,d,rfl,e (i,x) (by simp) v f,QT j (fun p k=>e p (by simp[k]))⟩
def lz{t:TypeId}{place:Nat->Option (Nat×Nat)}{i:TypeInfo}{z:Value}{vs:List (Nat×Value)}{cs:Array Value}(d:bK P t=some place)(hi:P.info? t=some i)(l:i.zero=some z)
  (m:Instr.fill place z.cells vs=some cs):P.built t vs=some cs:=by
 unfold bK at d
 unfold Program.built
 split at d
 ·rename_i n e k
  cases j:P.info? e with
  |none=>simp[j]at d
  |some ie=>simp[j]at d;subst d;simp only[hi,k,l,j];exact m
 ·rename_i fs k
  cases j:fs.toList.mapM fun f=>(P.info? f.type).map fun i=>(f.offset,i.size)with
  |none=>rw[j]at d;simp at d
  |some pl =>
   rw[j]at d;simp at d;subst d
   simp only[hi,k,l,j]
   simpa using m
 ·simp at d
def zP{t:TypeId}{ps:List (Nat×AV)}{vs:List (Nat×Value)}{k:AV->J4->O R}(S:SimH J β h w)(D:Looks g h)(m:fY P g t ps k=some r)(F:RepParts J β h w ps vs):
  ∃ val ups u,k val ups=some r/\(Instr.build t vs.toArray).run P w=.ok u w/\OpDone J β h w ups val u w:=by
 unfold fY at m
 obtain⟨place,d,G⟩:=ub m
 obtain⟨zz,I,L⟩:=ub G
 obtain⟨⟨q,u1,o1⟩,hq,n⟩:=ub L
 rw[EA]at n
 obtain⟨cells,M,T⟩:=ub n
 obtain⟨i,z,hi,e,rfl,U,e1,e2⟩:=KJ I
 obtain⟨J1,A,hA,_,v⟩:=GA S D.s hq F
 have f:aE (RepC (J1 o1) w) (W5 z.cells.toList) z.cells.toList:=by
  refine⟨D_ _,fun j x u hx V=>?_⟩
  obtain⟨y,l,X⟩:=VJ (w:=w) (J:=J1 o1) U j u V
  rw[hx]at l;simp at l;subst l;exact X
 obtain⟨cs,Y,C⟩:=SF hA f M
 refine⟨_,_,.agg cs,T,run_build w t vs.toArray cs (lz d hi e (by simpa using Y)),J1,β,A,?_⟩
 rw[Rep]
 exact⟨cs.toList,rfl,C.1.symm,QS C⟩
def Adv{t:TypeId}{ps:List (Nat×AV)}{vs:List (Nat×Value)}{v:AV}(S:SimH J β h w)(T:Ade P t ps=some v)(L:RepParts J β h w ps vs):
  ∃ u,(Instr.build t vs.toArray).run P w=.ok u w/\Rep J β h w v u:=by
 unfold Ade at T
 obtain⟨place,q,U⟩:=ub T
 obtain⟨G,s⟩:=uc U
 cases A:ps.any (fun p=>VA p.2)with
| true =>
  rw[A]at s
  cases C:ps.any (fun p=>vG p.2)with
  | true =>
   rw[C]at s
   obtain⟨zz,e,k⟩:=ub s
   unfold Aa5 at e
   obtain⟨i,hi,e⟩:=ub e
   cases f:i.zero with
   |none=>rw[f]at e;simp at e
   | some z =>
    rw[f]at e;simp at e;subst e
    cases l:Z2 place (On ps) (W5 z.cells.toList)with
    |none=>rw[l]at k;simp at k
    | some c =>
     rw[l]at k;simp at k;subst k
     have d:PartsRel (Rep J β h w) (On ps) vs:=bY L (fun p D u F=>Alz F (A5n.1 G p D))
     have m:aE (Rep J β h w) (W5 z.cells.toList) z.cells.toList:=by
      have:=f9 (J:=J) (β:=β) (h:=h) (w:=w) z.cells.toList
      rw[Dk]at this
      exact⟨this.1.symm,this.2⟩
     obtain⟨cs,I,n⟩:=SF d m l
     refine⟨.agg cs,run_build w t vs.toArray cs (lz q hi f (by simpa using I)),?_⟩
     rw[Rep]
     exact⟨cs.toList,rfl,Dk.2 ⟨n.1.symm,n.2⟩⟩
  |false =>
  rw[C]at s
  have V:=s
  obtain⟨zz,e,k⟩:=ub V
  obtain⟨i,z,hi,f,rfl,X,e1,e2⟩:=KJ e
  cases l:Z2 place (Iw ps) (W5 z.cells.toList)with
  |none=>rw[l]at k;simp at k
  | some c =>
   rw[l]at k;simp at k;subst k
   have d:PartsRel (RepC (J (ps.any fun p=>rU p.2)) w) (Iw ps) vs:=QT L (fun p D u F=>Adu S.jft F (by
     have:=A7u.1 C p D;simpa using this) (fun Y=>by rw[List.any_eq_true];exact⟨p,D,Y⟩))
   have m:aE (RepC (J (ps.any fun p=>rU p.2)) w) (W5 z.cells.toList) z.cells.toList:=by
    refine⟨D_ _,fun j x u hx F=>?_⟩
    obtain⟨y,M,g2⟩:=VJ (w:=w) (J:=J (ps.any fun p=>rU p.2)) X j u F
    rw[hx]at M;simp at M;subst M;exact g2
   obtain⟨cs,I,n⟩:=SF d m l
   refine⟨.agg cs,run_build w t vs.toArray cs (lz q hi f (by simpa using I)),?_⟩
   rw[Rep]
   exact⟨cs.toList,rfl,n.1.symm,QS n⟩
| false =>
  rw[A]at s
  obtain⟨zz,e,k⟩:=ub s
  unfold Aa5 at e
  obtain⟨i,hi,e⟩:=ub e
  cases f:i.zero with
  |none=>rw[f]at e;simp at e
  | some z =>
   rw[f]at e;simp at e;subst e
   cases l:Z2 place (Iw ps) (W5 z.cells.toList)with
   |none=>rw[l]at k;simp at k
   | some c =>
    rw[l]at k;simp at k;subst k
    have d:PartsRel (Rep J β h w) (Iw ps) vs:=QT L (fun p D u F=>r8 F (by
      have:=A7u.1 A p D;simpa using this) (A5n.1 G p D))
    have m:aE (Rep J β h w) (W5 z.cells.toList) z.cells.toList:=by
     have:=f9 (J:=J) (β:=β) (h:=h) (w:=w) z.cells.toList
     rw[Dk]at this
     exact⟨this.1.symm,this.2⟩
    obtain⟨cs,I,n⟩:=SF d m l
    refine⟨.agg cs,run_build w t vs.toArray cs (lz q hi f (by simpa using I)),?_⟩
    rw[Rep]
    exact⟨cs.toList,rfl,Dk.2 ⟨n.1.symm,n.2⟩⟩
end
end Gx
namespace Gx
open Go
section
variable{R:Type}{r:R}{P:Program}{J:Bool->Nat->Prop}{β:Dl}{h:A8}{w:World}
def PRd(n:Nat)(x:LA)(rd:Nat->Option Value):Prop:=∀ j q,j<n->x[j]?=some q ->
 (∀ k m,q=.int k m->rd j=some (.int k m))/\(∀ b,q=.bool b->rd j=some (.bool b))/\(∀ s,q=.str s->rd j=some (.string ⟨⟨s⟩⟩))
def PRd.drop{n m o:Nat}{x:LA}{xs:Array Value}{ox sz:Nat}(l:PRd sz x (fun j=>xs[ox+j]?))(z:o+m<=sz)(hn:n=m):PRd n (x.drop o) (fun j=>(xs.extract ox (ox+sz))[o+j]?):=by
 subst hn
 intro j q A hq
 rw[A67]at hq
 have d:=l (o+j) q (by omega) hq
 have e:∀ v,xs[ox+(o+j)]?=some v->(xs.extract ox (ox+sz))[o+j]?=some v:=by
  intro v f
  have t:=(A63.1 f).1
  rw[Array.getElem?_extract,if_pos (by omega)];exact f
 exact⟨fun k m u=>e _ (d.1 k m u),fun b y=>e _ (d.2.1 b y),fun s hs=>e _ (d.2.2 s hs)⟩
def JU{t:TypeId}{d:TypeDesc}{xs:Array Value}{ox:Nat}{v:Value}(e:P.underlying t=some d)(f:d.isRow=false)(j:xs[ox]?=some v):(part t xs ox).run P w=.ok v w:=by
 unfold part isAgg
 simp only[Sem.run_bind,run_underlying e,Result.andThen_ok]
 cases d<;>simp_all[TypeDesc.isRow]
def SG{t:TypeId}{d:TypeDesc}{xs:Array Value}{ox s:Nat}(e:P.underlying t=some d)(f:d.isRow=true)(hs:C8 P t=some s):(part t xs ox).run P w=.ok (.agg (xs.extract ox (ox+s))) w:=by
 unfold part isAgg
 have:=F0 hs w
 simp only[Sem.run_bind,run_underlying e,Result.andThen_ok]
 cases d<;>simp_all[TypeDesc.isRow]
def Al0(P:Program)(w:World)(D:Nat)(step:TypeId->LA->LA->(Bool->O R)->O R):Prop :=
 ∀(r:R)(t:TypeId)(s:Nat)(x y:LA)(k:Bool->O R)(xs ys:Array Value)(ox oy:Nat),C8 P t=some s->0<s->step t x y k=some r->PRd s x (fun j=>xs[ox+j]?)->PRd s y (fun j=>ys[oy+j]?) ->
  ∃ b a a',k b=some r/\(part t xs ox).run P w=.ok a w/\(part t ys oy).run P w=.ok a' w/\(Op.equalIn D t a a').run P w=.ok b w
def YW{D:Nat}{step:TypeId->LA->LA->(Bool->O R)->O R}(hs:Al0 P w D step){x y:LA}{xs ys:Array Value}{ox oy sz:Nat}(hx:PRd sz x (fun j=>xs[ox+j]?))(q:PRd sz y (fun j=>ys[oy+j]?)):
  ∀(fs:List Field){k:Bool->O R},fs.all (Ac9 P sz)=true->RZ step x y (fs.map fun f=>(f.offset,f.type)) k=some r ->
  ∃ b,k b=some r/\(Op.eqFields D (xs.extract ox (ox+sz)) (ys.extract oy (oy+sz)) fs).run P w=.ok b w
|[],k,_,m=>⟨true,by simpa[RZ]using m,by simp[Op.eqFields]⟩
| f::fs,k,n,m=>by
  rw[A5s,A47]at n
  obtain⟨l,n⟩:=n
  unfold Ac9 at l
  cases d:C8 P f.type with
  |none=>rw[d]at l;simp at l
  |some s =>
   rw[d]at l
   simp only[A47,Nat.ble_eq]at l
   obtain⟨G,t,u⟩:=l
   have e : f.name≠"_" := by simpa using u
   rw[A5c,RZ]at m
   obtain⟨b,a,I,v,z,A,C⟩:=hs r f.type s _ _ _ (xs.extract ox (ox+sz)) (ys.extract oy (oy+sz)) f.offset f.offset d (by omega) m (hx.drop t rfl) (q.drop t rfl)
   obtain⟨c,e1,F⟩:=YW hs hx q fs n v
   refine⟨b&&c,e1,?_⟩
   rw[Op.eqFields,if_pos e]
   simp only[Sem.run_bind,z,A,C,Result.andThen_ok]
   cases b with
   |false=>simp
   |true=>simpa using F
def bZ{D:Nat}{step:TypeId->LA->LA->(Bool->O R)->O R}(hs:Al0 P w D step){x y:LA}{xs ys:Array Value}{ox oy sz:Nat}{e:TypeId}{s:Nat}(d:C8 P e=some s)(f:0<s)(hx:PRd sz x (fun j=>xs[ox+j]?))(m:PRd sz y (fun j=>ys[oy+j]?)):
  ∀(is:List Nat){k:Bool->O R},(∀ i∈is,i*s+s<=sz)->RZ step x y (is.map fun i=>(i*s,e)) k=some r ->
  ∃ b,k b=some r/\(Op.eqItems D e s (xs.extract ox (ox+sz)) (ys.extract oy (oy+sz)) is).run P w=.ok b w
|[],k,_,l=>⟨true,by simpa[RZ]using l,by simp[Op.eqItems]⟩
|i::is,k,n,l=>by
  have q:=n i (by simp)
  rw[A5c,RZ]at l
  obtain⟨b,a,F,t,u,v,z⟩:=hs r e s _ _ _ (xs.extract ox (ox+sz)) (ys.extract oy (oy+sz)) (i*s) (i*s) d f l (hx.drop q rfl) (m.drop q rfl)
  obtain⟨c,e1,A⟩:=bZ hs d f hx m is (fun j C=>n j (by simp[C])) t
  refine⟨b&&c,e1,?_⟩
  rw[Op.eqItems]
  simp only[Sem.run_bind,u,v,z,Result.andThen_ok]
  cases b with
  |false=>simp
  |true=>simpa using A
def kA:∀(d D:Nat),d<=D->Al0 P w D (tW (R:=R) P d)
|0,D,_=>fun r t s x y k xs ys ox oy hs l f=>by simp[tW]at f
| d+1,D,hD=>fun r t s x y k xs ys ox oy hs l f hx L=>by
  obtain⟨D,rfl⟩:∃ D',D=D'+1:=⟨D - 1,by omega⟩
  rw[tW]at f
  split at f
  ·rename_i kd j
   obtain⟨u,q,f⟩:=ub f
   obtain⟨a,A,f⟩:=ub f
   obtain⟨v,z,f⟩:=ub f
   obtain⟨b,C,f⟩:=ub f
   have M:u=.int kd a:=by
    unfold rQ at A;split at A
    ·obtain⟨S,T⟩:=uc A;simp[Vd]at S T;subst S T;rfl
    ·simp at A
   have eb:v=.int kd b:=by
    unfold rQ at C;split at C
    ·obtain⟨S,U⟩:=uc C;simp[Vd]at S U;subst S U;rfl
    ·simp at C
   have px:=(hx 0 u l (by rw[<-A57];exact q)).1 kd a M
   have py:=(L 0 v l (by rw[<-A57];exact z)).1 kd b eb
   exact⟨_,_,_,f,JU j rfl (by simpa using px),JU j rfl (by simpa using py),run_equalIn_int w D t kd kd a b j⟩
  ·rename_i j
   obtain⟨u,q,f⟩:=ub f
   obtain⟨a,A,f⟩:=ub f
   obtain⟨v,z,f⟩:=ub f
   obtain⟨b,C,f⟩:=ub f
   have M:u=.bool a:=by unfold asBool at A;split at A<;>simp_all
   have eb:v=.bool b:=by unfold asBool at C;split at C<;>simp_all
   have px:=(hx 0 u l (by rw[<-A57];exact q)).2.1 a M
   have py:=(L 0 v l (by rw[<-A57];exact z)).2.1 b eb
   exact⟨_,_,_,f,JU j rfl (by simpa using px),JU j rfl (by simpa using py),run_equalIn_bool' w D t a b j⟩
  ·rename_i j
   obtain⟨u,q,f⟩:=ub f
   obtain⟨a,A,f⟩:=ub f
   obtain⟨v,z,f⟩:=ub f
   obtain⟨b,C,f⟩:=ub f
   have M:u=.str a:=by unfold rR at A;split at A<;>simp_all
   have eb:v=.str b:=by unfold rR at C;split at C<;>simp_all
   have px:=(hx 0 u l (by rw[<-A57];exact q)).2.2 a M
   have py:=(L 0 v l (by rw[<-A57];exact z)).2.2 b eb
   refine⟨_,_,_,f,JU j rfl (by simpa using px),JU j rfl (by simpa using py),?_⟩
   have:=run_equalIn_string w D t ⟨⟨a⟩⟩ ⟨⟨b⟩⟩ j
   rw[this]
   simp[ByteArray.toList_eq]
  ·rename_i fs j
   obtain⟨sz,m,f⟩:=ub f
   obtain⟨V,G⟩:=Alu f
   simp only[A6p,Bool.not_eq_false']at V
   rw[hs]at m;simp at m;subst m
   obtain⟨b,Y,h2⟩:=YW (kA d D (by omega)) hx L fs.toList V.2 G
   refine⟨b,_,_,Y,SG j rfl hs,SG j rfl hs,?_⟩
   have X:P.fieldsOf t=fs:=by simp[Program.fieldsOf,j]
   rw[run_equalIn_struct w D t _ _ (by rw[X];exact j) V.1,X]
   exact h2
  ·rename_i n e j
   obtain⟨s',F,f⟩:=ub f
   obtain⟨sz,m,f⟩:=ub f
   obtain⟨V,G⟩:=uc f
   simp only[A47,Nat.ble_eq]at V
   rw[hs]at m;simp at m;subst m
   obtain⟨b,Y,h2⟩:=bZ (kA d D (by omega)) F (by omega) hx L (List.range n) (fun i hi=>by
    have:=List.mem_range.1 hi
    have h3:(i+1)*s'<=n*s':=A5y _ this
    rw[Bag] at h3;omega) G
   refine⟨b,_,_,Y,SG j rfl hs,SG j rfl hs,?_⟩
   cases hi:P.info? e with
   |none=>simp[C8,hi]at F
   |some i =>
    have I:P.cellsOf e=s':=by simp[C8,hi]at F;simp[Program.cellsOf,hi,F]
    rw[run_equalIn_array w D _ _ j hi,I]
    exact h2
  ·simp at f
def Ahh{c:LA}{org:Bool}{v:Value}{a:LA}{x:AV}(hx:Ada x=some a)(hr:Rep J β h w x v):∃ cs:List Value,v=.agg ⟨cs⟩/\cs.length=a.length/\∀ n,PRd n a (fun j=>(⟨cs⟩:Array Value)[0+j]?):=by
 unfold Ada at hx
 split at hx
 ·simp at hx;subst hx
  rw[Rep]at hr
  obtain⟨cs,t,f,A⟩:=hr
  refine⟨cs,t,f,fun n j q _ hq=>?_⟩
  rw[C9]at A
  obtain⟨u,l,d⟩:=A j q hq
  simp only[A5j]at l ⊢
  refine⟨fun k m y=>?_,fun b z=>?_,fun s hs=>?_⟩
  ·subst y;rw[RepC]at d;subst d;simpa using l
  ·subst z;rw[RepC]at d;subst d;simpa using l
  ·subst hs;rw[RepC]at d;subst d;simpa using l
 ·simp at hx;subst hx
  rw[Rep]at hr
  obtain⟨cs,t,f⟩:=hr
  rw[Dk]at f
  refine⟨cs,t,f.1,fun n j q _ hq=>?_⟩
  have e:j<cs.length:=by rw[f.1];exact(A5t.1 hq).1
  have d:=f.2 j q cs[j] hq (A46 e)
  simp only[A5j]
  refine⟨fun k m y=>?_,fun b z=>?_,fun s hs=>?_⟩
  ·subst y;rw[Rep]at d;simp[e,d]
  ·subst z;rw[Rep]at d;simp[e,d]
  ·subst hs;rw[Rep]at d;simp[e,d]
 ·simp at hx
def Ahi{op:BinOp}{t:TypeId}{x y:AV}{k:AV->O R}{vx vy:Value}(f:Aa4 P t op x y k=some r)(hx:Rep J β h w x vx)(C:Rep J β h w y vy)(ox oy:Operand):
  ∃ v vc,k v=some r/\(do eqGuard op t ox oy vx vy;binOp op t vx vy:Sem Value).run P w=.ok vc w/\Rep J β h w v vc:=by
 unfold Aa4 at f
 split at f
 ·rename_i a b S T
  obtain⟨s,hs,f⟩:=ub f
  obtain⟨D,f⟩:=uc f
  simp only[A47,Nat.ble_eq,A8z]at D
  obtain⟨Y,F,G,m,U⟩:=D
  have F:=A5p F
  have G:=A5p G
  obtain⟨cs,rfl,I,px⟩:=Ahh (c:=[]) (org:=false) S hx
  obtain⟨j,rfl,V,py⟩:=Ahh (c:=[]) (org:=false) T C
  have L:=run_eqGuard_agg w op t ox oy ⟨cs⟩ ⟨j⟩ U
  have whole:∀(l:List Value),l.length=s->(⟨l⟩:Array Value).extract 0 (0+s)=⟨l⟩:=by
   intro l I;subst I;simp
  have key:∀{kk:Bool->O R},tW P 8 t a b kk=some r->∃ c,kk c=some r/\(Op.equal t (.agg ⟨cs⟩) (.agg ⟨j⟩)).run P w=.ok c w:=by
   intro kk X
   obtain⟨c,u,u',e1,q,e3,e4⟩:=kA 8 10000 (by omega) r t s a b kk ⟨cs⟩ ⟨j⟩ 0 0 hs (by omega) X (px s) (py s)
   refine⟨c,e1,?_⟩
   have A:∃ d,P.underlying t=some d/\d.isRow=true:=by
    unfold Ate at m
    split at m
    ·rename_i fs z;exact⟨_,z,rfl⟩
    ·rename_i n e z;exact⟨_,z,rfl⟩
    ·simp at m
   obtain⟨d,z,M⟩:=A
   rw[SG z M hs,whole cs (by omega)]at q
   rw[SG z M hs,whole j (by omega)]at e3
   simp only[Result.ok.injEq,and_true]at q e3
   subst q e3
   exact e4
  split at f
  ·obtain⟨c,e1,q⟩:=key f
   refine⟨_,.bool c,e1,?_,by rw[Rep]⟩
   simp only[Sem.run_bind,L,Result.andThen_ok,binOp,q,Sem.run_pure]
  ·obtain⟨c,e1,q⟩:=key f
   refine⟨_,.bool (!c),e1,?_,by rw[Rep]⟩
   simp only[Sem.run_bind,L,Result.andThen_ok,binOp,q,Sem.run_pure]
  ·simp at f
 ·exact Alt f hx C ox oy
end
end Gx
namespace Gx
open Go Go.MapKept
section
variable{R:Type}{r:R}{P:Program}{J:Bool->Nat->Prop}{β:Dl}{h:A8}{w:World}{g:Cg}
def Ay9{b:Nat}{x:Blk}{v:Value}(S:SimH J β h w)(f:Aq h b=some x)(j:x.dead=false)(hr:Rep J β h w (.omap b) v):
  ∃ k ob,x.mp=true/\β b=some (k,0)/\v=A0v x.sz k/\w.heap[k]?=some ob/\ObjIs x ob/\x.sealed=false/\x.pure=true:=by
 rw[Rep]at hr
 obtain⟨y,k,⟨d,l⟩,hr⟩:=hr
 rw[f]at d;simp at d;subst d
 rcases hr with hr|⟨m,n⟩
 ·simp[j]at hr
 ·obtain⟨q,s,z,ob,e,t,u,_⟩:=S.mblk b x f j l
  rw[m]at e;simp at e;subst e
  exact⟨k,ob,l,m,n,t,u,s,q⟩
def Awx{b:Nat}{x:Blk}{v:Value}(S:SimH J β h w)(f:Aq h b=some x)(j:x.dead=false)(l:x.sz=1)(hr:Rep J β h w (.omap b) v):
  ∃ k s pos,x.mp=true/\β b=some (k,0)/\v=.pointer (some ⟨k,0,none⟩)/\w.heap[k]?=some (.stringIter ⟨⟨s⟩⟩ pos)/\x.cells=[.str s,.int .i64 (pos:Int)]/\x.sealed=false/\x.pure=true:=by
 obtain⟨k,ob,m,n,e,q,d,t,u⟩:=Ay9 S f j hr
 rw[l]at e
 rcases d with⟨d,_⟩|⟨_,s,pos,rfl,d⟩
 ·omega
 ·exact⟨k,s,pos,m,n,e,q,d,t,u⟩
def YX{k pos:Nat}{s:ByteArray}(d:w.heap[k]?=some (.stringIter s pos)):(getObj k).run P w=.ok (.stringIter s pos) w:=by simp[getObj,Sem.run,d]
def tY{k pos:Nat}{s:ByteArray}(ob:Obj)(d:w.heap[k]?=some (.stringIter s pos)):(setObj k ob).run P w=.ok () {w with heap:=w.heap.setIfInBounds k ob}:=by simp[setObj,Sem.run,d]
def Adw{d:Nat}{t:TypeId}{x:AV}{vx:Value}{k:AV->J4->O R}(S:SimH J β h w)(e:pP P d t x k=some r)(hx:Rep J β h w x vx):
  ∃ val ups,k val ups=some r/\(UpsFree d h ups->∃ vc w',(Instr.range t vx).run P w=.ok vc w'/\OpDone J β h w ups val vc w'):=by
 unfold pP at e
 split at e
 ·rename_i s f
  rw[Rep]at hx;subst hx
  refine⟨_,_,e,fun j=>⟨.pointer (some ⟨w.heap.size,0,none⟩),w.alloc (.stringIter ⟨⟨s⟩⟩ 0),?_,?_⟩⟩
  ·simp only[Instr.range,Sem.run_bind,run_underlying f,Result.andThen_ok,Sem.run_pure];rfl
  have A:=Step.newObj (x:={dead:=false,sealed:=false,pure:=true,taint:=false,sz:=1,cells:=[.str s,.int .i64 0],mp:=true}) (ob:=.stringIter ⟨⟨s⟩⟩ 0) S (j.nid (by simp[Br])) rfl rfl rfl (.inr ⟨rfl,s,0,rfl,rfl⟩) rfl
  refine⟨_,_,A,?_⟩
  rw[Rep]
  exact⟨{dead:=false,sealed:=false,pure:=true,taint:=false,sz:=1,cells:=[.str s,.int .i64 0],mp:=true},w.heap.size,⟨by simp[As,Ai],rfl⟩,.inr ⟨by simp,rfl⟩⟩
 ·simp at e
def Ahj{d:Nat}{t:TypeId}{it:AV}{b:Bool}{vi:Value}{k:AV->J4->O R}(S:SimH J β h w)(G:Looks g h)(q:Aa9 g it b k=some r)(hi:Rep J β h w it vi):
  ∃ val ups,k val ups=some r/\(UpsFree d h ups->∃ vc w',(Instr.next vi b t).run P w=.ok vc w'/\OpDone J β h w ups val vc w'):=by
 unfold Aa9 at q
 split at q
 ·rename_i I
  obtain⟨x,hx,L⟩:=ub q
  obtain⟨D,l⟩:=uc L
  simp only[A47]at D
  obtain⟨m,u⟩:=D
  have u:=A5p u
  obtain⟨F,v⟩:=Qp G hx
  obtain⟨kk,s,pos,_,M,rfl,n,y,z,A⟩:=Awx S F v u hi
  rw[y]at l
  simp only at l
  have C:=fa n
  cases e:decide ((pos:Int)<(s.length:Int))with
  | true =>
   rw[e]at l
   have e:pos<s.length:=by have:=of_decide_eq_true e;omega
   have f:pos<(⟨⟨s⟩⟩:ByteArray).size:=e
   refine⟨_,_,l,fun _=>⟨.tuple #[.bool true,goInt pos,.int .i32 ((FX s pos).1:Nat)],{w with heap:=w.heap.setIfInBounds kk (.stringIter ⟨⟨s⟩⟩ (pos+(FX s pos).2))},?_,J,β,?_,?_⟩⟩
   ·simp[Instr.next,YX n,f,tY _ n,FX]
   ·show Step J β h w J β (Ja h I _) _
    refine Step.setObj (ob:=.stringIter ⟨⟨s⟩⟩ pos) S F v m M n (by simp[C]) (fun j T=>by simp[A8n,Ne.symm T]) (by simp) rfl rfl rfl (.inr ⟨u,s,pos+(FX s pos).2,rfl,by simp⟩) v z A rfl m
   ·rw[Rep]
    refine⟨_,rfl,?_⟩
    simp[Reps,Rep,goInt]
  | false =>
   rw[e]at l
   have e:¬ pos<s.length:=by have:=of_decide_eq_false e;omega
   have f:¬ pos<(⟨⟨s⟩⟩:ByteArray).size:=e
   refine⟨_,_,l,fun _=>⟨.tuple #[.bool false],w,?_,J,β,Step.refl S,?_⟩⟩
   ·simp[Instr.next,YX n,f]
   ·rw[Rep]
    refine⟨_,rfl,?_⟩
    simp[Reps,Rep]
 ·simp at q
end
end Gx
namespace Gx
open Go
def kC(E:Env):Prop:=∀(R:Type)(r:R)(k:AV->J4->O R)(J:Bool->Nat->Prop)(β:Dl)(h:A8)(w:World)(g:Cg)(d f:Nat)(args:LA)(vs:List Value),
 SimH J β h w->Looks g h->Aba E g d f args k=some r->Reps J β h w args vs ->
 ∃ val ups,k val ups=some r/\(UpsFree d h ups->Calls E.P f vs.toArray w fun e w'=>∃ vc,e=.returned vc/\OpDone J β h w ups val vc w')
section
variable{R:Type}{r:R}{P:Program}{J J':Bool->Nat->Prop}{β:Dl}{h:A8}{w w':World}{g:Cg}{o:Oper}{a:Act}{next:Act->World->Prop}{Q:Exit->Act->World->Prop}
def Qb{vc:Value}(d:(execOp a.eval o).run P w=.ok (.value vc) w')(hn:next (a.put o.dst vc) w'):o.wp P a w next Q:=by unfold Oper.wp;rw[d];exact hn
def Atn(d:(execOp a.eval o).run P w=.ok .skip w')(hn:next (a.put o.dst undef) w'):o.wp P a w next Q:=by unfold Oper.wp;rw[d];exact hn
def OpDone.same(S:SimH J β h w){v:AV}{vc:Value}(d:Rep J β h w v vc):OpDone J β h w [] v vc w:=⟨J,β,Step.refl S,d⟩
def vT{s:J5}(SS:SimS J β h w s a.tmps):∀(xs:List Operand),Reps J β h w (xs.map (ev s)) (xs.map a.eval)
|[]=>by simp[Reps]
|x::r=>by rw[A5c,A5c,Reps];exact⟨_,_,rfl,C4 SS x,vT SS r⟩
def IA{s:J5}(SS:SimS J β h w s a.tmps):∀(ps:List (Nat×Operand)),RepParts J β h w (ps.map fun p=>(p.1,ev s p.2)) (ps.map fun p=>(p.1,a.eval p.2))
|[]=>by simp[RepParts]
|p::r=>by rw[A5c,A5c,RepParts];exact⟨_,_,rfl,C4 SS p.2,IA SS r⟩
def vU{s:J5}(SS:SimS J β h w s a.tmps)(x:Option Operand):FZ J β h w (x.map (ev s)) (x.map a.eval):=by
 cases x with
|none=>simp[FZ]
|some x=>simp[FZ];exact C4 SS x
def Reps.append:∀{c f:LA}{cs d:List Value},Reps J β h w c cs->Reps J β h w f d->Reps J β h w (c++f) (cs++d)
|[],f,cs,d,e,j=>by rw[Reps]at e;subst e;exact j
|x::r,f,cs,d,e,j=>by
  rw[Reps]at e
  obtain⟨u,us,rfl,k,l⟩:=e
  rw[A5i,A5i,Reps]
  exact⟨u,us++d,rfl,k,Reps.append l j⟩
def Ahk{J:Nat->Prop}:∀{c:LA}{cs:List Value},A0 c=true->Reps (fun _ _=>False) (fun _=>none) [] w c cs->RepCs J w c (fun j=>cs[j]?) 0/\cs.length=c.length:=by
 intro c cs l hr
 rw[Dk]at hr
 refine⟨?_,hr.1⟩
 rw[C9]
 intro j x e
 have d:j<cs.length:=by rw[hr.1];exact(A5t.1 e).1
 refine⟨cs[j],by simp[d],?_⟩
 have f:=hr.2 j x cs[j] e (A46 d)
 have m:A0 [x]=true:=by
  clear hr f d
  induction c generalizing j with
  |nil=>simp at e
  |cons y r n =>
   have k:A0 r=true:=by unfold A0 at l;split at l<;>simp_all
   cases j with
   |zero=>simp at e;subst e;cases y<;>simp_all[A0]
   |succ j=>exact n k j (by simpa using e)
 cases x<;>simp[A0]at m<;>(rw[Rep]at f;rw[RepC];exact f)
def Aqr{co:Bool}{v:AV}{vv:Value}(d:∀(J:Bool->Nat->Prop)(β:Dl)(h:A8),Rep J β h w v vv):Rep J β h w (Atf co v) vv:=by
 unfold Atf
 split
 ·rename_i c
  cases f:A0 c with
  |false=>exact d J β h
  |true =>
   have e:=d (fun _ _=>False) (fun _=>none) []
   rw[Rep]at e
   obtain⟨cs,rfl,j⟩:=e
   obtain⟨k,l⟩:=Ahk (J:=J false) f j
   rw[cond_true,Rep]
   exact⟨cs,rfl,l,k⟩
 ·exact d J β h
def kD{d:Nat}:∀{l:List (Nat×Nat)}{j:Nat}{c:LA},1<=j->Br (Jj d l j c).2 (nid d)=false
|[],_,_,_=>by simp[Jj,Br]
| (o,sz)::l,j,c,e=>by
  rw[Jj]
  split
  ·simp only[Br]
   rw[bV (by omega),cond_false]
   exact kD (by omega)
  ·exact kD (by omega)
def zQ{d:Nat}{t:TypeId}{k:AV->J4->O R}(S:SimH J β h w)(q:fZ P g d t k=some r):
  ∃ v val ups,(∃ i,P.info? t=some i/\i.zero=some v)/\k val ups=some r/\(UpsFree d h ups->∃ vc w',(Instr.box t v).run P w=.ok vc w'/\OpDone J β h w ups val vc w'):=by
 unfold fZ at q
 split at q
 ·rename_i c m
  obtain⟨C,I⟩:=uc q
  simp only[A47]at C
  obtain⟨L,s⟩:=C
  obtain⟨v,M,T⟩:∃ v,(∃ i,P.info? t=some i/\i.zero=some v)/\pF v=.agg c:=by
   unfold Ag3 at m
   cases hi:P.info? t with
   |none=>simp[hi]at m
   |some i =>
    cases f:i.zero with
    |none=>simp[hi,f]at m
    |some v=>simp[hi,f]at m;exact⟨v,⟨i,rfl,f⟩,m⟩
  have hr:=f8 (J:=J) (β:=β) (h:=h) (w:=w) v
  rw[T,Rep]at hr
  obtain⟨cs,rfl,hr⟩:=hr
  refine⟨_,_,_,M,I,fun D=>⟨_,_,VI,?_⟩⟩
  have hn:=D.nid (by simp[Lh,DX,Br])
  obtain⟨β',A,hA⟩:=CH (d:=d) (l:=Yf P t) (j:=1) S (A49 _) (by simp at L;omega) (fun i hi U x=>D _ (by rw[Lh,x];rfl) (by unfold SC;simp;omega)) hr
  have z:Aq (As (Jj d (Yf P t) 1 c).2 h) (nid d)=none:=by rw[Dq _ _ _ (kD (A49 _))];exact hn
  have n:∀(j:Nat) u,cs[j]?=some u->u.oneCell'=true:=fun j u F=>by
   rw[Dk]at hr
   have e:j<c.length:=by rw[<-hr.1];exact(A5t.1 F).1
   exact Yh (H' s j c[j] (A46 e)) (hr.2 j c[j] u (A46 e) F)
  rw[Dk]at hA
  refine OpDone.after A (fb A.sim z rfl rfl (by simp[Value.cells,hA.1]) ⟨fun V=>by simp at V,fun _ j y G=>?_⟩) (W6 _ _)
  have e:j<cs.length:=by rw[hA.1];exact(A5t.1 G).1
  exact⟨cs[j],by simp[Value.cells,e],hA.2 j y _ G (A46 e),n j _ (A46 e)⟩
 ·simp at q
def Adx{co:Bool}{d:Nat}{t:TypeId}{k:AV->J4->O R}(S:SimH J β h w)(G:Looks g h)(l:pM P g co d t k=some r):
  ∃ v val ups,(∃ i,P.info? t=some i/\i.zero=some v)/\k val ups=some r/\(UpsFree d h ups->∃ vc w',(Instr.box t v).run P w=.ok vc w'/\OpDone J β h w ups val vc w'):=by
 have zv:∀{z:AV},Ag3 P t=some z->∃ v,(∃ i,P.info? t=some i/\i.zero=some v)/\pF v=z:=by
  intro z f
  unfold Ag3 at f
  cases hi:P.info? t with
  |none=>simp[hi]at f
  |some i =>
   cases m:i.zero with
   |none=>simp[hi,m]at f
   |some v=>simp[hi,m]at f;exact⟨v,⟨i,rfl,m⟩,f⟩
 unfold pM at l
 split at l
 ·rename_i M T f
  obtain⟨v,n,q⟩:=zv f
  obtain⟨sz,hs,l⟩:=ub l
  refine⟨v,_,_,n,l,fun F=>⟨_,_,VI,?_⟩⟩
  have hr:=f8 (J:=J) (β:=β) (h:=h) (w:=w) v
  rw[q,Rep]at hr;subst hr
  have s:∀ b,b=nid d+1->SC d b=true:=fun b I=>by subst I;unfold SC nid;simp
  have u:Aq h (nid d+1)=none:=F _ (by simp[Br]) (s _ rfl)
  have C:Aq h (nid d)=none:=F.nid (by simp[Br])
  have A:=Step.newNone S (d:=nid d+1) (x:=Jc sz) u rfl
  have e:([(nid d+1,some (Jc sz)),(nid d,some {dead:=false,sealed:=false,pure:=false,taint:=false,sz:=0,cells:=[.own (nid d+1) 0 0]})]:J4)=[(nid d+1,some (Jc sz))]++[(nid d,some {dead:=false,sealed:=false,pure:=false,taint:=false,sz:=0,cells:=[.own (nid d+1) 0 0]})]:=rfl
  rw[e]
  refine OpDone.after A (fb A.sim ?_ rfl rfl (by simp[Value.cells]) ⟨fun L=>by simp at L,fun _ j y D=>?_⟩) (W6 _ _)
  ·simp only[As];rw[Ai,if_neg (by omega)];exact C
  ·cases j with
   |zero =>
    simp at D;subst D
    refine⟨.slice none 0 0,by simp[Value.cells],?_,rfl⟩
    rw[Rep]
    exact⟨Jc sz,none,0,⟨by simp[As,Ai],rfl⟩,rfl,A49 _,.inl rfl⟩
   |succ j=>simp at D
 ·rename_i z f _
  obtain⟨v,n,q⟩:=zv f
  obtain⟨val,ups,u,C⟩:=vO S G l (vv:=v) (Aqr fun J β h=>by rw[<-q];exact f8 v)
  exact⟨v,val,ups,n,u,C⟩
 ·simp at l
def Ahl{c x y:AV}{vc vx vy:Value}{k:AV->O R}(d:Abb c x y k=some r)(e:Rep J β h w c vc)(hx:Rep J β h w x vx)(f:Rep J β h w y vy):
  ∃ v,k v=some r/\∃ t:Bool,vc=.bool t/\Rep J β h w v (if t then vx else vy):=by
 unfold Abb at d
 split at d
 ·rename_i t a b
  rw[Rep]at e hx f
  subst e hx f
  exact⟨_,d,t,rfl,by cases t<;>simp[Rep]⟩
 ·rename_i t x _
  rw[Rep]at e;subst e
  obtain⟨j,l⟩:=uc d
  subst j
  exact⟨_,l,true,rfl,hx⟩
 ·rename_i t _ _ _
  rw[Rep]at e;subst e
  obtain⟨j,l⟩:=Alu d
  subst j
  exact⟨_,l,false,rfl,f⟩
 ·rename_i t _ _ _
  rw[Rep]at e;subst e
  cases t
  ·exact⟨_,d,false,rfl,f⟩
  ·exact⟨_,d,true,rfl,hx⟩
 ·simp at d
def Al1{E:Env}(hC:kC E){d:Nat}{s:J5}{k:AV->J4->O R}(S:SimH J β h w)(SS:SimS J β h w s a.tmps)(L:Looks g h)
  (m:zM E g d (ev s) o.op k=some r) :
  ∃ val ups,k val ups=some r/\(UpsFree d h ups->(∀ vc w',OpDone J β h w ups val vc w'->next (a.put o.dst vc) w')->o.wp E.P a w next Q):=by
 unfold zM at m
 have same:∀{v:AV}{vc:Value},k v []=some r->(execOp a.eval o).run E.P w=.ok (.value vc) w->Rep J β h w v vc ->
   ∃ val ups,k val ups=some r/\(UpsFree d h ups->(∀ vc w',OpDone J β h w ups val vc w'->next (a.put o.dst vc) w')->o.wp E.P a w next Q) :=
  fun hk M hr=>⟨_,_,hk,fun _ hn=>Qb M (hn _ _ (OpDone.same S hr))⟩
 split at m
 ·rename_i x A
  exact same m (by simp[execOp,A]) (C4 SS x)
 ·rename_i x A
  exact same m (by simp[execOp,A]) (C4 SS x)
 ·rename_i c x y A
  obtain⟨v,q,z⟩:=Ahl m (C4 SS c) (C4 SS x) (C4 SS y)
  obtain⟨t,ht,hr⟩:=z
  refine same q (vc:=if t then a.eval x else a.eval y) ?_ hr
  cases t<;>simp[execOp,A,ht,Go.asBool]
 ·rename_i t A
  obtain⟨v,val,ups,h0,q,z⟩:∃ v val ups,(∃ i,E.P.info? t=some i/\i.zero=some v)/\k val ups=some r/\(UpsFree d h ups->∃ vc w',(Instr.box t v).run E.P w=.ok vc w'/\OpDone J β h w ups val vc w'):=by
   cases hm:K3 E.cob (d+1000000)with
   |true=>rw[hm]at m;exact zQ S m
   |false=>rw[hm]at m;exact Adx S L m
  refine⟨val,ups,q,fun F hn=>?_⟩
  obtain⟨vc,w',C,G⟩:=z F
  refine Qb ?_ (hn vc w' G)
  rw[VI]at C
  simp only[Result.ok.injEq]at C
  obtain⟨rfl,rfl⟩:=C
  obtain⟨i,hi,hiz⟩:=h0
  simp[execOp,A,Instr.alloc,zeroValue,typeInfo,hi,hiz,newVar,newRow]
 ·rename_i t x A
  obtain⟨v',h0,hv'⟩:=Adr m (C4 SS x)
  obtain⟨val,ups,q,z⟩:=vO S L h0 hv'
  refine⟨val,ups,q,fun F hn=>?_⟩
  obtain⟨vc,w',C,G⟩:=z F
  exact Qb (by simp[execOp,A,C]) (hn vc w' G)
 ·rename_i t parts A
  have:(parts.map fun p=>(p.1,a.eval p.2))=(parts.toList.map fun p=>(p.1,a.eval p.2)).toArray:=by apply A7v;simp
  cases hco:K3 E.cob (d+4000000)with
  |true =>
   rw[hco]at m
   obtain⟨val,ups,u,q,z,C⟩:=zP S L m (IA SS parts.toList)
   exact⟨val,ups,q,fun _ hn=>Qb (by simp[execOp,A,this,z]) (hn _ _ C)⟩
  |false =>
  rw[hco,cond_false,jz]at m
  obtain⟨v,I,m⟩:=ub m
  obtain⟨u,q,z⟩:=Adv (P:=E.P) S I (IA SS parts.toList)
  obtain⟨val,ups,C,G⟩:=Aly S m z
  refine⟨val,ups,C,fun F hn=>Qb ?_ (hn _ _ (G F))⟩
  simp[execOp,A,this,q]
 ·rename_i t len parts A
  have:(parts.map fun p=>(p.1,a.eval p.2))=(parts.toList.map fun p=>(p.1,a.eval p.2)).toArray:=by apply A7v;simp
  obtain⟨val,ups,q,z⟩:=ly S L m (IA SS parts.toList)
  refine⟨val,ups,q,fun F hn=>?_⟩
  obtain⟨vc,w',C,G⟩:=z F
  exact Qb (by simp[execOp,A,this,C]) (hn vc w' G)
 ·rename_i t p A
  obtain⟨v,vc,q,z,C⟩:=r5 S L m (C4 SS p)
  exact same q (by simp[execOp,A,z]) C
 ·rename_i t p x A
  obtain⟨val,ups,q,J',β',w',z,C,rfl⟩:=Adq S L m (C4 SS p) (C4 SS x)
  exact⟨.undef,ups,q,fun _ hn=>Atn (w':=w') (by simp[execOp,A,z]) (hn undef w' ⟨J',β',C,by simp[Rep]⟩)⟩
 ·rename_i x A
  have q:=C4 SS x
  split at m
  ·rename_i c oo hx
   rw[hx]at q
   refine same m (vc:=a.eval x) ?_ q
   rw[Rep,RepC]at q
   obtain⟨ad,z,_⟩:=q
   simp[execOp,A,z]
  ·rename_i b oo hx
   rw[hx]at q
   refine same m (vc:=a.eval x) ?_ q
   rw[Rep]at q
   obtain⟨_,kk,o',_,z,_⟩:=q
   simp[execOp,A,z]
  ·simp at m
 ·rename_i op t x y t2 A
  obtain⟨v,vc,q,z,C⟩:=Ahi m (C4 SS x) (C4 SS y) x y
  refine same q ?_ C
  simp only[execOp,A]
  rw[Sem.run_bind,z];simp
 ·rename_i op t x A
  obtain⟨v,I,m⟩:=ub m
  obtain⟨vc,z,C⟩:=Aqo (P:=E.P) I (C4 SS x)
  exact same m (by simp[execOp,A,z]) C
 ·rename_i src dst x A
  obtain⟨val,ups,q,z⟩:=Ahg S L m (C4 SS x)
  refine⟨val,ups,q,fun F hn=>?_⟩
  obtain⟨vc,w',C,G⟩:=z F
  exact Qb (by simp[execOp,A,C]) (hn vc w' G)
 ·rename_i f first caps A
  obtain⟨F,m⟩:=uc m
  have hf':f<1000000:=by simpa using F
  have key:∀(a n:Nat),a<1000000->(a+1000000*n)%1000000=a/\(a+1000000*n)/1000000=n:=by intro a n h;omega
  have e1:=(key f first.toList.length hf').1
  have X:=(key f first.toList.length hf').2
  refine same (vc:=.func (.func f) ⟨first.toList.map a.eval⟩ ⟨caps.toList.map a.eval⟩) m ?_ ?_
  ·simp only[execOp,A,Instr.makeFunc]
   simp
   refine⟨?_,?_⟩<;>(apply A7v;simp)
  ·rw[Rep,e1,X]
   refine⟨(first.toList++caps.toList).map a.eval,?_,vT SS _⟩
   simp
 ·rename_i t l c A
  obtain⟨val,ups,q,z⟩:=Ahc S m (C4 SS l) (C4 SS c)
  refine⟨val,ups,q,fun F hn=>?_⟩
  obtain⟨vc,w',C,G⟩:=z F
  exact Qb (by simp[execOp,A,C]) (hn vc w' G)
 ·rename_i t x lo hi mx A
  obtain⟨v,vc,q,z,C⟩:=Adp S L m (C4 SS x) (vU SS lo) (vU SS hi) (vU SS mx)
  exact same q (by simp[execOp,A,z]) C
 ·rename_i t x f A
  obtain⟨v,vc,q,z,C⟩:=pX m (C4 SS x)
  exact same q (by simp[execOp,A,z]) C
 ·rename_i t x f A
  obtain⟨v,vc,q,z,C⟩:=Adn m (C4 SS x)
  exact same q (by simp[execOp,A,z]) C
 ·rename_i t x i A
  obtain⟨v,vc,q,z,C⟩:=pW m (C4 SS x) (C4 SS i)
  exact same q (by simp[execOp,A,z]) C
 ·rename_i t x i A
  obtain⟨v,vc,q,z,C⟩:=Ado m (C4 SS x) (C4 SS i)
  exact same q (by simp[execOp,A,z]) C
 ·rename_i t x A
  obtain⟨val,ups,q,z⟩:=Adw (P:=E.P) S m (C4 SS x)
  refine⟨val,ups,q,fun F hn=>?_⟩
  obtain⟨vc,w',C,G⟩:=z F
  exact Qb (by simp[execOp,A,C]) (hn vc w' G)
 ·rename_i x b A
  obtain⟨val,ups,q,z⟩:=Ahj (P:=E.P) (d:=d) (t:=o.type) S L m (C4 SS x)
  refine⟨val,ups,q,fun F hn=>?_⟩
  obtain⟨vc,w',C,G⟩:=z F
  exact Qb (by simp[execOp,A,C]) (hn vc w' G)
 ·rename_i t i A
  split at m
  ·rename_i vs ht
   obtain⟨v,I,m⟩:=ub m
   have q:=C4 SS t
   rw[ht,Rep]at q
   obtain⟨cs,z,C⟩:=q
   rw[Dk]at C
   have hlt:i<cs.length:=by rw[C.1];exact(A5t.1 I).1
   refine same m (vc:=cs[i]) ?_ (C.2 i v _ I (A46 hlt))
   simp[execOp,A,Instr.extract,z,hlt]
  ·simp at m
 ·rename_i c A
  split at m
  ·rename_i T
   split at m
   ·rename_i x t q z
    obtain⟨v,I,m⟩:=ub m
    have e1:c.args=#[x]:=by apply A7v;simpa using q
    have X:c.argTypes=#[t]:=by apply A7v;simpa using z
    obtain⟨vc,C,G⟩:=Alv (P:=E.P) (ty:=o.type) I (C4 SS x)
    refine same m ?_ G
    simp[execOp,A,resolve,T,e1,X,invoke,builtin,C]
   ·simp at m
  ·rename_i T
   split at m
   ·rename_i x y t tx q z
    have e1:c.args=#[x,y]:=by apply A7v;simpa using q
    have X:c.argTypes=#[t,tx]:=by apply A7v;simpa using z
    obtain⟨val,ups,C,G⟩:=zO (ty:=o.type) S L m (C4 SS x) (C4 SS y)
    refine⟨val,ups,C,fun F hn=>?_⟩
    obtain⟨vc,w',h5,h6⟩:=G F
    refine Qb ?_ (hn vc w' h6)
    simp[execOp,A,resolve,T,e1,X,invoke,builtin,h5]
   ·simp at m
  ·rename_i T
   split at m
   ·rename_i x y t tx q z
    have e1:c.args=#[x,y]:=by apply A7v;simpa using q
    have X:c.argTypes=#[t,tx]:=by apply A7v;simpa using z
    obtain⟨val,ups,C,vc,w',h5,h6⟩:=Ahf (tx:=tx) (ty:=o.type) S L m (C4 SS x) (C4 SS y)
    refine⟨val,ups,C,fun F hn=>?_⟩
    refine Qb ?_ (hn vc w' h6)
    simp[execOp,A,resolve,T,e1,X,invoke,builtin,h5]
   ·simp at m
  ·rename_i T
   split at m
   ·rename_i x y q
    obtain⟨v,I,m⟩:=ub m
    have e1:c.args=#[x,y]:=by apply A7v;simpa using q
    have z:=C4 SS x
    have C:=C4 SS y
    unfold A0t at I
    split at I
    ·rename_i k1 a1 k2 a2 hx hy
     simp at I;subst I
     rw[hx,Rep]at z;rw[hy,Rep]at C
     refine same m (vc:=.int k1 (Ra a1 a2)) ?_ (by rw[Rep])
     simp[execOp,A,resolve,T,e1,invoke,builtin,z,C,Builtin.min_,Builtin.min2,Ra,cond_eq_ite]
    ·simp at I
   ·simp at m
  ·rename_i T
   split at m
   ·rename_i x y q
    obtain⟨v,I,m⟩:=ub m
    have e1:c.args=#[x,y]:=by apply A7v;simpa using q
    have z:=C4 SS x
    have C:=C4 SS y
    unfold A0u at I
    split at I
    ·rename_i k1 a1 k2 a2 hx hy
     simp at I;subst I
     rw[hx,Rep]at z;rw[hy,Rep]at C
     refine same m (vc:=.int k1 (tX a1 a2)) ?_ (by rw[Rep])
     simp[execOp,A,resolve,T,e1,invoke,builtin,z,C,Builtin.max_,Builtin.max2,tX,cond_eq_ite]
    ·simp at I
   ·simp at m
  ·rename_i fo T
   split at m
   ·rename_i V caps F
    have q:=C4 SS fo
    rw[F,Rep]at q
    obtain⟨cs0,z,U⟩:=q
    cases D:Adj E.P (V%1000000)with
    |false =>
     rw[D,cond_false]at m
     cases m
    |true =>
    rw[D,cond_true]at m
    have htk:Reps J β h w (caps.take (V/1000000)) (cs0.take (V/1000000))/\Reps J β h w (caps.drop (V/1000000)) (cs0.drop (V/1000000)):=by
     rw[Dk]at U
     refine⟨Dk.2 ⟨by simp[U.1],fun j x u hx hu=>?_⟩,Dk.2 ⟨by simp[U.1],fun j x u hx hu=>?_⟩⟩
     ·rw[A7f]at hx hu
      split at hx
      ·rename_i hj;rw[if_pos hj]at hu;exact U.2 j x u hx hu
      ·simp at hx
     ·rw[A67]at hx hu;exact U.2 _ x u hx hu
    generalize V%1000000=f at *
    generalize cs0.take (V/1000000)=fs at *
    generalize cs0.drop (V/1000000)=cs at *
    obtain⟨val,ups,G,h5⟩:=hC R r k J β h w g d f _ _ S L m (htk.1.append ((vT SS c.args.toList).append htk.2))
    refine⟨val,ups,G,fun hfr hn=>?_⟩
    have Y:=h5 hfr
    unfold Adj at D
    cases hfn:E.P.funcs[f]? with
    |none=>rw[hfn]at D;simp at D
    | some fn =>
     rw[hfn]at D
     simp at D
     obtain⟨hb1,hb2⟩:=D
     have hb3:fn.body.isNone=false:=by cases hq:fn.body<;>simp_all
     have hargs:(⟨fs⟩:Array Value)++c.args.map a.eval++(⟨cs⟩:Array Value)=(fs++(c.args.toList.map a.eval++cs)).toArray:=by apply A7v;simp
     have M:(execOp a.eval o).run E.P w=.ok (.enter f (fs++(c.args.toList.map a.eval++cs)).toArray) w:=by
      simp only[execOp,A,Sem.run_bind,resolve,T,z,Deferred.ofValue,Sem.run_pure,Result.andThen_ok,invoke,callFunc,run_program,hfn]
      simp only[hb3,hargs]
      simp[hb2]
     unfold Oper.wp
     rw[M]
     refine Calls.mono Y ?_
     rintro e w' ⟨vc,rfl,hd⟩
     exact hn vc w' hd
   ·simp at m
  ·simp at m
 ·simp at m
end
end Gx
namespace Gx
open Go
structure Start where
 J:Bool->Nat->Prop
 β:Dl
 h:A8
 w:World
structure Inv(Z:Start)(nt:Nat)(J:Bool->Nat->Prop)(β:Dl)(st:St)(a:Act)(w:World):Prop where
 sim:SimH J β st.h w
 ss:SimS J β st.h w st.s a.tmps
 tmps:a.tmps.size=nt
 defers:a.defers=[]
 os:w.os=Z.w.os
 tape:w.tape=Z.w.tape
 output:w.output=Z.w.output
 size:Z.w.heap.size<=w.heap.size
 frame:∀ k,k<Z.w.heap.size->¬ Ahb Z.β Z.h k->w.heap[k]?=Z.w.heap[k]?
 wr:∀ k,Ahb β st.h k->k<Z.w.heap.size->Ahb Z.β Z.h k
 jsub:∀ o k,Z.J o k->J o k
 jup:∀ o k,J o k->Z.J o k\/Ahb Z.β Z.h k\/Z.w.heap.size<=k
 sizes:∀ k,Bx Z.w k<=Bx w k
 zlt:∀ b x0,Aq Z.h b=some x0->b<200000
 zge:∀ b x0,Aq Z.h b=some x0->100000<=b
 outs:∀ b x0 x,Aq Z.h b=some x0->Aq st.h b=some x->x.dead=false->(β b=Z.β b/\x.mp=x0.mp)/\x.sz=x0.sz/\(x0.mp=false->x.cells.length=x0.cells.length)/\x0.dead=false
section
variable{R:Type}{r:R}{Z:Start}{nt:Nat}{J J':Bool->Nat->Prop}{β β':Dl}{st:St}{h':A8}{a:Act}{w w':World}{ops:Array Oper}{o:Oper}
def T8{s:J5}{d:Option Nat}{v:AV}{i:Nat}:Jb (Alr nt s d v) i=if d=some i/\i<nt then v else Jb s i:=by
 unfold Alr
 cases d with
|none=>simp
| some d =>
  simp only[A7l]
  cases j:Nat.blt d nt with
  |true =>
   have f:d<nt:=by simpa using j
   simp only[cond_true]
   rw[T7]
   by_cases e:i=d
   ·subst e;simp[f]
   ·rw[if_neg e,if_neg (fun k=>e k.1.symm)]
  |false =>
   have f:¬ d<nt:=by intro l;rw[show Nat.blt d nt=true by simpa using l]at j;cases j
   simp only[cond_false]
   rw[if_neg (fun k=>by obtain⟨m,n⟩:=k;subst m;exact f n)]
def SimS.put{h:A8}{s:J5}{d:Option Nat}{v:AV}{vc:Value}(H:SimS J β h w s a.tmps)(hn:a.tmps.size=nt)(k:Rep J β h w v vc):SimS J β h w (Alr nt s d v) (a.put d vc).tmps:=by
 refine⟨fun i u f=>?_,fun i hi=>?_⟩
 ·rw[T8]
  cases d with
  |none=>simp;exact H.slot i u f
  | some d =>
   simp only[Act.put]at f
   rw[A8n]at f
   by_cases e:d=i
   ·subst e
    simp only[if_true]at f
    by_cases j:d<a.tmps.size
    ·simp[j]at f;subst f
     rw[if_pos ⟨rfl,by omega⟩];exact k
    ·simp[j]at f
   ·rw[if_neg e]at f
    rw[if_neg (fun l=>e (by simpa using l.1))]
    exact H.slot i u f
 ·have hs:(a.put d vc).tmps.size=a.tmps.size:=by cases d<;>simp[Act.put]
  rw[hs]at hi
  rw[T8,if_neg (by omega)]
  exact H.out i hi
def SimS.ext{h:A8}{s:J5}{t:Array Value}(E:Ext J β h w J' β' h' w')(H:SimS J β h w s t):SimS J' β' h' w' s t:=⟨fun i v d=>Rep.ext E (H.slot i v d),H.out⟩
def Inv.step(I:Inv Z nt J β st a w)(A:Step J β st.h w J' β' h' w')(j:∀ b x,Aq h' b=some x->Aq st.h b=none->Kt<=b):Inv Z nt J' β' {s:=st.s,h:=h'} a w' where
 sim:=A.sim
 ss:=I.ss.ext A.ext
 tmps:=I.tmps
 defers:=I.defers
 os:=A.os.trans I.os
 tape:=A.tape.trans I.tape
 output:=A.output.trans I.output
 size:=A6k I.size A.size
 frame k d e:=(A.frame k (A68 d I.size) (fun n=>e (I.wr k n d))).trans (I.frame k d e)
 wr k e d:=I.wr k (A.wr k e (A68 d I.size)) d
 jsub o k q:=A.ext.jsub o k (I.jsub o k q)
 jup o k q:=by
  rcases A.jup o k q with l|l|l
  ·exact I.jup o k l
  ·by_cases d:k<Z.w.heap.size
   ·exact .inr (.inl (I.wr k l d))
   ·exact .inr (.inr (by omega))
  ·exact .inr (.inr (A6k I.size l))
 sizes k:=by
  refine A6k (I.sizes k) ?_
  by_cases e:∃ b o,β b=some (k,o)
  ·obtain⟨b,o,f⟩:=e;exact A.ext.size b k o f
  ·by_cases d:k<w.heap.size
   ·have:=A.frame k d (fun ⟨b,x,o,_,_,_,f⟩=>e ⟨b,o,f⟩)
    simp[Bx,this]
   ·simp[Bx,A66 (A8b d)]
 outs b x0 x u hx v:=by
  cases f:Aq st.h b with
  |none=>have:=j b x hx f;have:=I.zlt b x0 u;unfold Kt at *;omega
  | some y =>
   obtain⟨x',⟨t,gm⟩,m⟩:=A.ext.blk b y f
   change Aq h' b=some x at hx
   rw[hx]at t;simp at t;subst t
   rcases m with m|⟨m,z,C,D⟩
   ·simp[v]at m
   ·obtain⟨⟨e1,em⟩,F,e3,e4⟩:=I.outs b x0 y u f m
    exact⟨⟨z.trans e1,gm.trans em⟩,C.trans F,fun h=>(D (em.trans h)).trans (e3 h),e4⟩
 zlt:=I.zlt
 zge:=I.zge
def Inv.put(I:Inv Z nt J β st a w){d:Option Nat}{v:AV}{vc:Value}(e:Rep J β st.h w v vc):Inv Z nt J β {s:=Alr nt st.s d v,h:=st.h} (a.put d vc) w where
 sim:=I.sim
 ss:=I.ss.put I.tmps e
 tmps:=by cases d<;>simp[Act.put,I.tmps]
 defers:=by cases d<;>simp[Act.put,I.defers]
 os:=I.os
 tape:=I.tape
 output:=I.output
 size:=I.size
 frame:=I.frame
 wr:=I.wr
 jsub:=I.jsub
 jup:=I.jup
 sizes:=I.sizes
 zlt:=I.zlt
 zge:=I.zge
 outs:=I.outs
def vV{d:Nat}{F:List Nat}{h:A8}:∀{ups:J4},jD d F h ups=true->∀ b,Br ups b=true->(SC d b=true/\Aq h b=none)\/(SC d b=false/\K3 F b=true/\∃ x,Aq h b=some x)
|[],_,b,f=>by simp[Br]at f
| (i,_)::r,e,b,f=>by
  rw[jD]at e
  simp at e
  rw[Br]at f
  cases hi:beq i b with
  | true =>
   have:i=b:=A5p hi
   subst this
   cases hn:SC d i with
   |true=>rw[hn]at e;simp at e;exact .inl ⟨rfl,e.1⟩
   |false =>
    rw[hn]at e;simp at e
    obtain⟨⟨j,k⟩,_⟩:=e
    exact .inr ⟨rfl,j,A87.1 k⟩
  |false=>rw[hi]at f;exact vV e.2 b (by simpa using f)
def Ato{d b:Nat}(hn:SC d b=true):Kt<=b:=by
 unfold SC nid at hn
 simp at hn
 unfold Kt;omega
def Ady{d:Nat}{F:List Nat}{h:A8}{ups:J4}(f:jD d F h ups=true){b:Nat}{x:Blk}(hx:Aq (As ups h) b=some x)(hn:Aq h b=none):Kt<=b:=by
 cases hi:Br ups b with
|false=>rw[Dq _ _ _ hi,hn]at hx;cases hx
|true =>
  rcases vV f b hi with⟨j,_⟩|⟨_,_,y,e⟩
  ·exact Ato j
  ·rw[hn]at e;cases e
def Al2{h:A8}{F:List Nat}:Looks (fun b=>cond (K3 F b) (Aq h b) none) h:=fun b x d=>by
 cases e:K3 F b with
|true=>simpa[e]using d
|false=>simp[e]at d
def zR{h:A8}{s:J5}(H:SimS J β h w s a.tmps){t:Bool}(d:VC ops s o=some t):Region.wanted o (yielded ops a.tmps)=t:=by
 unfold VC at d
 unfold Region.wanted
 split at d
 ·rename_i e;rw[e];simpa using d
 ·rename_i j want e
  rw[e]
  simp only
  unfold yielded
  split at d
  ·rename_i t' f
   rw[f]
   simp only[A6s]
   cases l:a.tmps[t']? with
   |none =>
    have:=H.out t' (by simpa using l)
    rw[this]at d;simp at d
   | some v =>
    have hr:=H.slot t' v l
    split at d
    ·rename_i b k
     rw[k,Rep]at hr;subst hr
     simp at d;subst d
     simp
    ·rename_i k
     rw[k,Rep]at hr
     obtain⟨cs,rfl,m⟩:=hr
     rw[Reps]at m;subst m
     simp at d;subst d
     simp
    ·simp at d
  ·rename_i f
   rw[f]
   simp at d;subst d
   simp
def vW{E:Env}(hC:kC E)(I:Inv Z E.nt J β st a w){k:St->Foot->O R}(e:Ag7 E ops o st k=some r){K:Act->World->Prop}{Q:Exit->Act->World->Prop}:
  ∃ st' f,k st' f=some r/\((∀ j w' J' β',Inv Z E.nt J' β' st' j w'->K j w')->if Region.wanted o (yielded ops a.tmps)then o.wp E.P a w K Q else K (a.put o.dst undef) w):=by
 unfold Ag7 at e
 obtain⟨t,m,d⟩:=ub e
 rw[zR I.ss m]
 cases t with
|false =>
  refine⟨_,_,d,fun hK=>?_⟩
  simp only[A7q,if_false]
  exact hK _ _ J β (I.put (by rw[Rep];exact⟨[],rfl,by rw[Reps]⟩))
| true =>
  rw[cond_true]at d
  obtain⟨val,ups,n,q⟩:=Al1 (o:=o) (next:=K) (Q:=Q) hC I.sim I.ss Al2 d
  obtain⟨l,s⟩:=uc n
  refine⟨_,_,s,fun hK=>?_⟩
  simp only[if_true]
  refine q (fun b u hn=>?_) (fun vc w' v=>?_)
  ·rcases vV l b u with⟨_,g⟩|⟨g,_⟩
   ·exact g
   ·rw[hn]at g;cases g
  ·obtain⟨J',β',A,y⟩:=v
   exact hK _ _ J' β' ((I.step A (fun b x hx hn=>Ady l hx hn)).put y)
def Eqv(a b:St):Prop:=(∀ t,Jb a.s t=Jb b.s t)/\(∀ b',Aq a.h b'=Aq b.h b')
def Eqv.refl(a:St):Eqv a a:=⟨fun _=>rfl,fun _=>rfl⟩
def Eqv.symm{a b:St}(h:Eqv a b):Eqv b a:=⟨fun t=>(h.1 t).symm,fun t=>(h.2 t).symm⟩
def Eqv.trans{a b c:St}(h:Eqv a b)(k:Eqv b c):Eqv a c:=⟨fun t=>(h.1 t).trans (k.1 t),fun t=>(h.2 t).trans (k.2 t)⟩
def Inv.eqv{nt:Nat}{J:Bool->Nat->Prop}{β:Dl}{st st2:St}{a:Act}{w:World}(I:Inv Z nt J β st a w)(h:Eqv st st2):Inv Z nt J β st2 a w:=by
 have hr:∀{x v},Rep J β st.h w x v->Rep J β st2.h w x v:=fun hx=>Rep.ext ⟨fun _ _ f=>f,fun _ _ _=>rfl,fun b x d=>⟨x,⟨by rw[<-h.2 b];exact d,rfl⟩,by cases e:x.dead<;>simp⟩,fun _ _ _ _=>A49 _⟩ hx
 refine⟨⟨I.sim.jlt,I.sim.jft,I.sim.gl,fun b x d e l=>?_,fun b x d e l=>I.sim.mblk b x (by rw[h.2];exact d) e l,fun b s x x' k o o' d m=>I.sim.sep b s x x' k o o' (by rw[h.2];exact d) (by rw[h.2];exact m)⟩,⟨fun i v t=>by rw[<-h.1 i];exact hr (I.ss.slot i v t),fun i hi=>by rw[<-h.1 i];exact I.ss.out i hi⟩,I.tmps,I.defers,I.os,I.tape,I.output,I.size,I.frame,?_,I.jsub,I.jup,I.sizes,I.zlt,I.zge,fun b x0 x y hx=>I.outs b x0 x y (by rw[h.2];exact hx)⟩
 ·rcases I.sim.blk b x (by rw[h.2];exact d) e l with n|⟨k,o,cs,ty,fr,n,z,A,C,q,D⟩
  ·exact .inl n
  ·exact .inr ⟨k,o,cs,ty,fr,n,z,A,C,⟨q.1,fun F j c f=>by
    obtain⟨u,G,L,M⟩:=q.2 F j c f
    exact⟨u,G,hr L,M⟩⟩,D⟩
 ·rintro k ⟨b,x,o,d,e,hs,S⟩ T
  exact I.wr k ⟨b,x,o,by rw[h.2];exact d,e,hs,S⟩ T
def vX{st:St}{k:St->O R}(d:pQ ops o st k=some r):∃ st',Eqv st st'/\k st'=some r:=by
 unfold pQ at d
 split at d
 ·exact⟨st,Eqv.refl _,d⟩
 ·rename_i j want n
  split at d
  ·exact⟨st,Eqv.refl _,d⟩
  ·rename_i t q
   split at d
   ·rename_i b l
    have key:∀ c:Bool,b=c->Eqv st {s:=ju st.s t (.bool c),h:=st.h}:=by
     intro c m
     refine⟨fun i=>?_,fun _=>rfl⟩
     simp only
     rw[T7]
     by_cases e:i=t
     ·subst e;rw[if_pos rfl,l,m]
     ·rw[if_neg e]
    cases f:(b==want)with
    |true =>
     rw[f]at d
     exact⟨_,key want (by simpa using f),d⟩
    |false =>
     rw[f]at d
     exact⟨_,key (!want) (by cases b<;>cases want<;>simp_all),d⟩
   ·exact⟨st,Eqv.refl _,d⟩
def vY{E:Env}(hC:kC E){Q:Exit->Act->World->Prop}:∀(l:List Oper){st:St}{tr:List Foot}{k:St->List Foot->O R}{a:Act}{w:World}{J:Bool->Nat->Prop}{β:Dl},
  Inv Z E.nt J β st a w->vI E ops l st tr k=some r->(∀ st' e j w' J' β',Inv Z E.nt J' β' st' j w'->k st' e=some r->Q .normal j w')->wpList E.P ops Q l a w
|[],st,tr,k,a,w,J,β,I,d,hQ=>hQ st tr a w J β I d
|o::l,st,tr,k,a,w,J,β,I,d,hQ=>by
  rw[vI]at d
  obtain⟨Apf,n,d⟩:=vX d
  obtain⟨st',f,q,s⟩:=vW (K:=wpList E.P ops Q l) (Q:=Q) hC (I.eqv n) d
  have:=s (fun j w' J' β' I'=>vY hC l I' q hQ)
  rw[wpList]
  split
  ·rename_i m;rw[if_pos m]at this;exact .inl this
  ·rename_i m;rw[if_neg m]at this;exact this
end
end Gx
namespace Gx
open Go
def Qc:∀{l:List Nat}{b:Nat},K3 l b=true↔b∈l
  |[],b=>by simp[K3]
  | i::r,b=>by
    rw[K3]
    cases hi:beq i b with
    |true=>have:=A5p hi;subst this;simp
    | false => have := GR hi; simp only [cond_false, A5b]; rw [Qc]; constructor
               · exact fun h=>.inr h
               · rintro(h | h)
                 · exact absurd h.symm this
                 · exact h
def AS:∀{l:List Nat},bO l=true->l.Nodup
|[],_=>A9u
|i::r,h=>by
  rw[bO]at h;simp at h
  refine A6f.2 ⟨fun d=>?_,AS h.2⟩
  rw[Qc.2 d]at h;simp at h
def pY{g:Cg}{ids:List Nat}:∀{l:List Nat},vK g ids l=true->∀ b∈l,∀ x,Ms g b=some x->b∈ids
|[],_,b,d,_,_=>by simp at d
| i::r,h,b,d,x,hx=>by
  rw[vK]at h;simp at h
  rcases A5b.1 d with e|d
  ·subst e
   rcases h.1 with f|f
   ·exact Qc.1 f
   ·rw[hx]at f;simp at f
  ·exact pY h.2 b d x hx
def Ahm:∀{l:List Nat},Apa l=true->∀ b∈l,Kt<=b->Qa b<100000
|[],_,b,d,_=>by simp at d
| i::r,h,b,d,hn=>by
  rw[Apa]at h;simp at h
  rcases A5b.1 d with e|d
  ·subst e
   have:ble Kt b=true:=by simpa using hn
   rw[this]at h;simpa using h.1
  ·exact Ahm h.2 b d hn
def KK(g:Cg):∀ c:LA,(Oq g c).length=c.length
|[]=>rfl
|x::r=>by rw[Oq,A42,A42,KK g r]
section
variable{R:Type}{r:R}{Z:Start}{nt:Nat}{J J':Bool->Nat->Prop}{β β':Dl}{st:St}{h h':A8}{a:Act}{w w':World}{ids:List Nat}
def Sn(g:Cg)(x:Blk):Blk:={x with cells:=cond x.pure x.cells (Oq g x.cells)}
def kE{g:Cg}:∀{ids:List Nat},(ids.map Qa).Nodup->∀ c y,Aq (KG g ids) c=some y->∃ b x,b∈ids/\Qa b=c/\Ms g b=some x/\y=Sn g x
|[],_,c,y,d=>by simp[KG,Aq]at d
| b::r,hn,c,y,d=>by
  rw[A5c,A6f]at hn
  rw[KG]at d
  split at d
  ·rename_i x hx
   rw[Ai]at d
   by_cases e:c=Qa b
   ·rw[if_pos e]at d;simp at d
    exact⟨b,x,by simp,e.symm,hx,d.symm⟩
   ·rw[if_neg e]at d
    obtain⟨f,x',j,k,l,m⟩:=kE hn.2 c y d
    exact⟨f,x',by simp[j],k,l,m⟩
  ·obtain⟨f,x',j,k,l,m⟩:=kE hn.2 c y d
   exact⟨f,x',by simp[j],k,l,m⟩
def KL{g:Cg}:∀{ids:List Nat},(ids.map Qa).Nodup->∀ b x,b∈ids->Ms g b=some x->Aq (KG g ids) (Qa b)=some (Sn g x)
|[],_,b,x,d,_=>by simp at d
| j::r,hn,b,x,d,hx=>by
  rw[A5c,A6f]at hn
  rw[KG]
  by_cases e:b=j
  ·subst e
   rw[hx]
   simp only
   rw[Ai,if_pos rfl];rfl
  ·have f:b∈r:=by simpa[e]using d
   have ne:Qa b≠Qa j:=fun h=>hn.1 (by rw[<-h];exact A5o.2 ⟨b,f,rfl⟩)
   split
   ·rw[Ai,if_neg ne];exact KL hn.2 b x f hx
   ·exact KL hn.2 b x f hx
def vZ(ids:List Nat)(c:Nat):Option Nat:=ids.find? fun b=>beq (Qa b) c
def Qq(hn:(ids.map Qa).Nodup){b:Nat}(d:b∈ids):vZ ids (Qa b)=some b:=by
 induction ids with
|nil=>simp at d
| cons i r f =>
  rw[A5c,A6f]at hn
  unfold vZ at f ⊢
  rw[List.find?_cons]
  by_cases e:b=i
  ·subst e;simp
  ·have j:b∈r:=by simpa[e]using d
   have ne:Qa i≠Qa b:=fun h=>hn.1 (by rw[h];exact A5o.2 ⟨b,j,rfl⟩)
   rw[bV ne];exact f hn.2 j
def Aym(g:Cg)(ids:List Nat)(l:List Nat):Prop:=∀ b∈l,∀ x,Ms g b=some x->b∈ids
def Aqs{b:Nat}:Ms (Aq h) b=(Aq h b).bind fun x=>cond x.dead none (some x):=rfl
def kF{b:Nat}{x y:Blk}(hx:Aq h b=some x)(d:Ms (Aq h) b=some y):y=x/\x.dead=false:=by
 rw[Aqs,hx]at d
 cases e:x.dead with
|true=>simp[e]at d
|false=>simp[e]at d;exact⟨d.symm,rfl⟩
mutual
def Rep.clean(hn:(ids.map Qa).Nodup):∀{x:AV}{v:Value},Aym (Aq h) ids (J6 x)->Rep J β h w x v ->
  Rep J (fun c=>(vZ ids c).bind β) (KG (Aq h) ids) w (KE (Aq h) x) v
| .own b off n,v,hm,hr=>by
  rw[Rep]at hr
  obtain⟨x,A,cap,⟨hx,hmp⟩,h1,h2,h3⟩:=hr
  rw[KE]
  cases hv:Ms (Aq h) b with
  |none=>simp only;rw[Rep];trivial
  | some y =>
   obtain⟨rfl,hd⟩:=kF hx hv
   have hb:=hm b (by simp[J6]) _ hv
   simp only
   rw[Rep]
   refine⟨Sn (Aq h) y,A,cap,⟨KL hn b y hb hv,hmp⟩,h1,h2,?_⟩
   rcases h3 with h3|⟨k,o,h4,h5⟩
   ·exact .inl h3
   ·refine .inr ⟨k,o,h4,?_⟩
    rcases h5 with h5|⟨h5,h6,h7⟩
    ·simp[hd]at h5
    ·refine .inr ⟨by rw[Qq hn hb];exact h5,h6,?_⟩
     have:(Sn (Aq h) y).cells.length=y.cells.length:=by
      unfold Sn;cases y.pure
      ·simp;exact KK _ _
      ·rfl
     rw[this];exact h7
| .optr b off,v,hm,hr=>by
  rw[Rep]at hr
  obtain⟨x,k,o,⟨hx,hmp⟩,h1,h2⟩:=hr
  rw[KE]
  cases hv:Ms (Aq h) b with
  |none=>simp only;rw[Rep];trivial
  |some y =>
   obtain⟨rfl,hd⟩:=kF hx hv
   have hb:=hm b (by simp[J6]) _ hv
   simp only
   rw[Rep]
   refine⟨Sn (Aq h) y,k,o,⟨KL hn b y hb hv,hmp⟩,h1,?_⟩
   rcases h2 with h2|h2
   ·simp[hd]at h2
   ·exact .inr (by rw[Qq hn hb];exact h2)
| .omap b,v,hm,hr=>by
  rw[Rep]at hr
  obtain⟨x,k,⟨hx,hmp⟩,h2⟩:=hr
  rw[KE]
  cases hv:Ms (Aq h) b with
  |none=>simp only;rw[Rep];trivial
  |some y =>
   obtain⟨rfl,hd⟩:=kF hx hv
   have hb:=hm b (by simp[J6]) _ hv
   simp only
   rw[Rep]
   refine⟨Sn (Aq h) y,k,⟨KL hn b y hb hv,hmp⟩,?_⟩
   rcases h2 with h2|h2
   ·simp[hd]at h2
   ·exact .inr (by rw[Qq hn hb];exact h2)
|.agg c,v,hm,hr=>by
  rw[Rep]at hr
  obtain⟨cs,h1,h2⟩:=hr
  rw[KE,Rep]
  exact⟨cs,h1,Reps.clean hn (by simpa[J6]using hm) h2⟩
|.tup c,v,hm,hr=>by
  rw[Rep]at hr
  obtain⟨cs,h1,h2⟩:=hr
  rw[KE,Rep]
  exact⟨cs,h1,Reps.clean hn (by simpa[J6]using hm) h2⟩
|.fn f c,v,hm,hr=>by
  rw[Rep]at hr
  obtain⟨cs,h1,h2⟩:=hr
  rw[KE,Rep]
  exact⟨cs,h1,Reps.clean hn (by simpa[J6]using hm) h2⟩
|.pagg c o,v,hm,hr=>by show Rep J _ _ w (.pagg c o) v;rw[Rep]at hr ⊢;exact hr
|.undef,v,hm,hr=>by show Rep J _ _ w .undef v;rw[Rep]at hr ⊢;exact hr
|.imm c n sz t o,v,hm,hr=>by show Rep J _ _ w (.imm c n sz t o) v;rw[Rep]at hr ⊢;exact hr
|.iptr c o,v,hm,hr=>by show Rep J _ _ w (.iptr c o) v;rw[Rep]at hr ⊢;exact hr
|.int k n,v,hm,hr=>by show Rep J _ _ w (.int k n) v;rw[Rep]at hr ⊢;exact hr
|.bool b,v,hm,hr=>by show Rep J _ _ w (.bool b) v;rw[Rep]at hr ⊢;exact hr
|.str s,v,hm,hr=>by show Rep J _ _ w (.str s) v;rw[Rep]at hr ⊢;exact hr
|.nsl,v,hm,hr=>by show Rep J _ _ w .nsl v;rw[Rep]at hr ⊢;exact hr
|.nilptr,v,hm,hr=>by show Rep J _ _ w .nilptr v;rw[Rep]at hr ⊢;exact hr
|.nilfn,v,hm,hr=>by show Rep J _ _ w .nilfn v;rw[Rep]at hr ⊢;exact hr
def Reps.clean(hn:(ids.map Qa).Nodup):∀{c:List AV}{cs:List Value},Aym (Aq h) ids (Mt c)->Reps J β h w c cs ->
  Reps J (fun c=>(vZ ids c).bind β) (KG (Aq h) ids) w (Oq (Aq h) c) cs
|[],cs,hm,hr=>by rw[Reps]at hr;rw[Oq,Reps];exact hr
|x::r,cs,hm,hr=>by
  rw[Reps]at hr
  obtain⟨u,us,h1,h2,h3⟩:=hr
  rw[Oq,Reps]
  exact⟨u,us,h1,Rep.clean hn (fun b hb=>hm b (by simp[Mt,hb])) h2,Reps.clean hn (fun b hb=>hm b (by simp[Mt,hb])) h3⟩
end
def OD{g:Cg}{K:List Nat}:∀{s:J5}{i:Nat},Jb (pR g K s) i=if K3 K i=true then KE g (Jb s i)else .undef
|[],i=>by
  simp only[pR,Jb]
  show AV.undef=if K3 K i=true then AV.undef else AV.undef
  split<;>rfl
| (t,v)::r,i=>by
  rw[pR,Jb]
  cases d:K3 K t with
  | true =>
   simp only[cond_true,Jb]
   cases hi:beq t i with
   |true =>
    have:=A5p hi;subst this
    simp[d]
   |false=>simp only[cond_false];exact OD
  | false =>
   simp only[cond_false]
   rw[OD]
   cases hi:beq t i with
   |true =>
    have:=A5p hi;subst this
    simp[d]
   |false=>rfl
def v7{K:List Nat}:∀{s:J5}{i:Nat},K3 K i=true->∀ b∈J6 (Jb s i),b∈vJ K s
|[],i,_,b,d=>by simp[Jb,J6]at d
| (t,v)::r,i,e,b,d=>by
  rw[Jb]at d
  rw[vJ]
  cases hi:beq t i with
  |true =>
   have:=A5p hi;subst this
   rw[hi]at d
   rw[e];simp at d ⊢;exact .inl d
  |false =>
   rw[hi]at d
   have:=v7 e b d
   cases K3 K t
   ·exact this
   ·simp;exact .inr this
def pZ{g:Cg}:∀{ids:List Nat}{b:Nat}{x:Blk},b∈ids->g b=some x->x.pure=false->∀ c∈Mt x.cells,c∈P9 g ids
|[],b,x,d,_,_,_,_=>by simp at d
|i::r,b,x,d,hx,f,c,j=>by
  rw[P9]
  by_cases e:b=i
  ·subst e;rw[hx];simp only[f,cond_false];exact A5d.2 (.inl j)
  ·exact A5d.2 (.inr (pZ (by simpa[e]using d) hx f c j))
def p_:∀{c:LA}{j:Nat}{x:AV},c[j]?=some x->∀ b∈J6 x,b∈Mt c
|[],j,x,d,_,_=>by simp at d
|y::r,j,x,d,b,e=>by
  rw[Mt]
  cases j with
  |zero=>simp at d;subst d;exact A5d.2 (.inl e)
  |succ j=>exact A5d.2 (.inr (p_ (by simpa using d) b e))
def r9{g:Cg}:∀{c:LA}{j:Nat}{y:AV},(Oq g c)[j]?=some y->∃ x,c[j]?=some x/\y=KE g x
|[],j,y,d=>by simp[Oq]at d
|x::r,j,y,d=>by
  rw[Oq]at d
  cases j with
  |zero=>simp at d;exact⟨x,by simp,d.symm⟩
  |succ j=>obtain⟨x',e,f⟩:=r9 (c:=r) (j:=j) (by simpa using d);exact⟨x',by simpa using e,f⟩
def Aqt{b:Nat}(d:b<Kt):Qa b=b:=by
 unfold Qa
 have:ble Kt b=false:=by
  cases h:ble Kt b with
  |false=>rfl
  |true=>have:=Nat.le_of_ble_eq_true h;omega
 rw[this];rfl
def Ahn{K roots:List Nat}{st':St}(I:Inv Z nt J β st a w)(hh:clean K roots st=some st'):∃ β',Inv Z nt J β' st' a w:=by
 unfold clean at hh
 obtain⟨hc,h1⟩:_/\_:=uc hh
 simp only[A47]at hc
 obtain⟨c1,c2,c3,c4⟩:=hc
 generalize hids:OC (Aq st.h) (KD (Aq st.h) (vJ K st.s++roots))=ids at *
 simp at h1
 have hn:=AS c1
 have blk:∀ c y,Aq (KG (Aq st.h) ids) c=some y->∃ b x,b∈ids/\Qa b=c/\Aq st.h b=some x/\x.dead=false/\y=Sn (Aq st.h) x:=by
  intro c y l
  obtain⟨b,x,n,t,C,D⟩:=kE hn c y l
  have hx:Aq st.h b=some x/\x.dead=false:=Qp (fun _ _ h=>h) C
  exact⟨b,x,n,t,hx.1,hx.2,D⟩
 have m:∀ x:Blk,(Sn (Aq st.h) x).cells.length=x.cells.length:=fun x=>by
  unfold Sn;cases x.pure
  ·simp;exact KK _ _
  ·rfl
 refine⟨fun c=>(vZ ids c).bind β,?_⟩
 subst h1
 refine⟨⟨I.sim.jlt,I.sim.jft,I.sim.gl,fun c y l T X=>?_,fun c y l T X=>by
   obtain⟨b,x,e,rfl,hx,d,rfl⟩:=blk c y l
   obtain⟨n,t,k,ob,C,D,U,Y⟩:=I.sim.mblk b x hx d X
   have:(Sn (Aq st.h) x).cells=x.cells:=by unfold Sn;rw[n];rfl
   exact⟨n,t,k,ob,by simp only[Qq hn e,A6s];exact C,D,by rw[ObjIs,show(Sn (Aq st.h) x).sz=x.sz from rfl,this];exact U,Y⟩,?_⟩,⟨fun i v hv=>?_,fun i hi=>?_⟩,I.tmps,I.defers,I.os,I.tape,I.output,I.size,I.frame,?_,I.jsub,I.jup,I.sizes,I.zlt,I.zge,?_⟩
 ·obtain⟨b,x,e,rfl,hx,d,rfl⟩:=blk c y l
  rcases I.sim.blk b x hx d X with⟨n,t⟩|⟨k,o,cs,ty,fr,n,t,C,D,U,Y,g7⟩
  ·refine .inl ⟨by simp only[Qq hn e,A6s];exact n,?_⟩
   have:=m x;rw[t]at this;simpa using this
  ·refine .inr ⟨k,o,cs,ty,fr,by simp only[Qq hn e,A6s];exact n,t,C,by rw[m];exact D,⟨fun hp=>?_,fun hp j q hj=>?_⟩,Y,g7⟩
   ·have f:x.pure=true:=hp
    have:(Sn (Aq st.h) x).cells=x.cells:=by unfold Sn;rw[f];rfl
    rw[this];exact U.1 f
   ·have f:x.pure=false:=hp
    have:(Sn (Aq st.h) x).cells=Oq (Aq st.h) x.cells:=by unfold Sn;rw[f];rfl
    rw[this]at hj
    obtain⟨q',hq,rfl⟩:=r9 hj
    obtain⟨u,hu,hr,ho⟩:=U.2 f j q' hq
    exact⟨u,hu,Rep.clean hn (fun F z x' A=>pY c3 F (pZ e hx f F (p_ hq F z)) x' A) hr,ho⟩
 ·intro c c' y y' k o o' l hy' T hd' hs G L
  obtain⟨b,x,e,rfl,hx,d,rfl⟩:=blk c y l
  obtain⟨F,x',z,rfl,A,M,rfl⟩:=blk c' y' hy'
  simp only[Qq hn e,A6s]at G
  simp only[Qq hn z,A6s]at L
  rw[I.sim.sep b F x x' k o o' hx A d M hs G L]
 ·rw[OD]
  split
  ·rename_i hk
   exact Rep.clean hn (fun b e x hx=>pY c2 b (v7 hk b e) x hx) (I.ss.slot i v hv)
  ·rw[Rep];trivial
 ·rw[OD,I.ss.out i hi]
  split
  ·rfl
  ·rfl
 ·rintro k ⟨c,y,o,l,T,hs,G⟩ hk
  obtain⟨b,x,e,rfl,hx,d,rfl⟩:=blk c y l
  simp only[Qq hn e,A6s]at G
  exact I.wr k ⟨b,x,o,hx,d,hs,G⟩ hk
 ·intro c x0 y V l T
  obtain⟨b,x,e,rfl,hx,d,rfl⟩:=blk c y l
  have hlt:=I.zlt _ _ V
  have hge:=I.zge _ _ V
  have S:Qa b=b:=by
   by_cases hnb:Kt<=b
   ·have:=Ahm c4 b e hnb;omega
   ·exact Aqt (by omega)
  rw[S]at V
  obtain⟨⟨e1,em⟩,e2,e3,e4⟩:=I.outs b x0 x V hx d
  refine⟨⟨?_,em⟩,e2,by rw[m];exact e3,e4⟩
  simp only[Qq hn e,A6s];rw[S];exact e1
end
end Gx
namespace Gx
open Go
section
variable{R:Type}
def A1{α β:Type}(b:Bool)(x y:Option α)(f:α->Option β):(cond b x y).bind f=cond b (x.bind f) (y.bind f):=by cases b<;>rfl
def IB{R':Type}(P:Program)(t:TypeId)(c:LA)(o:Bool)(k:Bool->Option R')(f:R'->O R):(HZ P t c o k).bind f=HZ P t c o fun o=>(k o).bind f:=by unfold HZ;simp only[A1,A8j]
def AT(P:Program)(t:TypeId)(c:LA)(org:Bool)(k:AV->O R):bI P t c org k=(bI P t c org some).bind k:=by
 unfold bI
 split<;>simp[A5a,A1,IB]<;>rfl
def Al3(P:Program)(t:TypeId)(c:LA)(k:AV->O R):rS P t c k=(rS P t c some).bind k:=by
 unfold rS
 split<;>simp[A5a,A1]
def r_(n:Nat)(k:AV->O R):∀(c:LA)(i:Nat),U' n k c i=(U' n some c i).bind k
|[],_=>rfl
|v::r,i=>by rw[U',U',A1,r_ n k r (i+1)];rfl
def ra(P:Program)(t:TypeId)(c:LA)(off:Nat)(k:AV->O R):bJ P t c off k=(bJ P t c off some).bind k:=by
 unfold bJ
 split
 ·simp[A5a,A1]
 ·simp[A5a,A1]
 ·exact r_ ..
 ·rfl
def VL(P:Program)(g:Cg)(t:TypeId)(p:AV)(k:AV->O R):vF P g t p k=(vF P g t p some).bind k:=by
 unfold vF
 split
 ·exact AT ..
 ·rw[A5a]
  congr 1;funext x
  rw[A1,<-AT,<-ra]
 ·rfl
def YY(P:Program)(t:TypeId)(x i:AV)(k:AV->O R):AP P t x i k=(AP P t x i some).bind k:=by
 unfold AP
 split<;>simp[A5a,A1]
def YZ(P:Program)(t:TypeId)(x:AV)(f:Nat)(k:AV->O R):AQ P t x f k=(AQ P t x f some).bind k:=by
 unfold AQ
 simp only[A5a,A1]
 congr 1;funext p;congr 1;funext n;congr 1
 split<;>rfl
def rc(P:Program)(t:TypeId)(x:AV)(f:Nat)(k:AV->O R):pH P t x f k=(pH P t x f some).bind k:=by
 unfold pH
 rw[A5a]
 congr 1;funext p
 split
 ·exact AT ..
 ·exact Al3 ..
 ·rfl
def rf(P:Program)(t:TypeId)(x i:AV)(k:AV->O R):pI P t x i k=(pI P t x i some).bind k:=by
 unfold pI
 split
 ·simp[A1]
 ·simp only[A5a,A1,<-AT];rfl
 ·simp only[A5a,A1,<-ra];rfl
 ·rfl
def IC{α:Type}(lo hi mx:Option AV)(n:Nat)(f:Nat->Nat->α)(k:α->O R):(H_ lo hi mx n fun l h=>k (f l h))=(H_ lo hi mx n fun l h=>some (f l h)).bind k:=by
 unfold H_
 simp[A5a,A1]
def rg(P:Program)(g:Cg)(t:TypeId)(x:AV)(lo hi mx:Option AV)(k:AV->O R):pJ P g t x lo hi mx k=(pJ P g t x lo hi mx some).bind k:=by
 unfold pJ
 split
 ·rw[A1,<-IC];rfl
 ·rw[A5a];congr 1;funext _;exact IC lo hi mx 0 (fun _ _=>AV.nsl) k
 ·rw[A5a];congr 1;funext _;rw[A1,<-IC];rfl
 ·rw[A5a];congr 1;funext _;rw[A5a];congr 1;funext _;rw[A1,<-IC];rfl
 ·simp only[A5a,A1];rfl
 ·rfl
def Aqu(P:Program)(t:TypeId)(op:BinOp)(x y:AV)(k:AV->O R):Aql P t op x y k=(Aql P t op x y some).bind k:=by
 unfold Aql
 split
 ·split<;>simp[A1]
 ·split<;>simp[A1]
 ·split<;>simp[A1]
 ·rfl
def pr(v:AV)(u:J4):Option (AV×J4):=some (v,u)
def Aho(P:Program)(g:Cg)(t:TypeId)(p v:AV)(k:AV->J4->O R):pK P g t p v k=(pK P g t p v pr).bind fun q=>k q.1 q.2:=by
 unfold pK
 split
 ·simp only[A5a,A1]
  congr 1;funext x;congr 1;funext n;congr 1;congr 1
  split<;>simp[A1,pr]
 ·rfl
def kG(P:Program)(c:LA)(org:Bool):∀(L:List (Nat×TypeId))(d:LA)(k:LA->O R),lf P c org L d k=(lf P c org L d some).bind k
|[],d,k=>rfl
|(off,t)::L,d,k=>by
  rw[lf,lf,A1]
  congr 1
  rw[AT,AT (k:=fun v=>lf P c org L (d++[v]) some),A5a]
  congr 1;funext v
  exact kG P c org L _ k
def ri(P:Program)(co:Bool)(t:TypeId)(v:AV)(k:AV->O R):pN P co t v k=(pN P co t v some).bind k:=by
 unfold pN
 split
 ·rename_i c org
  rw[kG,kG (k:=fun l=>cond (beq c.length l.length) (some (AV.agg l)) none),A5a]
  congr 1;funext l
  rw[A1];rfl
 ·rfl
def Abf(P:Program)(g:Cg)(d:Nat)(t:TypeId)(v:AV)(k:AV->J4->O R):Ag4 P g d t v k=(Ag4 P g d t v pr).bind fun q=>k q.1 q.2:=by
 unfold Ag4
 split<;>simp[A5a,A1,pr]
def pd(P:Program)(g:Cg)(d:Nat)(t:TypeId)(len:Nat)(ps:List (Nat×AV))(k:AV->J4->O R):Xr P g d t len ps k=(Xr P g d t len ps pr).bind fun q=>k q.1 q.2:=by
 unfold Xr
 split<;>simp[A5a,A1,pr,EA]
def Adz(P:Program)(g:Cg)(t:TypeId)(ps:List (Nat×AV))(k:AV->J4->O R):fY P g t ps k=(fY P g t ps pr).bind fun q=>k q.1 q.2:=by
 unfold fY
 simp[A5a,pr,EA]
def Aqv(P:Program)(t:TypeId)(co:Bool)(d:Nat)(v:AV)(k:AV->J4->O R):Aqn P t co d v k=(Aqn P t co d v pr).bind fun q=>k q.1 q.2:=by
 unfold Aqn
 split<;>simp[A1,pr]
def Al4(P:Program)(d:Nat)(t:TypeId)(l c:AV)(k:AV->J4->O R):Aa6 P d t l c k=(Aa6 P d t l c pr).bind fun q=>k q.1 q.2:=by
 unfold Aa6
 split<;>simp[A5a,A1,pr]
def Ad0(P:Program)(g:Cg)(d:Nat)(t tx:TypeId)(s x:AV)(k:AV->J4->O R):f4 P g d t tx s x k=(f4 P g d t tx s x pr).bind fun q=>k q.1 q.2:=by
 unfold f4 jv
 split<;>simp[A5a,A1,pr,IB]
def Al5(P:Program)(g:Cg)(t:TypeId)(s x:AV)(k:AV->J4->O R):Aa7 P g t s x k=(Aa7 P g t s x pr).bind fun q=>k q.1 q.2:=by
 unfold Aa7 jv
 split
 ·simp only[A5a,A1,IB];rfl
 ·simp[A5a,A1,pr,IB]
 ·rfl
def Ad1(P:Program)(g:Cg)(d:Nat)(t:TypeId)(k:AV->J4->O R):fZ P g d t k=(fZ P g d t pr).bind fun q=>k q.1 q.2:=by
 unfold fZ
 split<;>simp[A1,pr]
def Al6(P:Program)(g:Cg)(d:Nat)(src dst:TypeId)(x:AV)(k:AV->J4->O R):Aa8 P g d src dst x k=(Aa8 P g d src dst x pr).bind fun q=>k q.1 q.2:=by
 unfold Aa8
 split
 ·split<;>simp[A1,pr]
 ·split
  ·split<;>simp[pr]
  ·split
   ·split<;>simp[A5a,pr]
   ·rfl
  ·rfl
 ·split
  ·rw[A1,A5a];simp only[A1];rfl
  ·rfl
  ·rfl
 ·rfl
def kH{R':Type}{f:R'->O R}{s1:TypeId->LA->LA->(Bool->Option R')->Option R'}{s2:TypeId->LA->LA->(Bool->O R)->O R}(hs:∀ t x y k,(s1 t x y k).bind f=s2 t x y fun b=>(k b).bind f){x y:LA}:
  ∀(l:List (Nat×TypeId))(k:Bool->Option R'),(RZ s1 x y l k).bind f=RZ s2 x y l fun b=>(k b).bind f
|[],k=>rfl
|(o,t)::r,k=>by
  rw[RZ,RZ,hs]
  congr 1;funext b
  exact kH hs r _
def fe{R':Type}{f:R'->O R}(P:Program):∀(d:Nat)(t:TypeId)(x y:LA)(k:Bool->Option R'),(tW P d t x y k).bind f=tW P d t x y fun b=>(k b).bind f
|0,t,x,y,k=>rfl
|d+1,t,x,y,k=>by
  rw[tW,tW]
  split<;>simp only[A5a,A1,A8j]
  ·congr 1;funext sz;rw[kH (fe P d)]
  ·congr 1;funext s;congr 1;funext sz;rw[kH (fe P d)]
def v8(P:Program)(t:TypeId)(op:BinOp)(x y:AV)(k:AV->O R):Aa4 P t op x y k=(Aa4 P t op x y some).bind k:=by
 unfold Aa4
 split
 ·rw[A5a]
  congr 1;funext s
  rw[A1]
  congr 1
  split
  ·rw[fe];rfl
  ·rw[fe];rfl
  ·rfl
 ·exact Aqu ..
def v_(c x y:AV)(k:AV->O R):Abb c x y k=(Abb c x y some).bind k:=by
 unfold Abb
 split<;>first|rfl|(rw[A1];rfl)
def Ahp(P:Program)(g:Cg)(co:Bool)(d:Nat)(t:TypeId)(k:AV->J4->O R):pM P g co d t k=(pM P g co d t pr).bind fun q=>k q.1 q.2:=by
 unfold pM
 split
 ·rw[A5a];rfl
 ·exact Abf ..
 ·rfl
def va:∀(T:List (Nat×Tw))(f:Nat)(d:LA)(h:A8)(k:AV->A8->O R),lh T f d h k=(lh T f d h fun v h'=>some (v,h')).bind fun p=>k p.1 p.2
|[],f,d,h,k=>rfl
|(g,t)::r,f,d,h,k=>by
  rw[lh,lh]
  cases beq g f
  ·exact va r f d h k
  ·exact t.eq d h k
def Al7(E:Env)(g:Cg)(d f:Nat)(e:LA)(k:AV->J4->O R):Aba E g d f e k=(Aba E g d f e pr).bind fun q=>k q.1 q.2:=by
 unfold Aba
 rw[A5a]
 congr 1;funext q
 simp only[A1,A8j]
 congr 1
 rw[va,va (R:=AV×J4),A5a]
 congr 1;funext p
 simp only[A1,A8j,pr,A6s]
def Ahq(P:Program)(d:Nat)(t:TypeId)(x:AV)(k:AV->J4->O R):pP P d t x k=(pP P d t x pr).bind fun q=>k q.1 q.2:=by
 unfold pP
 split<;>rfl
def Al8(g:Cg)(it:AV)(b:Bool)(k:AV->J4->O R):Aa9 g it b k=(Aa9 g it b pr).bind fun q=>k q.1 q.2:=by
 unfold Aa9
 split
 ·rw[A5a];congr 1;funext x
  rw[A1];congr 1
  split
  ·rename_i s p _
   cases decide (p<(s.length:Int))<;>rfl
  ·rfl
 ·rfl
def Aqw(E:Env)(g:Cg)(d:Nat)(v:Operand->AV)(o:Op)(k:AV->J4->O R):zM E g d v o k=(zM E g d v o pr).bind fun q=>k q.1 q.2:=by
 unfold zM
 split
 ·rfl
 ·rfl
 ·rw[v_,v_ (k:=fun r=>pr r []),A5a];rfl
 ·rw[A1,<-Ad1,<-Ahp]
 ·rw[ri,ri (k:=fun u=>Ag4 E.P g d _ u pr),A5a];congr 1;funext u;exact Abf ..
 ·rw[A1,<-Adz];congr 1;rw[jz,jz,A5a];congr 1;funext x;exact Aqv ..
 ·exact pd ..
 ·rw[VL,VL (k:=fun r=>pr r []),A5a];rfl
 ·exact Aho ..
 ·split<;>rfl
 ·rw[v8,v8 (k:=fun r=>pr r []),A5a];rfl
 ·rw[A5a];rfl
 ·exact Al6 ..
 ·rw[A1];rfl
 ·exact Al4 ..
 ·rw[rg,rg (k:=fun r=>pr r []),A5a];rfl
 ·rw[YZ,YZ (k:=fun r=>pr r []),A5a];rfl
 ·rw[rc,rc (k:=fun r=>pr r []),A5a];rfl
 ·rw[YY,YY (k:=fun r=>pr r []),A5a];rfl
 ·rw[rf,rf (k:=fun r=>pr r []),A5a];rfl
 ·exact Ahq ..
 ·exact Al8 ..
 ·split
  ·rw[A5a];rfl
  ·rfl
 ·split
  ·split
   ·rw[A5a];rfl
   ·rfl
  ·split
   ·exact Ad0 ..
   ·rfl
  ·split
   ·exact Al5 ..
   ·rfl
  ·split
   ·rw[A5a];rfl
   ·rfl
  ·split
   ·rw[A5a];rfl
   ·rfl
  ·split
   ·rw[A1,<-Al7];rfl
   ·rfl
  ·rfl
 ·rfl
end
end Gx
namespace Gx
open Go
def SH:∀{l d:List Nat}{b:Nat},b∈rW l d↔b∈l\/b∈d
|[],d,b=>by simp[rW]
| i::r,d,b=>by
  rw[rW]
  cases f:K3 d i with
  | true =>
   simp only[cond_true]
   rw[SH]
   have:=Qc.1 f
   constructor
   ·rintro(h|h)
    ·exact .inl (by simp[h])
    ·exact .inr h
   ·rintro(h|h)
    ·rcases A5b.1 h with e|h
     ·subst e;exact .inr this
     ·exact .inl h
    ·exact .inr h
  | false =>
   simp only[cond_false]
   rw[SH]
   simp only[A5b]
   constructor
   ·rintro(h|h|h)
    ·exact .inl (.inr h)
    ·exact .inl (.inl h)
    ·exact .inr h
   ·rintro((h|h)|h)
    ·exact .inr (.inl h)
    ·exact .inl h
    ·exact .inr (.inr h)
def OE{g g':Cg}:∀{l:List Nat},(∀ b∈l,g' b=g b)->P9 g' l=P9 g l
|[],_=>rfl
|i::r,h=>by rw[P9,P9,h i (by simp),OE (fun b d=>h b (by simp[d]))]
def mA{g:Cg}:∀{a b:List Nat},P9 g (a++b)=P9 g a++P9 g b
|[],b=>rfl
|i::r,b=>by rw[A5i,P9,P9,mA,A5e]
def Ahr{g g':Cg}{ids:List Nat}(h:∀ b∈KD g ids,g' b=g b):KD g' ids=KD g ids:=by
 have e:∀ b∈ids,g' b=g b:=fun b d=>h b (SH.2 (.inl (A5d.2 (.inl d))))
 have e1:P9 g' ids=P9 g ids:=OE e
 have f:∀ b∈P9 g ids,g' b=g b:=fun b d=>h b (SH.2 (.inl (A5d.2 (.inr (by rw[mA];exact A5d.2 (.inl d))))))
 unfold KD
 rw[e1,OE (l:=ids++P9 g ids) (fun b d=>by
  rcases A5d.1 d with d|d
  ·exact e b d
  ·exact f b d)]
section
variable{R:Type}{E:Env}{ops:Array Oper}{o p:Oper}{st Apf st2:St}
def rj{v v':Operand->AV}{parts:Array (Nat×Operand)}(h:∀ q∈parts.toList,v' q.2=v q.2):(parts.toList.map fun q=>(q.1,v' q.2))=(parts.toList.map fun q=>(q.1,v q.2)):=A72 (fun q hq=>by rw[h q hq])
def Al9 {g:Cg} {d:Nat} {v v':Operand->AV} {op:Op} {k:AV->J4->O R} (h:∀ x ∈ op.operands.toList,v' x=v x):zM E g d v' op k=zM E g d v op k:=by
  unfold zM
  cases op
  case build t parts =>
    simp only
    rw[rj (v:=v) (v':=v') (fun q hq=>h q.2 (by simp[Op.operands];exact⟨q.1,by simpa using hq⟩))]
  case buildSlice t n parts =>
    simp only
    rw[rj (v:=v) (v':=v') (fun q hq=>h q.2 (by simp[Op.operands];exact⟨q.1,by simpa using hq⟩))]
  case slice t x lo hi mx =>
    simp only
    have e:v' x=v x:=h x (by simp[Op.operands])
    have l:lo.map v'=lo.map v:=by
      cases lo with
      |none=>rfl
      |some y=>simp;exact h y (by simp[Op.operands])
    have m:hi.map v'=hi.map v:=by
      cases hi with
      |none=>rfl
      |some y=>simp;exact h y (by simp[Op.operands])
    have s:mx.map v'=mx.map v:=by
      cases mx with
      |none=>rfl
      |some y=>simp;exact h y (by simp[Op.operands])
    rw[e,l,m,s]
  case makeFunc f first caps =>
    cases f<;>try rfl
    simp only
    have:(first.toList++caps.toList).map v'=(first.toList++caps.toList).map v:=A72 (fun x hx=>h x (by simp[Op.operands];simpa using hx))
    rw[this]
  case call c =>
    have j:∀ x ∈ c.args.toList,v' x=v x:=fun x hx=>h x (by
      simp only[Op.operands,Call.operands,Array.toList_append]
      exact A5d.2 (.inr hx))
    have u:c.args.toList.map v'=c.args.toList.map v:=A72 j
    simp only
    cases z:c.callee with
    | value f =>
      have A:v' f=v f:=h f (by simp[Op.operands,Call.operands,z])
      simp only[A,u]
    |invoke a b=>rfl
    | builtin b =>
      cases b<;>try rfl
      all_goals
        simp only
        split
        · first
            | (rename_i e l
               simp only[e,A5b,A5l,or_false,forall_eq_or_imp,forall_eq]at j
               simp only[j])
            | (rename_i e
               simp only[e,A5b,A5l,or_false,forall_eq_or_imp,forall_eq]at j
               simp only[j])
        all_goals first
          |rfl
          | (rename_i e
             simp only[e,A5b,A5l,or_false,forall_eq_or_imp,forall_eq]at j
             simp only[j])
  all_goals first
    |rfl
    |(simp[Op.operands]at h;simp[h])
end
end Gx
namespace Gx
open Go
section
variable{R:Type}{E:Env}{ops:Array Oper}{o p:Oper}{st Apf st2 st3:St}
def Apg(ops:Array Oper)(o:Oper):List Nat:=match f5 ops o with|some p=>[p.1]|none=>[]
def QU(o:Oper)(s:J5):LA:=o.op.operands.toList.map (ev s)
def Ad2(h:A8)(F:List Nat):Cg:=fun b=>cond (K3 F b) (Aq h b) none
def A3x(o:Oper):Nat:=o.dst.getD 50000
def Z3 (E:Env) (ops:Array Oper) (o:Oper) (st:St):Option (AV×J4×Foot) :=
  (VC ops st.s o).bind fun wanted=>cond wanted
    ((zM E (Ad2 st.h (FY st.h o.op (QU o st.s))) (A3x o) (ev st.s) o.op pr).bind fun q =>
      cond (jD (A3x o) (FY st.h o.op (QU o st.s)) st.h q.2) (some (q.1,q.2,{ r:=Apg ops o++jx o.op.operands.toList,w:=o.dst,f:=FY st.h o.op (QU o st.s),u:=q.2.map (·.1) })) none)
    (some (.tup [],[],{r:=Apg ops o,w:=o.dst,f:=[],u:=[]}))
def after(E:Env)(o:Oper)(st:St)(q:AV×J4×Foot):St:={s:=Alr E.nt st.s o.dst q.1,h:=As q.2.1 st.h}
def ff(k:St->Foot->O R):Ag7 E ops o st k=(Z3 E ops o st).bind fun q=>k (after E o st q) q.2.2:=by
 unfold Ag7 Z3
 rw[A5a]
 congr 1;funext t
 rw[A1]
 congr 1
 rw[Aqw,A5a]
 congr 1;funext q
 rw[A1]
 rfl
def vd:∀{l:List Operand}{t:Nat},Operand.tmp t∈l->t∈jx l
|[],t,h=>by simp at h
| x::r,t,h=>by
  rcases A5b.1 h with e|h'
  ·subst e;simp[jx]
  ·have d:=vd h'
   cases x<;>simp[jx]<;>first|exact .inr d|exact d
def rk{d:Nat}{F:List Nat}{h e:A8}:∀{ups:J4},(∀ b∈ups.map (·.1),Aq e b=Aq h b)->jD d F e ups=jD d F h ups
|[],_=>rfl
|(b,_)::r,f=>by rw[jD,jD,f b (by simp),rk (fun c j=>f c (by simp at j ⊢;exact .inr j))]
def jJ{s s2:J5}(h:∀ t∈Apg ops o,Jb s2 t=Jb s t):VC ops s2 o=VC ops s o:=by
 unfold VC
 cases d:o.guard with
|none=>rfl
| some q =>
  obtain⟨j,want⟩:=q
  simp only
  cases e:(ops[j]?).bind (·.dst)with
  |none=>rfl
  |some t =>
   have:Jb s2 t=Jb s t:=h t (by simp[Apg,f5,d,e])
   simp only[this]
def b_{q:AV×J4×Foot}(m:Z3 E ops o st=some q)(hr:∀ t∈q.2.2.r,Jb st2.s t=Jb st.s t)(d:∀ b,b∈q.2.2.f\/b∈q.2.2.u->Aq st2.h b=Aq st.h b):Z3 E ops o st2=some q:=by
 have C:=m
 unfold Z3 at m
 obtain⟨t,k,l⟩:=ub m
 cases t with
|false =>
  simp at l;subst l
  unfold Z3
  rw[jJ (s:=st.s) hr,k];rfl
| true =>
  rw[cond_true]at l
  obtain⟨x,hx,D⟩:=ub l
  obtain⟨F,z⟩:=uc D
  simp at z;subst z
  simp only at hr d
  have A:∀ y∈o.op.operands.toList,ev st2.s y=ev st.s y:=fun y G=>by
   cases y with
   |tmp t=>exact hr t (A5d.2 (.inr (vd G)))
   |const _=>rfl
   |global _=>rfl
   |func _=>rfl
  have e:QU o st2.s=QU o st.s:=A72 A
  have hF:FY st2.h o.op (QU o st.s)=FY st.h o.op (QU o st.s):=by
   unfold FY at d ⊢
   cases n:Ao8 o.op with
   |true =>
    rw[n]at d
    cases v:Ao9 o.op with
    |true=>rfl
    |false=>rw[v]at d;exact Ahr (fun b j=>d b (.inl j))
   |false=>rfl
  have I:Ad2 st2.h (FY st.h o.op (QU o st.s))=Ad2 st.h (FY st.h o.op (QU o st.s)):=by
   funext b
   unfold Ad2
   cases j:K3 (FY st.h o.op (QU o st.s)) b with
   |false=>rfl
   |true=>simp only[cond_true];exact d b (.inl (Qc.1 j))
  unfold Z3
  rw[jJ (s:=st.s) (fun t k=>hr t (A5d.2 (.inl k))),k]
  simp only[A6s,cond_true]
  rw[e,hF,I,Al9 A,hx]
  simp only[A6s]
  rw[rk (h:=st.h) (fun b j=>d b (.inr j)),F]
  rfl
def fg:∀{ups:J4}{b:Nat},Br ups b=true↔b∈ups.map (·.1)
|[],b=>by simp[Br]
| (i,_)::r,b=>by
  rw[Br]
  cases hi:beq i b with
  |true=>have:=A5p hi;subst this;simp
  | false =>
   have ne:=GR hi
   simp only[cond_false]
   rw[fg]
   simp only[A5c,A5b]
   constructor
   ·exact fun h=>.inr h
   ·rintro(h|h)
    ·exact absurd h.symm ne
    ·exact h
def Aph{q:AV×J4×Foot}(e:Z3 E ops o st=some q):q.2.2.w=o.dst/\q.2.2.u=q.2.1.map (·.1):=by
 unfold Z3 at e
 obtain⟨t,k,d⟩:=ub e
 cases t with
|false=>simp at d;subst d;simp
|true =>
  rw[cond_true]at d
  obtain⟨x,hx,j⟩:=ub d
  obtain⟨l,f⟩:=uc j
  simp at f;subst f;simp
def J8:∀(ups:J4){h e:A8},(∀ b,Aq e b=Aq h b)->∀ b,Aq (As ups e) b=Aq (As ups h) b
|[],_,_,d,b=>d b
|(i,some x)::r,h,e,d,b=>J8 r (fun c=>by rw[Ai,Ai,d c]) b
|(i,none)::r,h,e,d,b=>by
  rw[As,As]
  refine J8 r (fun c=>?_) b
  rw[d i]
  split
  ·rw[Ai,Ai,d c]
  ·exact d c
def Ahs{q:AV×J4×Foot}(h:Eqv st st2):Eqv (after E o st q) (after E o st2 q):=by
 refine⟨fun t=>?_,fun b=>?_⟩
 ·unfold after;simp only;rw[T8,T8,h.1 t]
 ·exact(J8 q.2.1 (fun b=>(h.2 b).symm) b).symm
def Yi{i:Nat}{y:Blk}:∀(ups:J4){h:A8},Br ups i=false->∀ b,Aq (As ups (Ja h i y)) b=if b=i then some y else Aq (As ups h) b
|[],h,_,b=>Ai h i y b
| (j,some x)::r,h,hi,b=>by
  rw[Br]at hi
  cases d:beq j i with
  |true=>rw[d]at hi;simp at hi
  | false =>
   rw[d]at hi
   have ne:=GR d
   rw[As,As,J8 r (h:=Ja (Ja h j x) i y) (fun c=>by
    rw[Ai,Ai,Ai,Ai]
    by_cases e1:c=j
    ·subst e1;simp[ne]
    ·simp[e1]) b]
   exact Yi r hi b
| (j,none)::r,h,hi,b=>by
  rw[Br]at hi
  cases d:beq j i with
  |true=>rw[d]at hi;simp at hi
  | false =>
   rw[d]at hi
   have ne:=GR d
   rw[As,As,Ai,if_neg ne]
   split
   ·rename_i x hx
    rw[J8 r (h:=Ja (Ja h j { x with dead:=true,pure:=true,cells:=[] }) i y) (fun c=>by
     rw[Ai,Ai,Ai,Ai]
     by_cases e1:c=j
     ·subst e1;simp[ne]
     ·simp[e1]) b]
    exact Yi r hi b
   ·exact Yi r hi b
def CI:∀(u1 u2:J4)(h:A8),(∀ b,Br u1 b=true->Br u2 b=false)->∀ b,Aq (As u2 (As u1 h)) b=Aq (As u1 (As u2 h)) b
|[],u2,h,_,b=>rfl
|(i,some x)::r,u2,h,d,b=>by
  rw[As,As]
  have hi:Br u2 i=false:=d i (by simp[Br])
  rw[CI r u2 (Ja h i x) (fun c e=>d c (by rw[Br,e];cases beq i c<;>rfl)) b]
  refine J8 r (fun c=>?_) b
  rw[Yi u2 hi,Ai]
| (i,none)::r,u2,h,d,b=>by
  rw[As,As]
  have hi:Br u2 i=false:=d i (by simp[Br])
  rw[Dq u2 h i hi]
  split
  ·rename_i x hx
   rw[CI r u2 _ (fun c e=>d c (by rw[Br,e];cases beq i c<;>rfl)) b]
   refine J8 r (fun c=>?_) b
   rw[Yi u2 hi,Ai]
  ·exact CI r u2 h (fun c e=>d c (by rw[Br,e];cases beq i c<;>rfl)) b
def ve:∀{a l:List Nat},Ag6 a l=true->∀ b∈a,b∉l
|[],l,_,b,d=>by simp at d
|i::r,l,h,b,d=>by
  rw[Ag6]at h;simp at h
  rcases A5b.1 d with e|d
  ·subst e;intro f;rw[Qc.2 f]at h;simp at h
  ·exact ve h.2 b d
def vf{q:AV×J4×Foot}{t:Nat}(h:o.dst≠some t):Jb (after E o st q).s t=Jb st.s t:=by unfold after;simp only;rw[T8,if_neg (fun d=>h d.1)]
def vg{q:AV×J4×Foot}{b:Nat}(h:b∉q.2.1.map (·.1)):Aq (after E o st q).h b=Aq st.h b:=by
 unfold after;simp only
 rw[Dq]
 cases hi:Br q.2.1 b with
|false=>rfl
|true=>exact absurd (fg.1 hi) h
def Abg{w:Option Nat}{l:List Nat}(h:wIn w l=false):∀ t∈l,w≠some t:=by
 intro t d e
 subst e
 rw[wIn,Qc.2 d]at h;cases h
def A1y{f d:AV×J4×Foot}(n:Z3 E ops p st=some f)(q:Z3 E ops o (after E p st f)=some d)(hi:rX f.2.2 d.2.2=true):
  Z3 E ops o st=some d/\Z3 E ops p (after E o st d)=some f/\Eqv (after E p (after E o st d) f) (after E o (after E p st f) d):=by
 unfold rX at hi
 simp only[A47,A8z]at hi
 obtain⟨⟨⟨⟨i1,i2⟩,i3⟩,i4⟩,i5⟩:=hi
 obtain⟨s,u1⟩:=Aph n
 obtain⟨w2,u2⟩:=Aph q
 have l:=ve i4
 have v:=ve i5
 have a1:Z3 E ops o st=some d:=b_ q (fun t m=>(vf (by rw[<-s];exact Abg i1 t m)).symm) (fun b e=>(vg (fun k=>by
  rw[<-u1]at k
  exact l b k (by rcases e with e | e<;>simp[e]))).symm)
 have a2:Z3 E ops p (after E o st d)=some f:=b_ n (fun t m=>vf (by rw[<-w2];exact Abg i2 t m)) (fun b e=>vg (fun k=>by
  rw[<-u2]at k
  rcases e with e|e
  ·exact v b k e
  ·exact l b e (by simp[k])))
 refine⟨a1,a2,fun t=>?_,fun b=>?_⟩
 ·unfold after;simp only
  rw[T8,T8,T8,T8]
  by_cases e1:p.dst=some t/\t<E.nt
  ·by_cases j:o.dst=some t/\t<E.nt
   ·exfalso
    rw[s,w2,e1.1,j.1]at i3
    simp at i3
   ·rw[if_pos e1,if_neg j,if_pos e1]
  ·by_cases j:o.dst=some t/\t<E.nt
   ·rw[if_neg e1,if_pos j,if_pos j]
   ·rw[if_neg e1,if_neg j,if_neg j,if_neg e1]
 ·unfold after;simp only
  refine(CI f.2.1 d.2.1 st.h (fun c x=>?_) b).symm
  cases hx:Br d.2.1 c with
  |false=>rfl
  |true =>
   have m1:c∈f.2.2.u:=by rw[u1];exact fg.1 x
   have m2:c∈d.2.2.u:=by rw[u2];exact fg.1 hx
   exact absurd (by simp[m2]) (l c m1)
def RunF(E:Env)(ops:Array Oper)(fp:Nat->Foot):List (Nat×Oper)->St->St->Prop
|[],st,e=>Eqv st e
|(i,o)::r,st,e=>∃ q,Z3 E ops o st=some q/\q.2.2=fp i/\RunF E ops fp r (after E o st q) e
def RunF.congr{fp:Nat->Foot}:∀{l:List (Nat×Oper)}{st st2 e:St},RunF E ops fp l st e->Eqv st st2->RunF E ops fp l st2 e
|[],st,st2,e,h,d=>d.symm.trans h
|(i,o)::r,st,st2,e,h,d=>by
  rw[RunF]at h ⊢
  obtain⟨q,f,j,k⟩:=h
  exact⟨q,b_ f (fun t _=>(d.1 t).symm) (fun b _=>(d.2 b).symm),j,RunF.congr k (Ahs d)⟩
def RunF.pull{fp:Nat->Foot}{i:Nat}{o:Oper}{B:List (Nat×Oper)}:∀{A:List (Nat×Oper)}{st e:St},RunF E ops fp (A++(i,o)::B) st e->(∀ jp∈A,rX (fp jp.1) (fp i)=true) ->
  ∃ q,Z3 E ops o st=some q/\q.2.2=fp i/\RunF E ops fp (A++B) (after E o st q) e
|[],st,e,h,_=>h
|(j,p)::A,st,e,h,hA=>by
  rw[A5i,RunF]at h
  obtain⟨d,m,f,n⟩:=h
  obtain⟨k,s,l,t⟩:=RunF.pull n (fun jp u=>hA jp (by simp[u]))
  have hi:rX d.2.2 k.2.2=true:=by rw[f,l];exact hA (j,p) (by simp)
  obtain⟨a1,a2,a3⟩:=A1y m s hi
  refine⟨k,a1,l,?_⟩
  rw[A5i,RunF]
  exact⟨d,a2,f,RunF.congr t a3.symm⟩
end
end Gx
