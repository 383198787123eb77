/- A part of the proof; each theorem says what it holds. -/
import GoSem.Step
import Derived.KernelRfl
import Derived.WalkKit
import Derived.Deep.MidRow
import Derived.Deep.AppendSrc
import Derived.Laws.IdiomStrings
import Derived.Deep.Upon
import Derived.Lib.Builder
import Derived.Laws.BytesString
import Derived.Lib.UnsafeStr
import Derived.Laws.Externs
import Derived.Laws.Tables
import Derived.Laws.StructEq
import Derived.ChangeKeysEq
import Derived.MapKept
set_option linter.unusedVariables false
set_option linter.defProp false
set_option linter.unusedSimpArgs false
open Nat (ble beq)
open List (take drop replicate)
open Go.IntKind (wrap)
namespace Gx
abbrev Lu:=List UInt8
def A8y:=@List.length_append
def A8z:=@Int.toNat_natCast
def A80:=@List.take_of_length_le
def A81:=@Bool.and_eq_true
def A82:=@Option.bind_assoc
def A83:=@List.length_cons
def A84:=@List.getElem?_eq_getElem
def A85:=@List.length_map
def A86:=@Nat.le_refl
def A87:=@List.mem_append
def A88:=@List.mem_cons
def A89:=@Nat.zero_add
def A9a:=@List.map_cons
def A9b:=@List.all_eq_true
def A9c:=@List.getElem_mem
def A9d:=@Nat.eq_of_beq_eq_true
def A9e:=@List.getD_eq_getElem?_getD
def A9f:=@List.drop_zero
def A9g:=@List.append_nil
def A9h:=@List.getElem?_eq_some_iff
def A9i:=@List.all_cons
def A9j:=@Nat.mul_one
def A9k:=@List.cons_append
def A9l:=@List.append_assoc
def A9m:=@List.length_nil
def A9n:=@List.getElem_of_mem
def A9o:=@List.flatMap_cons
def A9p:=@List.mem_map
def A9q:=@List.take_succ_eq_append_getElem
def A9r:=@List.mem_cons_of_mem
def A9s:=@List.drop_succ_cons
def A9t:=@List.nil_append
def A9u:=@List.foldl_cons
def A9v:=@List.not_mem_nil
def A9w:=@List.take_left'
def A9x:=@List.map_nil
def A9y:=@Nat.mul_le_mul_right
def A9z:=@List.all_nil
def A90:=@List.head?_eq_getElem?
def A91:=@Bool.and_true
def A92:=@List.getElem?_append
def A93:=@List.map_append
def A94:=@List.length_singleton
def A95:=@List.mem_map_of_mem
def A96:=@List.nodup_cons
def A97:=@Nat.add_assoc
def A98:=@Bool.not_false
def A99:=@Int.sign_eq_neg_one_of_neg
def Baa:=@Int.natCast_zero
def Bab:=@List.foldl_append
def Bac:=@List.take_zero
def Bad:=@Option.bind_some
def Bae:=@Rat.num_intCast
def Baf:=@List.mem_cons_self
def Bag:=@Nat.le_trans
def Bah:=@Bool.false_or
def Bai:=@List.drop_eq_getElem_cons
def Baj:=@Bool.or_eq_false_iff
def Bak:=@Int.sign_eq_one_of_pos
def Bal:=@List.getElem?_drop
def Bam:=@Nat.lt_of_le_of_lt
def Ban:=@Nat.add_zero
def Bao:=@Array.ext'
def Bap:=@Array.getElem?_eq_some_iff
def Baq:=@Bool.and_assoc
def Bar:=@List.length_take
def Bas:=@List.take_length
def Bat:=@Bool.not_true
def Bau:=@Bool.or_assoc
def Bav:=@Bool.true_and
def Baw:=@List.getElem?_map
def Bax:=@Array.getElem?_eq_none
def Bay:=@List.getElem?_take
def Baz:=@Nat.eq_zero_or_pos
def Ba0:=@Nat.add_mul
def Ba1:=@Nat.pow_le_pow_right
def Ba2:=@Nat.mul_assoc
def Ba3:=@List.filter_cons
def Ba4:=@Nat.mod_eq_of_lt
def Ba5:=@Nat.pow_succ
def Ba6:=@List.flatMap_append
def Ba7:=@Array.getElem?_modify
def Ba8:=@List.foldl_nil
def Ba9:=@Bool.or_true
def Bba:=@Bool.true_or
def Bbb:=@List.mem_singleton
def Bbc:=@Array.getD_eq_getD_getElem?
def Bbd:=@List.drop_eq_nil_of_le
def Bbe:=@Option.some.injEq
def Bbf:=@List.take_succ_cons
def Bbg:=@List.mem_filter
def Bbh:=@Nat.min_eq_left
def Bbi:=@Nat.mul_add
def Bbj:=@Rat.den_intCast
def Bbk:=@List.getElem?_eq_none
def Bbl:=@Bool.false_eq_true
def Bbm:=@Int.natAbs_natCast
def Bbn:=@List.flatMap_nil
def Bbo:=@List.any_nil
def Bbp:=@Nat.mul_comm
def Bbq:=@List.any_eq_false
def Bbr:=@List.length_eq_zero_iff
def Bbs:=@List.map_congr_left
def Bbt:=@List.any_cons
def Bbu:=@Nat.lt_of_lt_of_le
def Bbv:=@List.map_map
def Bbw:=@Array.length_toList
def Bbx:=@Nat.mul_le_mul_left
def Bby:=@Eq.trans
def Bbz:=@Nat.le_of_not_lt
def Bb0:=@List.eq_nil_of_length_eq_zero
def Bb1:=@Nat.zero_mul
def Bb2:=@List.drop_nil
def Bb3:=@Array.getElem?_append_left
def Bb4:=@List.getElem?_append_right
def Bb5:=@List.mem_of_mem_take
def Bb6:=@List.filter_eq_self
def Bb7:=@List.replicate_succ
def Bb8:=@Bool.or_eq_true
def Bb9:=@List.contains_cons
def Bca:=@Bool.not_eq_true'
def Bcb:=@Nat.add_comm
def Bcc:=@Array.getElem?_setIfInBounds_ne
def Bcd:=@List.set_append_right
def Bce:=@List.mem_flatMap
def Bcf:=@Option.bind_none
def Bcg:=@Bool.or_false
def Bch:=@List.getLast?_append
def Bci:=@List.mem_of_getElem?
def Bcj:=@Nat.zero_le
def Bck:=@Array.getElem?_setIfInBounds
def Bcl:=@List.dropLast_concat_getLast
def Bcm:=@Nat.div_add_mod
def Bcn:=@Int.toNat_of_nonneg
def Bco:=@List.drop_left
def Bcp:=@List.pairwise_cons
def Bcq:=@List.set_cons_zero
def Bcr:=@List.getElem?_append_left
def Bcs:=@Int.lt_trichotomy
def Bct:=@List.filter_congr
def Bcu:=@Nat.pow_add
def Bcv:=@Array.size_setIfInBounds
def Bcw:=@Int.mul_ediv_cancel_left
def Bcx:=@Nat.gcd_pos_of_pos_right
def Bcy:=@Option.isSome_iff_exists
def Bcz:=@List.append_cons
def Bc0:=@List.range'_succ
def Bc1:=@Nat.add_sub_cancel_left
def Bc2:=@Nat.div_eq_of_lt
def Bc3:=@Nat.gcd_dvd_left
def Bc4:=@Nat.le_mul_of_pos_right
def Bc5:=@Nat.mul_lt_mul''
def Bc6:=@Bool.or_comm
def Bc7:=@List.getElem_cons_succ
def Bc8:=@Nat.beq_eq
def Bc9:=@Nat.gcd_comm
def Bda:=@Nat.lt_or_ge
def Bdb:=@Nat.mod_lt
def Bdc:=@Nat.le_max_left
def Bdd:=@UInt8.toNat_inj
def Bde:=@Array.getElem?_toList
def Bdf:=@List.set_getElem_self
def Bdg:=@List.getElem?_zipIdx
def Bdh:=@List.mapM_cons
def Bdi:=@List.mem_of_getLast?
def Bdj:=@List.nodup_nil
def Bdk:=@List.pairwise_append
def Bdl:=@List.take_left
def Bdm:=@Nat.mul_le_mul
def Bdn:=@Nat.mul_pos
def Bdo:=@List.length_pos_iff
def Bdp:=@BitVec.toNat_ofNat
def Bdq:=@Int.tmod_lt_of_pos
def Bdr:=@List.append_of_mem
def Bds:=@Nat.gcd_zero_right
def Bdx:=@Nat.pow_zero
def Bdy:=@Nat.succ_mul
def Bd6:=@Nat.one_mul
def Bd7:=@Nat.pow_two
end Gx
namespace Gx
open Go
inductive AV where
|int (k:IntKind) (n:Int)
|bool (b:Bool)
|str (s:List UInt8)
|nsl
|imm (c:List AV) (len sz:Nat) (tight org:Bool)
|iptr (c:List AV) (org:Bool)
|pagg (c:List AV) (org:Bool)
|own (b off len:Nat)
|optr (b off:Nat)
|agg (c:List AV)
|tup (c:List AV)
|fn (f:Nat) (caps:List AV)
|nilptr
|nilfn
|undef
|omap (b:Nat)
abbrev Bff(k n:Nat):AV:=.own (300000+k) 0 n
abbrev Bfg:AV:=.int .i64 0
structure Blk where
 dead:Bool
 sealed:Bool
 pure:Bool
 taint:Bool
 sz:Nat
 cells:List AV
 mp:Bool:=false
 ty:Option (Nat×Nat):=none
abbrev LA:=List AV
abbrev O(R:Type):=Option R
abbrev A9:=List (Nat×Blk)
abbrev Ji:=List (Nat×AV)
def Ao:A9->Nat->Option Blk
|[],_=>none
|(i,x)::r,b=>cond (beq i b) (some x) (Ao r b)
def Ho:A9->Nat->Blk->A9
|[],b,y=>[(b,y)]
|(i,x)::r,b,y=>cond (beq i b) ((b,y)::r) (cond (Nat.blt b i) ((b,y)::(i,x)::r) ((i,x)::Ho r b y))
def Io:Ji->Nat->AV
|[],_=>.undef
|(i,x)::r,b=>cond (beq i b) x (Io r b)
def kT:Ji->Nat->AV->Ji
|[],b,y=>[(b,y)]
|(i,x)::r,b,y=>cond (beq i b) ((b,y)::r) (cond (Nat.blt b i) ((b,y)::(i,x)::r) ((i,x)::kT r b y))
structure St where
 s:Ji
 h:A9
mutual
def qZ:Value->AV
|.int k n=>.int k n
|.bool b=>.bool b
|.string ⟨⟨s⟩⟩=>.str s
|.slice none 0 0=>.nsl
|.pointer none=>.nilptr
|.nilFunc=>.nilfn
|.agg ⟨cs⟩=>.agg (Oj cs)
|_=>.undef
def Oj:List Value->List AV
|[]=>[]
|v::r=>qZ v::Oj r
end
def ev(s:Ji):Operand->AV
|.tmp t=>Io s t
|.const v=>qZ v
|.func f=>cond (Nat.blt f 1000000) (.fn f []) .undef
|.global _=>.undef
def B9(P:Program)(t:TypeId):Option Nat:=(P.info? t).map (·.size)
def Ahl(P:Program)(t:TypeId):Option Nat:=(P.info? t).map (·.bytes)
def Auk(P:Program)(t:TypeId):Bool:=((P.info? t).map (·.hasPointers)).getD true
def xN(P:Program)(t:TypeId):Option AV:=((P.info? t).bind (·.zero)).map qZ
def A0:LA->Bool
|[]=>true
|.int ..::r=>A0 r
|.bool _::r=>A0 r
|.str _::r=>A0 r
|.nsl::r=>A0 r
|.nilptr::r=>A0 r
|.nilfn::r=>A0 r
|_=>false
def jM(P:Program)(t:TypeId):Option LA:=(P.info? t).bind fun i=>(i.zero).bind fun v=>cond (A0 (Oj v.cells.toList)&&beq v.cells.toList.length i.size) (some (Oj v.cells.toList)) none
def q_(op:BinOp)(k:IntKind)(a b:Int):Option AV :=
 match op with
|.add=>some (.int k (k.wrap (a+b)))
|.sub=>some (.int k (k.wrap (a - b)))
|.mul=>some (.int k (k.wrap (a*b)))
|.and=>some (.int k (k.wrap ((BitVec.ofInt k.bits a &&& BitVec.ofInt k.bits b).toNat:Int)))
|.or=>some (.int k (k.wrap ((BitVec.ofInt k.bits a ||| BitVec.ofInt k.bits b).toNat:Int)))
|.xor=>some (.int k (k.wrap ((BitVec.ofInt k.bits a ^^^ BitVec.ofInt k.bits b).toNat:Int)))
|.andNot=>some (.int k (k.wrap ((BitVec.ofInt k.bits a &&& ~~~ (BitVec.ofInt k.bits b)).toNat:Int)))
|.eql=>some (.bool (a==b))
|.neq=>some (.bool (a != b))
|.lss=>some (.bool (decide (a<b)))
|.leq=>some (.bool (decide (a<=b)))
|.gtr=>some (.bool (decide (a>b)))
|.geq=>some (.bool (decide (a>=b)))
|_=>none
def Qc(k k':IntKind):Bool:=decide (k=k')
def fq(P:Program)(t:TypeId):Bool:=match P.underlying t with|some .bool=>true|_=>false
def Awe{R:Type}(P:Program)(t:TypeId)(op:BinOp)(x y:AV)(r:AV->O R):O R :=
 match x,y with
|.int k a,.int k' b =>
  match op with
  |.shl=>cond (decide (b<0)) none (r (.int k (k.wrap (a*2 ^ (min b.toNat k.bits)))))
  |.shr=>cond (decide (b<0)) none (r (.int k (a.fdiv (2 ^ (min b.toNat k.bits)))))
  |.quo=>cond (Qc k k') (cond (b==0) none (r (.int k (k.wrap (a.tdiv b))))) none
  |.rem=>cond (Qc k k') (cond (b==0) none (r (.int k (a.tmod b)))) none
  |op=>cond (Qc k k') ((q_ op k a b).bind r) none
|.bool a,.bool b =>
  match op with
  |.eql=>cond (fq P t) (r (.bool (a==b))) none
  |.neq=>cond (fq P t) (r (.bool (!(a==b)))) none
  |_=>none
|.str a,.str b =>
  match op with
  |.add=>cond (ble (a.length+b.length) 140737488355328) (r (.str (a++b))) none
  |.eql=>r (.bool (a==b))
  |.neq=>r (.bool (!(a==b)))
  |.lss=>r (.bool (Op.bytesLess a b))
  |.leq=>r (.bool (Op.bytesLess a b||a==b))
  |.gtr=>r (.bool (!(Op.bytesLess a b||a==b)))
  |.geq=>r (.bool (!Op.bytesLess a b))
  |_=>none
|_,_=>none
def A7c(op:UnOp)(x:AV):Option AV :=
 match op,x with
|.neg,.int k n=>some (.int k (k.wrap (0 - n)))
|.xor,.int k n=>q_ .xor k (cond k.signed (-1) k.max) n
|.not,.bool b=>some (.bool (!b))
|_,_=>none
def jN(k:IntKind):AV->Option Int
|.int k' n=>cond (Qc k k') (some n) none
|_=>none
def asBool:AV->Option Bool
|.bool b=>some b
|_=>none
def sf:AV->Option Lu
|.str s=>some s
|_=>none
def Ay0(sz:Nat):AV->Option (LA×Nat)
|.imm c len sz' _ _=>cond (beq sz sz') (some (c,len)) none
|.nsl=>some ([],0)
|_=>none
def Aq9:AV->Option UInt8
|.int .u8 n=>some (UInt8.ofNat n.toNat)
|_=>none
def Z5:LA->Option Lu
|[]=>some []
|x::r=>(Aq9 x).bind fun b=>(Z5 r).bind fun l=>some (b::l)
def QY{R:Type}(step:TypeId->LA->LA->(Bool->O R)->O R)(x y:LA):List (Nat×TypeId)->(Bool->O R)->O R
|[],k=>k true
|(off,t)::r,k=>step t (x.drop off) (y.drop off) fun b=>QY step x y r fun c=>k (b&&c)
def Ahm(P:Program)(sz:Nat)(f:Field):Bool:=match B9 P f.type with
|some s => ble 1 s && (ble (f.offset + s) sz && !(f.name == "_"))
|none=>false
def vF{R:Type}(P:Program):Nat->TypeId->LA->LA->(Bool->O R)->O R
|0,_,_,_,_=>none
|d+1,t,x,y,k=>match P.underlying t with
  |some (.int kd)=>(x.head?).bind fun u=>(jN kd u).bind fun a=>(y.head?).bind fun v=>(jN kd v).bind fun b=>k (a==b)
  |some .bool=>(x.head?).bind fun u=>(asBool u).bind fun a=>(y.head?).bind fun v=>(asBool v).bind fun b=>k (a==b)
  |some .string=>(x.head?).bind fun u=>(sf u).bind fun a=>(y.head?).bind fun v=>(sf v).bind fun b=>k (a==b)
  |some (.struct fs)=>(B9 P t).bind fun sz=>cond (P.stoodInHeld t||!(fs.toList.all (Ahm P sz))) none (QY (vF P d) x y (fs.toList.map fun f=>(f.offset,f.type)) k)
  |some (.array n e)=>(B9 P e).bind fun s=>(B9 P t).bind fun sz=>cond (ble 1 s&&ble (n*s) sz) (QY (vF P d) x y ((List.range n).map fun i=>(i*s,e)) k) none
  |_=>none
def Ahn:AV->Option LA
|.pagg c _=>some c
|.agg c=>some c
|_=>none
def Ay1(P:Program)(t:TypeId):Bool:=match P.underlying t with|some (.struct _)=>true|some (.array _ _)=>true|_=>false
def Afl{R:Type}(P:Program)(t:TypeId)(op:BinOp)(x y:AV)(r:AV->O R):O R :=
 match Ahn x,Ahn y with
| some a,some b=>(B9 P t).bind fun s=>cond (ble 1 s&&(beq a.length s&&(beq b.length s&&(Ay1 P t&&!(P.eqGuardType P.depth t)))))
  (match op with
   |.eql=>vF P 8 t a b fun c=>r (.bool c)
   |.neq=>vF P 8 t a b fun c=>r (.bool (!c))
   | _=>none) none
|_,_=>Awe P t op x y r
def FZ{R:Type}(P:Program)(t:TypeId)(c:LA)(org:Bool)(k:Bool->O R):O R:=cond (Auk P t) (k org) (cond (!org||A0 c) (k false) none)
def bD{R:Type}(P:Program)(t:TypeId)(c:LA)(org:Bool)(k:AV->O R):O R :=
 match P.underlying t with
|some (.int kd)=>(c.head?).bind fun x=>(jN kd x).bind fun n=>k (.int kd n)
|some .bool=>(c.head?).bind fun x=>(asBool x).bind fun b=>k (.bool b)
|some .string=>(c.head?).bind fun x=>(sf x).bind fun s=>k (.str s)
|some (.slice e)=>(B9 P e).bind fun sz=>(c.head?).bind fun x=>(Ay0 sz x).bind fun p=>k (.imm p.1 p.2 sz false org)
|some (.struct _)=>(B9 P t).bind fun n=>cond (ble n c.length) (FZ P t (c.take n) org fun o=>k (.pagg (c.take n) o)) none
|some (.array _ _)=>(B9 P t).bind fun n=>cond (ble n c.length) (FZ P t (c.take n) org fun o=>k (.pagg (c.take n) o)) none
|_=>none
def US{R:Type}(n:Nat)(k:AV->O R):LA->Nat->O R
|[],_=>none
|v::r,i=>cond (beq n i) (k v) (US n k r (i+1))
def si{R:Type}(P:Program)(t:TypeId)(c:LA)(k:AV->O R):O R :=
 match P.underlying t with
|some (.struct _)=>(B9 P t).bind fun n=>cond (ble n c.length) (k (.agg (c.take n))) none
|some (.array _ _)=>(B9 P t).bind fun n=>cond (ble n c.length) (k (.agg (c.take n))) none
|some _=>(c.head?).bind k
|none=>none
def bE{R:Type}(P:Program)(t:TypeId)(c:LA)(off:Nat)(k:AV->O R):O R :=
 match P.underlying t with
|some (.struct _)=>(B9 P t).bind fun n=>cond (ble n (c.drop off).length) (k (.agg ((c.drop off).take n))) none
|some (.array _ _)=>(B9 P t).bind fun n=>cond (ble n (c.drop off).length) (k (.agg ((c.drop off).take n))) none
|some _=>US off k c 0
|none=>none
abbrev Bp:=Nat->Option Blk
def Ii(g:Bp)(b:Nat):Option Blk:=(g b).bind fun x=>cond x.dead none (some x)
def xO{R:Type}(P:Program)(g:Bp)(t:TypeId)(p:AV)(k:AV->O R):O R :=
 match p with
|.iptr c org=>bD P t c org k
|.optr b off=>(Ii g b).bind fun x=>cond x.pure (bD P t (x.cells.drop off) x.taint k) (bE P t x.cells off k)
|_=>none
def Ad(i:Int)(n:Nat):Bool:=decide (0<=i)&&decide (i<(n:Int))
def Yk{R:Type}(P:Program)(t:TypeId)(x i:AV)(k:AV->O R):O R :=
 match P.underlying t,x,i with
|some (.slice el),.imm c len sz _ org,.int _ i=>(B9 P el).bind fun sz'=>cond (beq sz sz') (cond (Ad i len) (k (.iptr (c.drop (i.toNat*sz)) org)) none) none
|some (.slice el),.own b off len,.int _ i=>(B9 P el).bind fun sz=>cond (Ad i len) (k (.optr b (off+i.toNat*sz))) none
|some (.array len el),.iptr c org,.int _ i=>(B9 P el).bind fun sz=>cond (Ad i len) (k (.iptr (c.drop (i.toNat*sz)) org)) none
|some (.array len el),.optr b off,.int _ i=>(B9 P el).bind fun sz=>cond (Ad i len) (k (.optr b (off+i.toNat*sz))) none
|_,_,_=>none
def wx(P:Program)(t:TypeId)(f:Nat):Option (Nat×TypeId) :=
 match P.underlying t with
|some (.struct fs)=>(fs[f]?).map fun x=>(x.offset,x.type)
|_=>none
def Yl{R:Type}(P:Program)(t:TypeId)(x:AV)(f:Nat)(k:AV->O R):O R :=
 (wx P t f).bind fun p=>(B9 P p.2).bind fun n=>cond (beq n 0) none
 (match x with
|.iptr c org=>k (.iptr (c.drop p.1) org)
|.optr b off=>k (.optr b (off+p.1))
| _=>none)
def qa{R:Type}(P:Program)(t:TypeId)(x:AV)(f:Nat)(k:AV->O R):O R :=
 (wx P t f).bind fun p =>
 match x with
|.pagg c org=>bD P p.2 (c.drop p.1) org k
|.agg c=>si P p.2 (c.drop p.1) k
|_=>none
def qb{R:Type}(P:Program)(t:TypeId)(x i:AV)(k:AV->O R):O R :=
 match P.underlying t,x,i with
|some .string,.str s,.int _ i=>cond (Ad i s.length) (k (.int .u8 ((s.getD i.toNat 0).toNat:Int))) none
|some (.array len el),.pagg c org,.int _ i=>(B9 P el).bind fun sz=>cond (Ad i len) (bD P el (c.drop (i.toNat*sz)) org k) none
|some (.array len el),.agg c,.int _ i=>(B9 P el).bind fun sz=>cond (Ad i len) (bE P el c (i.toNat*sz) k) none
|_,_,_=>none
def mG(o:Option AV)(d:Nat):Option Int:=match o with|none=>some (d:Int)|some (.int _ i)=>some i|_=>none
def F_{R:Type}(lo hi mx:Option AV)(n:Nat)(k:Nat->Nat->O R):O R :=
 (mG lo 0).bind fun l=>(mG hi n).bind fun h=>(mG mx n).bind fun m=>cond (mx.isSome&&!hi.isSome) none <|
 cond (decide (0<=l)&&(decide (l<=h)&&(decide (h<=m)&&decide (m<=(n:Int))))) (k l.toNat h.toNat) none
def Aul(tight:Bool)(hi mx:Option AV):Bool:=match hi,mx with|none,none=>tight|some (.int _ a),some (.int _ b)=>a==b|_,_=>false
def qc{R:Type}(P:Program)(g:Bp)(t:TypeId)(x:AV)(lo hi mx:Option AV)(k:AV->O R):O R :=
 match P.underlying t,x with
|some .string,.str s=>cond mx.isSome none (F_ lo hi none s.length fun l h=>k (.str ((s.drop l).take (h - l))))
|some (.slice el),.nsl=>(B9 P el).bind fun _=>F_ lo hi mx 0 fun _ _=>k .nsl
| some (.slice el),.imm c n sz tight org=>(B9 P el).bind fun sz'=>cond (beq sz sz') (F_ lo hi mx n fun l h =>
   k (.imm ((c.drop (l*sz)).take ((h - l)*sz)) (h - l) sz (Aul tight hi mx) org)) none
|some (.slice el),.own b off n=>(B9 P el).bind fun sz=>(Ii g b).bind fun y=>cond (beq sz y.sz) (F_ lo hi mx n fun l h=>k (.own b (off+l*sz) (h - l))) none
|some (.array n el),.optr b off=>(B9 P el).bind fun _=>(Ii g b).bind fun y=>cond (beq y.sz 0&&(ble (off+n) y.cells.length&&(lo.isNone&&(hi.isNone&&mx.isNone)))) (k (.own b off n)) none
|_,_=>none
def A4f(P:Program)(t:TypeId)(x:AV):Option AV :=
 match P.underlying t,x with
|some (.slice _),.nsl=>some (.int .i64 0)
|some (.slice _),.imm _ n _ _ _=>some (.int .i64 n)
|some (.slice _),.own _ _ n=>some (.int .i64 n)
|some .string,.str s=>some (.int .i64 s.length)
|some (.array n _),_=>some (.int .i64 n)
|_,_=>none
def jO(g:Bp)(sz:Nat):AV->Option (LA×Nat×Bool)
|.nsl=>some ([],0,false)
|.imm c n sz' _ org=>cond (beq sz sz') (some (c,n,org)) none
|.own b off n=>(Ii g b).bind fun x=>cond (x.pure&&beq sz x.sz) (some ((x.cells.drop off).take (n*sz),n,x.taint)) none
|.str s=>cond (beq sz 1) (some (s.map fun b=>.int .u8 (b.toNat:Int),s.length,false)) none
|_=>none
def kU{R:Type}(P:Program)(el:TypeId)(g:Bp)(sz:Nat)(x:AV)(k:LA×Nat×Bool->O R):O R:=(jO g sz x).bind fun q=>FZ P el q.1 q.2.2 fun o=>k (q.1,q.2.1,o)
abbrev F2:=List (Nat×Option Blk)
def jP(g:Bp):AV->Option (AV×F2×Bool)
|.own b off n=>(Ii g b).bind fun x=>cond x.pure (some (.imm ((x.cells.drop off).take (n*x.sz)) n x.sz false x.taint,[(b,some {x with sealed:=true})],x.taint)) none
|.optr ..|.agg _|.tup _|.undef|.fn ..|.omap _=>none
|.imm c n sz t org=>some (.imm c n sz t org,[],org)
|.iptr c org=>some (.iptr c org,[],org)
|.pagg _ _=>none
|v=>some (v,[],false)
def IS(g:Bp):LA->Option (LA×F2×Bool)
|[]=>some ([],[],false)
|v::r=>(jP g v).bind fun p=>(IS g r).bind fun q=>some (p.1::q.1,p.2.1++q.2.1,p.2.2||q.2.2)
def IH(g:Bp):AV->Option (LA×F2×Bool)
|.pagg c org=>some (c,[],org)
|.agg c=>IS g c
|v=>IS g [v]
def C3(c:LA)(off:Nat)(vs:LA):LA:=c.take off++vs++c.drop (off+vs.length)
def Bj:F2->Nat->Bool
|[],_=>false
|(i,_)::r,b=>cond (beq i b) true (Bj r b)
def QZ(g:Bp):AV->Bool
|.own b _ _=>(Ii g b).isSome
|.optr b _=>(Ii g b).isSome
|.agg _=>false
|.pagg _ _=>false
|.tup _=>false
|.undef=>false
|.omap _=>false
|_=>true
def Rx(g:Bp):LA->Bool
|[]=>true
|v::r=>QZ g v&&Rx g r
def setCells(c:LA)(off:Nat)(vs:LA):LA:=match vs with|[y]=>c.set off y|ys=>C3 c off ys
def qd {R:Type} (P:Program) (g:Bp) (t:TypeId) (p v:AV) (k:AV->F2->O R):O R :=
  match p with
  | .optr b off=>(Ii g b).bind fun x=>(B9 P t).bind fun n =>
    cond x.sealed none
    (cond x.pure
      ((IH g v).bind fun q=>cond (beq q.1.length n&&(ble (off+n) x.cells.length&&!Bj q.2.1 b))
        (k .undef (q.2.1++[(b,some { x with cells:=setCells x.cells off q.1,taint:=x.taint||q.2.2 })])) none)
      (match v with
        |.agg c=>cond (Rx g c&&(beq c.length n&&ble (off+n) x.cells.length)) (k .undef [(b,some {x with cells:=C3 x.cells off c})]) none
        |.pagg c org=>cond (beq off 0&&(beq c.length n&&beq x.cells.length n)) (k .undef [(b,some {x with pure:=true,taint:=org,cells:=c})]) none
        | v=>cond (QZ g v&&(beq n 1&&Nat.blt off x.cells.length)) (k .undef [(b,some { x with cells:=x.cells.set off v })]) none))
  |_=>none
def J8:Nat:=1000000
def nid(d:Nat):Nat:=1000000+d*16
def Aho(P:Program)(t:TypeId):Option (Nat×Nat) :=
 match P.underlying t with
| some (.struct fs)=>(fs[0]?).bind fun f=>match P.underlying f.type with
  |some (.pointer u)=>cond (beq u t) ((B9 P t).map fun n=>(t,n)) none
  |some (.struct gs)=>(gs[0]?).bind fun g=>match P.underlying g.type with
   |some (.pointer u)=>cond (beq u f.type) ((B9 P t).map fun n=>(t,n)) none
   |_=>none
  |_=>none
|_=>none
def V9(d:Nat)(pure taint:Bool)(sz:Nat)(cells:LA):F2:=[(nid d,some {dead:=false,sealed:=false,pure,taint,sz,cells})]
def Alu{R:Type}(P:Program)(g:Bp)(d:Nat)(t:TypeId)(v:AV)(k:AV->F2->O R):O R :=
 match v with
|.pagg c org=>k (.optr (nid d) 0) (V9 d true org 0 c)
| .agg c =>
  cond (Auk P t) (cond (Rx g c&&beq c.length ((B9 P t).getD 0)) (k (.optr (nid d) 0) [(nid d,some {dead:=false,sealed:=false,pure:=false,taint:=false,sz:=0,cells:=c,ty:=Aho P t})]) none)
   ((IS g c).bind fun q=>k (.optr (nid d) 0) (q.2.1++V9 d true q.2.2 0 q.1))
|v=>cond (QZ g v) (k (.optr (nid d) 0) (V9 d false false 0 [v])) none
def Ip(sz:Nat):Blk:={dead:=false,sealed:=false,pure:=true,taint:=false,sz,cells:=[]}
def Ay2(co:Bool)(v:AV):AV:=match co,v with
|true,.agg c=>cond (A0 c) (.pagg c false) (.agg c)
|_,v=>v
def qe{R:Type}(P:Program)(g:Bp)(co:Bool)(d:Nat)(t:TypeId)(k:AV->F2->O R):O R :=
 match P.underlying t,xN P t with
|some (.slice el),some .nsl=>(B9 P el).bind fun sz=>k (.optr (nid d) 0) [(nid d+1,some (Ip sz)),(nid d,some {dead:=false,sealed:=false,pure:=false,taint:=false,sz:=0,cells:=[.own (nid d+1) 0 0]})]
|_,some z=>Alu P g d t (Ay2 co z) k
|_,none=>none
def Sw(place:Nat->Option (Nat×Nat)):List (Nat×LA)->LA->Option LA
|[],c=>some c
|(i,vs)::r,c=>(place i).bind fun p=>cond (beq vs.length p.2&&ble (p.1+p.2) c.length) (Sw place r (setCells c p.1 vs)) none
def sj{R:Type}(place:Nat->Option (Nat×Nat)):List (Nat×LA)->LA->(LA->O R)->O R
|[],c,k=>k c
|(i,vs)::r,c,k=>(place i).bind fun p=>cond (beq vs.length p.2&&ble (p.1+p.2) c.length) (sj place r (setCells c p.1 vs) k) none
def G1(n:Nat)(z:LA):LA:=match z with|[v]=>replicate n v|z=>(replicate n z).flatten
def II(g:Bp):List (Nat×AV)->Option (List (Nat×LA)×F2×Bool)
|[]=>some ([],[],false)
|(i,v)::r=>(IH g v).bind fun q=>(II g r).bind fun q'=>some ((i,q.1)::q'.1,q.2.1++q'.2.1,q.2.2||q'.2.2)
def Ay3:AV->Bool
|.optr ..=>true
|.fn _ (_::_)=>true
|_=>false
def Ym{R:Type}(P:Program)(g:Bp)(d:Nat)(t:TypeId)(len:Nat)(parts:List (Nat×AV))(k:AV->F2->O R):O R :=
 match P.underlying t with
| some (.slice el)=>(B9 P el).bind fun sz=>(jM P el).bind fun z =>
  cond (beq sz 1&&(ble len 16777216&&Rx g (parts.map (·.2)))) ((Sw (fun i=>some (i*1,1)) (parts.map fun p=>(p.1,[p.2])) (G1 len z)).bind fun cells =>
   k (.own (nid d) 0 len) (V9 d false false 1 cells)) none
|_=>none
def Vl{R:Type}(P:Program)(g:Bp)(d:Nat)(t:TypeId)(len:Nat)(parts:List (Nat×AV))(k:AV->F2->O R):O R :=
 match P.underlying t with
| some (.slice el)=>(B9 P el).bind fun sz=>(jM P el).bind fun z=>(II g parts).bind fun q =>
  cond (ble (len*sz) 16777216) (sj (fun i=>some (i*sz,sz)) q.1 (G1 len z) fun cells =>
   k (.own (nid d) 0 len) (q.2.1++V9 d true q.2.2 sz cells)) none
|_=>none
def kV:AV->Bool
|.own ..|.optr ..|.fn ..|.undef|.agg _|.pagg _ _|.tup _|.omap _=>true
|_=>false
def xP:AV->Bool
|.agg c=>c.any kV
|.pagg _ _=>false
|v=>kV v
def cellsOf:AV->LA
|.agg c=>c
|.pagg c _=>c
|v=>[v]
def Ahp:AV->Bool
|.imm _ _ _ _ o=>o
|.iptr _ o=>o
|_=>false
def sk:AV->Bool
|.pagg _ o=>o
|.agg c=>c.any Ahp
|v=>Ahp v
def UT:AV->Bool
|.pagg _ _=>true
|_=>false
def bF(P:Program)(t:TypeId):Option (Nat->Option (Nat×Nat)) :=
 match P.underlying t with
|some (.array _ e)=>(P.info? e).map fun ie=>fun i=>some (i*ie.size,ie.size)
|some (.struct fs)=>(fs.toList.mapM fun f=>(P.info? f.type).map fun i=>(f.offset,i.size)).map fun pl=>fun i=>pl[i]?
|_=>none
def Afm(P:Program)(t:TypeId):Option LA:=(P.info? t).bind fun i=>(i.zero).map fun v=>Oj v.cells.toList
def Ic:List (Nat×AV)->List (Nat×LA)
|[]=>[]
|(i,v)::r=>(i,cellsOf v)::Ic r
def Alv(o:Bool):AV->AV
|.imm c n s t _=>.imm c n s t o
|.iptr c _=>.iptr c o
|v=>v
def xQ:AV->LA
|.agg c=>c
|.pagg c o=>c.map (Alv o)
|v=>[v]
def M3:List (Nat×AV)->List (Nat×LA)
|[]=>[]
|(i,v)::r=>(i,xQ v)::M3 r
def bG:AV->Bool
|.undef=>false
|.tup _=>false
|.omap _=>false
|_=>true
def Ahq(P:Program)(t:TypeId)(parts:List (Nat×AV)):Option AV :=
 (bF P t).bind fun place=>cond (parts.all fun p=>bG p.2) (
 cond (parts.any fun p=>UT p.2)
  (cond (parts.any fun p=>xP p.2) ((Afm P t).bind fun z=>(Sw place (M3 parts) z).map fun c=>.agg c) ((jM P t).bind fun z=>(Sw place (Ic parts) z).map fun c=>.pagg c (parts.any fun p=>sk p.2)))
  ((Afm P t).bind fun z=>(Sw place (Ic parts) z).map fun c=>.agg c)) none
def Ahr{R:Type}(P:Program)(t:TypeId)(parts:List (Nat×AV))(k:AV->O R):O R :=
 (bF P t).bind fun place=>cond (parts.all fun p=>bG p.2) (
 cond (parts.any fun p=>UT p.2)
  (cond (parts.any fun p=>xP p.2) ((Afm P t).bind fun z=>sj place (M3 parts) z fun c=>k (.agg c)) ((jM P t).bind fun z=>sj place (Ic parts) z fun c=>k (.pagg c (parts.any fun p=>sk p.2))))
  ((Afm P t).bind fun z=>sj place (Ic parts) z fun c=>k (.agg c))) none
def ft{R:Type}(P:Program)(g:Bp)(t:TypeId)(parts:List (Nat×AV))(k:AV->F2->O R):O R:=(bF P t).bind fun place=>(jM P t).bind fun z=>(II g parts).bind fun q=>sj place q.1 z fun c=>k (.pagg c q.2.2) q.2.1
def Awf(P:Program)(t:TypeId):List (Nat×Nat) :=
 match P.underlying t with
|some (.struct fs)=>fs.toList.filterMap fun f=>match P.underlying f.type with|some (.slice el)=>(B9 P el).map fun s=>(f.offset,s)|_=>none
|_=>[]
def Aum(P:Program)(n:Nat)(e:TypeId)(off:Nat):List (Nat×Nat) :=
 match P.underlying e with
|some (.slice el)=>((B9 P el).map fun s=>(List.range n).map fun i=>(off+i,s)).getD []
|_=>[]
def Wa(P:Program)(t:TypeId):List (Nat×Nat) :=
 match P.underlying t with
|some (.array n e)=>Aum P n e 0
|some (.struct fs)=>fs.toList.flatMap fun f=>match P.underlying f.type with
  |some (.slice el)=>((B9 P el).map fun s=>(f.offset,s)).toList
  |some (.struct _)=>(Awf P f.type).map fun p=>(f.offset+p.1,p.2)
  |some (.array n e)=>Aum P n e f.offset
  |_=>[]
|_=>[]
def Iv(d:Nat):List (Nat×Nat)->Nat->LA->LA×F2
|[],_,c=>(c,[])
|(o,sz)::r,j,c=>match c[o]? with
  |some .nsl=>((Iv d r (j+1) (c.set o (.own (nid d+j) 0 0))).1,(nid d+j,some (Ip sz))::(Iv d r (j+1) (c.set o (.own (nid d+j) 0 0))).2)
  |_=>Iv d r (j+1) c
def Awg{R:Type}(P:Program)(t:TypeId)(co:Bool)(d:Nat)(v:AV)(k:AV->F2->O R):O R :=
 match co,v with
|true,.agg c=>cond (ble (Wa P t).length 15) (k (.agg (Iv d (Wa P t) 1 c).1) (Iv d (Wa P t) 1 c).2) none
|_,v=>k v []
def fu{R:Type}(P:Program)(g:Bp)(d:Nat)(t:TypeId)(k:AV->F2->O R):O R :=
 match xN P t with
|some (.agg c)=>cond (ble (Wa P t).length 15&&Rx g c) (k (.optr (nid d) 0) ((Iv d (Wa P t) 1 c).2++V9 d false false 0 (Iv d (Wa P t) 1 c).1)) none
|_=>none
def Aun(P:Program):Nat->TypeId->Nat->List (Nat×TypeId)
|0,t,off=>[(off,t)]
|d+1,t,off=>match P.underlying t with
  |some (.struct fs)=>fs.toList.flatMap fun f=>Aun P d f.type (off+f.offset)
  |_=>[(off,t)]
def Ay4(P:Program)(t:TypeId):Bool:=match P.underlying t with
|some (.int _)=>true|some .bool=>true|some .string=>true|some (.slice _)=>true|_=>false
def mH{R:Type}(P:Program)(c:LA)(org:Bool):List (Nat×TypeId)->LA->(LA->O R)->O R
|[],acc,k=>k acc
|(off,t)::r,acc,k=>cond (beq off acc.length&&Ay4 P t) (bD P t (c.drop off) org fun v=>mH P c org r (acc++[v]) k) none
def qf{R:Type}(P:Program)(co:Bool)(t:TypeId)(v:AV)(k:AV->O R):O R :=
 match co,v with
|true,.pagg c org=>mH P c org (Aun P 4 t 0) [] fun l=>cond (beq c.length l.length) (k (.agg l)) none
|_,v=>k v
def Afn{R:Type}(P:Program)(d:Nat)(t:TypeId)(len cap:AV)(k:AV->F2->O R):O R :=
 match P.underlying t,len,cap with
| some (.slice el),.int .i64 l,.int .i64 c=>(B9 P el).bind fun sz=>(Ahl P el).bind fun by_=>(jM P el).bind fun z =>
  cond (decide (0<=l)&&(decide (l<=c)&&(decide (c<=140737488355328)&&decide (c*(by_:Int)<=140737488355328)))) (
   k (.own (nid d) 0 l.toNat) (V9 d true false sz (G1 l.toNat z))) none
|_,_,_=>none
def Auo(g:Bp)(sz:Nat)(s:AV):Option (LA×Nat×Bool×F2) :=
 match s with
|.nsl=>some ([],0,false,[])
|.imm _ n _ true _=>cond (beq n 0) (some ([],0,false,[])) none
|.own b off n=>(Ii g b).bind fun x=>cond (x.pure&&(!x.sealed&&beq sz x.sz)) (some ((x.cells.drop off).take (n*sz),n,x.taint,[(b,none)])) none
|_=>none
def sr(P:Program)(g:Bp)(el tx:TypeId)(s:AV):Option (Nat×Nat) :=
 match s with
|.nsl=>match P.underlying tx with|some .string=>some (el,0)|_=>none
|.own b off _=>(Ii g b).bind fun x=>(x.ty).bind fun q=>cond (beq q.1 el&&(beq q.2 0&&beq off 0)) (some (el,0)) none
|_=>none
def Ahs(P:Program)(t:TypeId):Bool:=match P.underlying t with|some (.slice _)=>true|some .string=>true|_=>false
def fv{R:Type}(P:Program)(g:Bp)(d:Nat)(t tx:TypeId)(s x:AV)(k:AV->F2->O R):O R :=
 match P.underlying t with
| some (.slice el)=>cond (Ahs P tx) ( (B9 P el).bind fun sz=>(Ahl P el).bind fun by_=>(jM P el).bind fun _ =>
  (Auo g sz s).bind fun old=>kU P el g sz x fun new =>
  cond (ble (old.2.1+new.2.1) 140737488355328&&ble ((old.2.1+new.2.1)*by_) 140737488355328) (
   k (.own (nid d) 0 (old.2.1+new.2.1)) (old.2.2.2++[(nid d,some { dead:=false,sealed:=false,pure:=true,taint:=old.2.2.1||new.2.2,sz,cells:=old.1++new.1,ty:=sr P g el tx s })])) none) none
|_=>none
def kW{R:Type}(kd:IntKind):Nat->LA->(LA->O R)->O R
|0,_,k=>k []
|n+1,c,k=>(c.head?).bind fun x=>(jN kd x).bind fun v=>kW kd n (c.drop 1) fun l=>k (.int kd v::l)
def qg{R:Type}(P:Program)(el sz b off n:Nat)(y:Blk)(new:LA×Nat×Bool)(k:AV->F2->O R):O R :=
 match P.underlying el with
| some (.int kd)=>cond (beq sz 1&&(ble 1 n&&(beq y.sz 0&&(!y.sealed&&(!y.pure&&(ble n new.2.1&&ble (off+n) y.cells.length)))))) (
   kW kd n new.1 fun vs=>k (.int .i64 (n:Nat)) [(b,some { y with cells:=C3 y.cells off vs })]) none
|_=>none
def Afo{R:Type}(P:Program)(g:Bp)(t:TypeId)(s x:AV)(k:AV->F2->O R):O R :=
 match P.underlying t,s with
| some (.slice el),.own b off n=>(B9 P el).bind fun sz=>(Ii g b).bind fun y=>kU P el g sz x fun new =>
  cond (y.pure&&(!y.sealed&&beq sz y.sz)) (
   k (.int .i64 (min new.2.1 n:Nat)) [(b,some { y with cells:=C3 y.cells off (new.1.take ((min new.2.1 n)*sz)),taint:=y.taint||new.2.2 })]) (qg P el sz b off n y new k)
|some (.slice el),.nsl=>(B9 P el).bind fun sz=>kU P el g sz x fun _=>k (.int .i64 0) []
|_,_=>none
def qh{R:Type}(P:Program)(g:Bp)(t:TypeId)(s:AV)(k:AV->F2->O R):O R :=
 match P.underlying t,s with
|some (.slice el),.own b off n=>(B9 P el).bind fun sz=>(jM P el).bind fun z=>(Ii g b).bind fun y =>
  cond (y.pure&&(!y.sealed&&beq sz y.sz)) (k (.tup []) [(b,some {y with cells:=C3 y.cells off (G1 n z)})]) none
|_,_=>none
def Afp {R:Type} (P:Program) (g:Bp) (d:Nat) (src dst:TypeId) (x:AV) (k:AV->F2->O R):O R :=
 match P.underlying dst with
|some (.int kd)=>match x with|.int _ n=>cond (P.underlying src).isSome (k (.int kd (kd.wrap n)) []) none|_=>none
| some .string=>match P.underlying src with
  |some .string=>match x with|.str s=>k (.str s) []|_=>none
  | some (.slice el)=>match P.underlying el with
   |some (.int .u8)=>match x with
    |.str _=>none
    |x=>(jO g 1 x).bind fun q=>(Z5 q.1).bind fun s=>k (.str s) []
   |_=>none
  |_=>none
|some (.slice el)=>match P.underlying src,P.underlying el,x with
  |some (.slice _),some (.int .u8),.own b off n=>cond (beq src dst&&ble 1 n) ((Ii g b).bind fun x=>cond x.sealed none (k (.own b off n) [])) none
  |some .string,some (.int .u8),.str s=>k (.own (nid d) 0 s.length) (V9 d true false 1 (s.map fun b=>.int .u8 (b.toNat:Int)))
  |_,_,_=>none
|_=>none
def qi {R:Type} (P:Program) (g:Bp) (d:Nat) (src dst:TypeId) (x:AV) (k:AV->F2->O R):O R :=
 match P.underlying dst with
|some .unsafePointer=>match P.underlying src,x with
  |some (.pointer t),.optr b off=>(B9 P t).bind fun n=>(Ii g b).bind fun y=>cond (!(beq n 0)&&Nat.blt off y.cells.length) (k (.optr b off) []) none
  |_,_=>none
|some (.pointer u)=>match P.underlying src,x with
  | some .unsafePointer,.optr b off=>(B9 P u).bind fun _=>(Ii g b).bind fun y=>(y.ty).bind fun q =>
    cond (Nat.blt 0 q.2&&(Nat.blt 0 y.cells.length&&liesAt P P.depth q.1 (q.2/P.cellsOf q.1) off u 1)) (k (.optr b off) []) none
  |_,_=>none
|_=>Afp P g d src dst x k
def Aht:AV->Option UInt8
|.int .u8 n=>cond (decide (((UInt8.ofNat n.toNat).toNat:Int)=n)) (some (UInt8.ofNat n.toNat)) none
|_=>none
def bH:LA->Option Lu
|[]=>some []
|x::r=>(Aht x).bind fun b=>(bH r).bind fun l=>some (b::l)
def Yn{R:Type}(g:Bp)(x:AV)(k:AV->F2->O R):O R :=
 match x with
|.nsl=>k .nilptr []
|.own b off n=>(Ii g b).bind fun _=>cond (Nat.blt 0 n) (k (.optr b off) []) none
|_=>none
def Yo {R:Type} (P:Program) (g:Bp) (t:TypeId) (x n:AV) (k:AV->F2->O R):O R :=
 match x,n with
|.nilptr,.int .i64 n=>cond (n==0) (k (.str []) []) none
|.optr b off,.int .i64 n=>(Ii g b).bind fun y=>(y.ty).bind fun q=>match P.underlying t with
  | some (.pointer e)=>cond (beq q.1 e&&(beq (P.cellsOf e) 1&&(y.pure&&(!y.sealed&&(beq off 0&&(decide (0<n)&&(decide (n<=(y.cells.length:Int))&&decide (n<=9223372036854775807))))))))
    ((bH (y.cells.take n.toNat)).bind fun s=>k (.str s) [(b,none)]) none
  |_=>none
|_,_=>none
def xR:LA->Int->Bool
|[],_=>false
|.int _ m::r,n=>cond (n==m) true (xR r n)
|_::r,n=>xR r n
def Ay5(c:LA)(n:Int):LA:=cond (xR c n) c (c++[.int .i64 n])
def Ahu(P:Program)(t:TypeId):Bool:=match P.underlying t with
|some (.map k e)=>(match P.underlying k with|some (.int .i64)=>true|_=>false)&&(match xN P e with|some (.bool false)=>true|_=>false)
|_=>false
def IT{R:Type}(d:Nat)(r:Option AV)(k:AV->F2->O R):O R :=
 match r with
|none=>k (.omap (nid d)) [(nid d,some {dead:=false,sealed:=false,pure:=true,taint:=false,sz:=0,cells:=[],mp:=true})]
|some _=>none
def qj{R:Type}(P:Program)(g:Bp)(t:TypeId)(m key val:AV)(k:AV->F2->O R):O R :=
 match m,key,val with
|.omap b,.int .i64 n,.bool true=>cond (Ahu P t) ((Ii g b).bind fun x=>cond (x.mp&&beq x.sz 0) (k .undef [(b,some {x with cells:=Ay5 x.cells n})]) none) none
|_,_,_=>none
def Afq{R:Type}(P:Program)(g:Bp)(t:TypeId)(m key:AV)(comma:Bool)(k:AV->O R):O R :=
 match m,key,comma with
|.omap b,.int .i64 n,false=>cond (Ahu P t) ((Ii g b).bind fun x=>cond (x.mp&&beq x.sz 0) (k (.bool (xR x.cells n))) none) none
|_,_,_=>none
def DR(s:Lu)(p:Int):Nat×Nat:=Utf8.decode ⟨⟨s⟩⟩ p.toNat
def qk{R:Type}(P:Program)(d:Nat)(t:TypeId)(x:AV)(k:AV->F2->O R):O R :=
 match P.underlying t,x with
|some .string,.str s=>k (.omap (nid d)) [(nid d,some {dead:=false,sealed:=false,pure:=true,taint:=false,sz:=1,cells:=[.str s,.int .i64 0],mp:=true})]
|_,_=>none
def Afr{R:Type}(g:Bp)(it:AV)(isString:Bool)(k:AV->F2->O R):O R :=
 match it,isString with
| .omap b,true=>(Ii g b).bind fun x=>cond (x.mp&&beq x.sz 1)
  (match x.cells with
   | [.str s,.int .i64 p]=>cond (decide (p<(s.length:Int)))
     (k (.tup [.bool true,.int .i64 p,.int .i32 ((DR s p).1:Nat)]) [(b,some {x with cells:=[.str s,.int .i64 (p+((DR s p).2:Nat))]})]) (k (.tup [.bool false]) [])
   | _=>none) none
|_,_=>none
def Ay6(g:Bp)(x y:AV):Option Bool :=
 match x,y with
|.nilptr,.nilptr=>some true
|.nilptr,.optr _ _=>some false
|.optr _ _,.nilptr=>some false
|.nilptr,.iptr _ _=>some false
|.iptr _ _,.nilptr=>some false
|.optr b o,.optr b' o'=>(Ii g b).bind fun _=>cond (beq b b') (some (beq o o')) none
|_,_=>none
def Ara(P:Program)(t:TypeId):Bool:=match P.underlying t with
|some (.pointer e)=>match B9 P e with|some n=>!(beq n 0)|none=>false
|_=>false
def Afs{R:Type}(P:Program)(g:Bp)(t:TypeId)(op:BinOp)(x y:AV)(r:AV->O R):O R :=
 match Ay6 g x y with
| some b=>cond (Ara P t) (match op with
  |.eql=>r (.bool b)
  |.neq=>r (.bool (!b))
  | _=>none) none
|none=>Afl P t op x y r
mutual
def Jj:AV->List Nat
|.own b _ _=>[b]
|.optr b _=>[b]
|.omap b=>[b]
|.agg c=>Lq c
|.tup c=>Lq c
|.fn _ c=>Lq c
|_=>[]
def Lq:List AV->List Nat
|[]=>[]
|v::r=>Jj v++Lq r
end
mutual
def iM(ρ:Nat->Nat):AV->AV
|.own b off n=>.own (ρ b) off n
|.optr b off=>.optr (ρ b) off
|.omap b=>.omap (ρ b)
|.agg c=>.agg (EX ρ c)
|.tup c=>.tup (EX ρ c)
|.fn f c=>.fn f (EX ρ c)
|v=>v
def EX(ρ:Nat->Nat):List AV->List AV
|[]=>[]
|v::r=>iM ρ v::EX ρ r
end
def UU(g:Bp):AV->Option (AV×Bool)
|.own b off n=>(Ii g b).bind fun x=>cond x.pure (some (.imm ((x.cells.drop off).take (n*x.sz)) n x.sz false (!x.sealed||x.taint),!x.sealed||x.taint)) none
|.imm c n sz _ org=>some (.imm c n sz false org,org)
|.iptr c org=>some (.iptr c org,org)
|.optr ..|.agg _|.tup _|.undef|.fn ..|.pagg ..|.omap _=>none
|v=>some (v,false)
def bI(g:Bp):LA->Option (LA×Bool)
|[]=>some ([],false)
|v::r=>(UU g v).bind fun p=>(bI g r).bind fun q=>some (p.1::q.1,p.2||q.2)
def Ahv(g:Bp):AV->Option (AV×Bool)
|.own b off n=>(Ii g b).bind fun x=>cond x.pure (some (.imm ((x.cells.drop off).take (n*x.sz)) n x.sz false (!x.sealed||x.taint),!x.sealed)) none
|.imm c n sz _ org=>some (.imm c n sz false org,false)
|.optr b off=>(Ii g b).bind fun x=>cond x.pure (some (.iptr (x.cells.drop off) (!x.sealed||x.taint),!x.sealed)) none
|.agg c=>(bI g c).bind fun q=>some (.pagg q.1 q.2,true)
|.fn f []=>some (.fn f [],false)
|.fn _ _|.tup _|.undef|.omap _=>none
|v=>some (v,false)
def Ly(d:Nat):List (Nat×Nat)->Nat->Nat
|[],_=>d
|(i,x)::r,b=>cond (beq i b) x (Ly d r b)
def Kj:List Nat->Nat->Bool
|[],_=>false
|i::r,b=>cond (beq i b) true (Kj r b)
def su:List Nat->List Nat->List Nat
|[],acc=>acc.reverse
|i::r,acc=>cond (Kj acc i) (su r acc) (su r (i::acc))
def bJ:List Nat->Bool
|[]=>true
|i::r=>!Kj r i&&bJ r
def Bb(base:Nat):List Nat->List (Nat×Nat)
|[]=>[]
|i::r=>(i,base)::Bb (base+1) r
def Ok(g:Bp):List Nat->List Nat
|[]=>[]
|b::r=>(match g b with|some x=>cond x.pure [] (Lq x.cells)|none=>[])++Ok g r
def IU(g:Bp)(ids:List Nat):List Nat:=su (ids++Ok g (ids++Ok g ids)) []
def bK(g:Bp):List Nat->Bool
|[]=>true
|b::r=>(match g b with|some x=>!x.dead|none=>false)&&bK g r
def MH(ρ:Nat->Nat)(x:Blk):Blk:={x with cells:=cond x.pure x.cells (EX ρ x.cells)}
def sub(g:Bp)(ρ:Nat->Nat):List Nat->A9
|[]=>[]
|b::r=>match g b with
  |some x=>Ho (sub g ρ r) (ρ b) (MH ρ x)
  |none=>sub g ρ r
structure Tw where
 runK:{R:Type}->List AV->A9->(AV->A9->O R)->O R
 eq:∀{R:Type}(args:List AV)(h:A9)(k:AV->A9->O R),runK args h k=(runK args h fun v h'=>some (v,h')).bind fun p=>k p.1 p.2
def mI{R:Type}:List (Nat×Tw)->Nat->LA->A9->(AV->A9->O R)->O R
|[],_,_,_,_=>none
|(g,t)::r,f,args,h,k=>cond (beq g f) (t.runK args h k) (mI r f args h k)
structure Env where
 P:Program
 nt:Nat
 muts:Nat->List Bool
 nils:List (Nat×Nat)
 free:List Nat
 cob:List Nat
 tbl:List (Nat×Tw)
mutual
def PN:AV->Bool
|.imm _ _ _ _ o=>o
|.iptr _ o=>o
|.pagg _ o=>o
|.agg c=>Z6 c
|.tup c=>Z6 c
|.fn _ c=>Z6 c
|_=>false
def Z6:List AV->Bool
|[]=>false
|v::r=>PN v||Z6 r
end
def mJ:A9->Bool
|[]=>false
|(_,x)::r=>x.taint||(cond x.pure false (Z6 x.cells))||mJ r
def M4(g:Bp):LA->List Nat
|[]=>[]
|.own b _ _::r=>match g b with|some x=>cond x.sealed (M4 g r) (b::M4 g r)|none=>M4 g r
|_::r=>M4 g r
def Q_(g:Bp):AV->List Nat
|.own b _ _=>match g b with|some x=>cond x.sealed [] [b]|none=>[]
|.optr b _=>match g b with|some x=>cond x.sealed [] [b]|none=>[]
|.agg c=>M4 g c
|_=>[]
def Q'(g:Bp):List Bool->LA->Option (LA×List Nat×List Nat)
|_,[]=>some ([],[],[])
| ms,v::r =>
  cond (ms.headD false)
   ((Q' g ms.tail r).bind fun q=>some (v::q.1,Jj v++q.2.1,q.2.2))
   ((Ahv g v).bind fun p=>(Q' g ms.tail r).bind fun q=>some (p.1::q.1,q.2.1,Q_ g v++q.2.2))
def YO(ids:List Nat):List Nat->Bool
|[]=>true
|b::r=>Kj ids b&&YO ids r
def Alw:List Nat->List Nat->Bool
|[],_=>true
|i::r,l=>!Kj l i&&Alw r l
def Ahw:List Nat->Bool
|[]=>true
|_=>false
def Aft {R:Type} (E:Env) (g:Bp) (d:Nat) (f:Nat) (args:LA) (k:AV->F2->O R):O R :=
 (Q' g (E.muts f) args).bind fun q =>
 let ids:=IU g q.2.1
 let tin:=Bb 100000 ids
 let outs:=tin.map (·.2)
 cond (bK g ids&&(YO ids q.2.1&&(YO ids (Ok g ids)&&(Alw q.2.2 ids&&(bJ (ids.map (Ly 0 tin))&&ble ids.length 100000))))) (
  mI E.tbl f (EX (Ly 0 tin) q.1) (sub g (Ly 0 tin) ids) fun rv rh =>
  let all:=IU (Ao rh) (Jj rv++outs)
  let new:=all.filter fun b=>!Kj outs b
  let tnew:=Bb (nid d) new
  let σ:=Ly 0 ((tin.map fun p=>(p.2,p.1))++tnew)
  cond (!Ahw q.2.2&&(PN rv||mJ rh)) none
   (cond (bK (Ao rh) new&&(ble new.length 16&&(YO all (Jj rv)&&(YO all outs&&(YO all (Ok (Ao rh) all)&&bJ (all.map σ))))))
    (k (iM σ rv) ((tin.map fun p=>(p.1,(Ao rh p.2).map (MH σ)))++tnew.map fun p=>(p.2,(Ao rh p.1).map (MH σ)))) none)) none
def Afu{R:Type}(c a b:AV)(k:AV->O R):O R :=
 match c,a,b with
|.bool t,.bool x,.bool y=>k (.bool (cond t x y))
|.bool t,x,.tup []=>cond t (k x) none
|.bool t,.tup [],y=>cond t none (k y)
|.bool t,x,y=>cond t (k x) (k y)
|_,_,_=>none
def Ahx(P : Program)(f : Nat): Bool := match P.funcs[f]? with|some fn => fn.body.isSome && !(fn.name == "runtime.NumGoroutine")|none => false
def Ay7(P : Program)(f : Nat): Bool := match P.funcs[f]? with|some fn => fn.body.isNone && (fn.name == "internal/abi.NoEscape" && fn.origin == "")|none => false
def Ms(a b:Int):Int:=cond (decide (b<a)) b a
def Awh(a b:Int):Int:=cond (decide (b>a)) b a
def Awi:AV->AV->Option AV
|.int k a,.int _ b=>some (.int k (Ms a b))
|_,_=>none
def Awj:AV->AV->Option AV
|.int k a,.int _ b=>some (.int k (Awh a b))
|_,_=>none
def Ac9{R:Type}(E:Env)(g:Bp)(d:Nat)(v:Operand->AV)(o:Op)(k:AV->F2->O R):O R :=
 match o with
|.move x=>k (v x) []
|.assign x=>k (v x) []
|.pick c a b=>Afu (v c) (v a) (v b) fun r=>k r []
|.alloc t=>cond (Kj E.cob (d+1000000)) (fu E.P g d t k) (qe E.P g (Kj E.cob d) d t k)
|.box t x=>qf E.P (Kj E.cob d) t (v x) fun u=>Alu E.P g d t u k
|.build t parts=>cond (Kj E.cob (d+4000000)) (ft E.P g t (parts.toList.map fun p=>(p.1,v p.2)) k) (Ahr E.P t (parts.toList.map fun p=>(p.1,v p.2)) fun r=>Awg E.P t (Kj E.cob d) d r k)
|.buildSlice t len parts=>cond ((parts.toList.map fun p=>(p.1,v p.2)).any fun p=>Ay3 p.2) (Ym E.P g d t len (parts.toList.map fun p=>(p.1,v p.2)) k) (Vl E.P g d t len (parts.toList.map fun p=>(p.1,v p.2)) k)
|.load t a=>xO E.P g t (v a) fun r=>k r []
|.store t a x=>qd E.P g t (v a) (v x) k
|.nilCheck x=>match v x with|.iptr c o=>k (.iptr c o) []|.optr b o=>k (.optr b o) []|_=>none
|.binOp op t x y _=>Afs E.P g t op (v x) (v y) fun r=>k r []
|.unOp op _ x=>(A7c op (v x)).bind fun r=>k r []
|.convert s t x=>qi E.P g d s t (v x) k
|.makeFunc (.func f) first caps=>cond (Nat.blt f 1000000) (k (.fn (f+1000000*first.toList.length) ((first.toList++caps.toList).map v)) []) none
|.makeSlice t l c=>Afn E.P d t (v l) (v c) k
|.slice t x lo hi mx=>qc E.P g t (v x) (lo.map v) (hi.map v) (mx.map v) fun r=>k r []
|.fieldAddr t x f=>Yl E.P t (v x) f fun r=>k r []
|.field t x f=>qa E.P t (v x) f fun r=>k r []
|.indexAddr t x i=>Yk E.P t (v x) (v i) fun r=>k r []
|.index t x i=>qb E.P t (v x) (v i) fun r=>k r []
|.makeMap _ r=>IT d (r.map v) k
|.mapUpdate t m x y=>qj E.P g t (v m) (v x) (v y) k
|.lookup t m x c=>Afq E.P g t (v m) (v x) c fun r=>k r []
|.range t x=>qk E.P d t (v x) k
|.next it s=>Afr g (v it) s k
|.extract t i=>match v t with|.tup vs=>(vs[i]?).bind fun r=>k r []|_=>none
| .call c=>match c.callee with
  |.builtin .len=>match c.args.toList,c.argTypes.toList with|[x],[t]=>(A4f E.P t (v x)).bind fun r=>k r []|_,_=>none
  |.builtin .append=>match c.args.toList,c.argTypes.toList with|[s,x],[t,tx]=>fv E.P g d t tx (v s) (v x) k|_,_=>none
  |.builtin .copy=>match c.args.toList,c.argTypes.toList with|[s,x],[t,_]=>Afo E.P g t (v s) (v x) k|_,_=>none
  |.builtin .clear=>match c.args.toList,c.argTypes.toList with|[x],[t]=>qh E.P g t (v x) k|_,_=>none
  |.builtin .min=>match c.args.toList with|[x,y]=>(Awi (v x) (v y)).bind fun r=>k r []|[x,y,z]=>(Awi (v x) (v y)).bind fun q=>(Awi q (v z)).bind fun r=>k r []|_=>none
  |.builtin .max=>match c.args.toList with|[x,y]=>(Awj (v x) (v y)).bind fun r=>k r []|[x,y,z]=>(Awj (v x) (v y)).bind fun q=>(Awj q (v z)).bind fun r=>k r []|_=>none
  |.builtin .unsafeSliceData=>match c.args.toList with|[x]=>Yn g (v x) k|_=>none
  |.builtin .unsafeString=>match c.args.toList,c.argTypes.toList with|[x,y],[t,_]=>Yo E.P g t (v x) (v y) k|_,_=>none
  |.value fo=>match v fo with
   | .fn f caps=>cond (Ahx E.P (f%1000000)) (Aft E g d (f%1000000) (caps.take (f/1000000)++(c.args.toList.map v++caps.drop (f/1000000))) k)
     (cond (Ay7 E.P (f%1000000)) (match caps,c.args.toList.map v with|[],[x]=>k x []|_,_=>none) none)
   |_=>none
  |_=>none
|_=>none
structure Foot where
 r:List Nat
 w:Option Nat
 f:List Nat
 u:List Nat
def kX:List Operand->List Nat
|[]=>[]
|.tmp t::r=>t::kX r
|_::r=>kX r
def An:F2->A9->A9
|[],h=>h
|(b,some x)::r,h=>An r (Ho h b x)
|(b,none)::r,h=>An r (match Ao h b with|some x=>Ho h b {x with dead:=true,pure:=true,cells:=[]}|none=>h)
def fx(ops:Array Oper)(o:Oper):Option (Nat×Bool) :=
 match o.guard with
|none=>none
|some (j,want)=>((ops[j]?).bind (·.dst)).map fun t=>(t,want)
def UV(ops:Array Oper)(s:Ji)(o:Oper):Option Bool :=
 match o.guard with
|none=>some true
| some (j,want)=>match (ops[j]?).bind (·.dst) with
  |some t=>match Io s t with
   |.bool b=>some (b==want)
   |.tup []=>some false
   |_=>none
  |none=>some false
def Arb(nt:Nat)(s:Ji)(d:Option Nat)(v:AV):Ji:=match d with|some d=>cond (Nat.blt d nt) (kT s d v) s|none=>s
def Aup:Op->Bool
|.binOp op ..=>match op with|.eql|.neq=>true|_=>false
|.move _|.assign _|.pick ..|.unOp ..|.makeFunc ..|.fieldAddr ..|.field ..|.indexAddr ..|.index ..|.extract ..|.nilCheck _=>false
|.call c=>match c.callee with
  |.builtin .len|.builtin .min|.builtin .max=>false
  |_=>true
|_=>true
def Auq:Op->Bool
|.load ..|.binOp ..=>true
|_=>false
def DS(h:A9)(op:Op)(vals:LA):List Nat:=cond (Aup op) (cond (Auq op) (su (Lq vals) []) (IU (Ao h) (Lq vals))) []
def RA(d b:Nat):Bool:=ble (nid d) b&&Nat.blt b (nid d+16)
def jQ(d:Nat)(F:List Nat)(h:A9):F2->Bool
|[]=>true
|(b,_)::r=>cond (RA d b) (Ao h b).isNone (Kj F b&&(Ao h b).isSome)&&jQ d F h r
def Alx{R:Type}(E:Env)(ops:Array Oper)(o:Oper)(st:St)(k:St->Foot->O R):O R :=
 (UV ops st.s o).bind fun wanted=>cond wanted (
  Ac9 E (fun b=>cond (Kj (DS st.h o.op (o.op.operands.toList.map (ev st.s))) b) (Ao st.h b) none) (o.dst.getD 50000) (ev st.s) o.op fun v ups =>
  cond (jQ (o.dst.getD 50000) (DS st.h o.op (o.op.operands.toList.map (ev st.s))) st.h ups)
   (k { s:=Arb E.nt st.s o.dst v,h:=An ups st.h } { r:=(match fx ops o with | some p=>[p.1] | none=>[])++kX o.op.operands.toList,w:=o.dst,f:=DS st.h o.op (o.op.operands.toList.map (ev st.s)),u:=ups.map (·.1) }) none)
  (k {st with s:=Arb E.nt st.s o.dst (.tup [])} {r:=(match fx ops o with|some p=>[p.1]|none=>[]),w:=o.dst,f:=[],u:=[]})
def ql{R:Type}(ops:Array Oper)(o:Oper)(st:St)(k:St->O R):O R :=
 match o.guard with
|none=>k st
| some (j,want)=>match (ops[j]?).bind (·.dst) with
  |none=>k st
  |some t=>match Io st.s t with
   |.bool b=>cond (b==want) (k {s:=kT st.s t (.bool want),h:=st.h}) (k {s:=kT st.s t (.bool (!want)),h:=st.h})
   |_=>k st
def xS{R:Type}(E:Env)(ops:Array Oper):List Oper->St->List Foot->(St->List Foot->O R)->O R
|[],st,tr,k=>k st tr
|o::r,st,tr,k=>ql ops o st fun st=>Alx E ops o st fun st f=>xS E ops r st (f::tr) k
def wIn:Option Nat->List Nat->Bool
|none,_=>false
|some d,l=>Kj l d
def sv(a b:Foot):Bool:=!wIn a.w b.r&&!wIn b.w a.r&&(match a.w,b.w with|some x,some y=>!beq x y|_,_=>true)&&Alw a.u (b.f++b.u)&&Alw b.u a.f
def bL(e:Edge):Bool:=match e.ground with|.textOnly _=>false|.gcOnly _=>false|_=>true
def UW(o:Oper):List Nat:=(o.after.toList.filter bL).map (·.on)
def Ahy{α:Type}:List Nat->(List Nat->α)->α
|[],k=>k []
|i::r,k=>Ahy r fun s=>k (i::s)
def RC{α:Type}:∀(l:List Nat)(k:List Nat->α),Ahy l k=k l
|[],_=>rfl
|i::r,k=>by rw[Ahy,RC r]
def Je:List Oper->List (List Nat)->List (List Nat)
|[],acc=>acc
|o::r,acc=>Ahy (su (UW o++((UW o).flatMap fun i=>(acc[i]?).getD [])) []) fun a=>Je r (acc++[a])
def IJ:Nat->List Oper->Bool
|_,[]=>true
|i,o::r=>(o.after.toList.all fun e=>!bL e||Nat.blt e.on i)&&IJ (i+1) r
def mK(f:Foot)(anc:List Nat):Nat->List Foot->Bool
|_,[]=>true
|i,g::r=>(Kj anc i||sv g f)&&mK f anc (i+1) r
def fy:List Foot->List (List Nat)->List Foot->Bool
|[],_,_=>true
|f::r,a::az9,seen=>mK f a 0 seen&&fy r az9 (seen++[f])
|_::_,[],_=>false
def Ol(b:Nat):Nat:=cond (ble J8 b) (b - J8) b
mutual
def IV(g:Bp):AV->AV
|.own b off n=>match Ii g b with|some _=>.own (Ol b) off n|none=>.undef
|.optr b off=>match Ii g b with|some _=>.optr (Ol b) off|none=>.undef
|.omap b=>match Ii g b with|some _=>.omap (Ol b)|none=>.undef
|.agg c=>.agg (M5 g c)
|.tup c=>.tup (M5 g c)
|.fn f c=>.fn f (M5 g c)
|v=>v
def M5(g:Bp):List AV->List AV
|[]=>[]
|v::r=>IV g v::M5 g r
end
def qn(g:Bp)(K:List Nat):Ji->Ji
|[]=>[]
|(t,v)::r=>cond (Kj K t) ((t,IV g v)::qn g K r) (qn g K r)
def xT(K:List Nat):Ji->List Nat
|[]=>[]
|(t,v)::r=>cond (Kj K t) (Jj v++xT K r) (xT K r)
def IW(g:Bp):List Nat->A9
|[]=>[]
|b::r=>match Ii g b with
  |some x=>Ho (IW g r) (Ol b) {x with cells:=cond x.pure x.cells (M5 g x.cells)}
  |none=>IW g r
def MM(g:Bp)(ids:List Nat):List Nat:=ids.filter fun b=>match Ii g b with|some _=>true|none=>false
def xU(g:Bp)(ids:List Nat):List Nat->Bool
|[]=>true
|b::r=>(Kj ids b||(Ii g b).isNone)&&xU g ids r
def Aur:List Nat->Bool
|[]=>true
|b::r=>cond (ble J8 b) (Nat.blt (Ol b) 100000) true&&Aur r
def clean(K roots:List Nat)(st:St):Option St :=
 let g:=Ao st.h
 let ids:=MM g (IU g (xT K st.s++roots))
 cond (bJ (ids.map Ol)&&(xU g ids (xT K st.s)&&(xU g ids (Ok g ids)&&Aur ids))) (some {s:=qn g K st.s,h:=IW g ids}) none
def UX{R:Type}(E:Env)(roots:List Nat)(ops:Array Oper)(draw:Bool)(st:St)(k:St->O R):O R :=
 xS E ops ops.toList st [] fun st tr =>
  cond (!draw||(IJ 0 ops.toList&&fy tr.reverse (Je ops.toList []) [])) ((clean (st.s.map (·.1)) roots st).bind k) none
def xV(b:Nat):Bool:=ble 100000 b&&Nat.blt b 200000
def UY(live:List Nat):List (Nat×Nat)->St->Option St
|[],st=>some st
|(t,sz)::r,st=>cond (ble 1000000 sz)
  (match Kj live t,Io st.s t with
  |true,.nsl=>UY live r {s:=kT st.s t (.imm [] 0 (sz - 1000000) false false),h:=st.h}
  |true,.own b off n=>(jP (Ao st.h) (.own b off n)).bind fun q=>UY live r {s:=kT st.s t q.1,h:=An q.2.1 st.h}
  | _,_=>UY live r st)
  (match Kj live t,Io st.s t with
  |true,.nsl=>cond (Ao st.h (nid t+15)).isSome none (UY live r {s:=kT st.s t (.own (nid t+15) 0 0),h:=Ho st.h (nid t+15) (Ip sz)})
  | _,_=>UY live r st)
def RD(free:List Nat)(b:Nat):Bool:=xV b&&!Kj free b
def Ay8(free ids:List Nat):List (Nat×Nat):=Bb 300000 (ids.filter fun b=>!RD free b)
def IX(free ids:List Nat)(b:Nat):Nat:=cond (RD free b) b (Ly 0 (Ay8 free ids) b)
def Ay9(ρ:Nat->Nat)(K:List Nat):Ji->Ji
|[]=>[]
|(t,v)::r=>cond (Kj K t) ((t,iM ρ v)::Ay9 ρ K r) (Ay9 ρ K r)
def YP(E:Env)(live roots:List Nat)(st:St):Option St :=
 (UY live E.nils st).bind fun st =>
 let g:=Ao st.h
 let ids:=MM g (IU g (xT live st.s++roots))
 cond (bJ (ids.map (IX E.free ids))&&(YO ids (xT live st.s)&&(YO ids (Ok g ids)&&ble ids.length 100000))) (some {s:=Ay9 (IX E.free ids) live st.s,h:=sub g (IX E.free ids) ids}) none
inductive Hint where
|leaf
|node (live:List Nat) (a b:Hint)
|join (live:List Nat) (a b:Hint)
def Hint.live:Hint->List Nat
|.leaf=>[]
|.node l _ _=>l
|.join l _ _=>l
def Hint.a:Hint->Hint
|.leaf=>.leaf
|.node _ a _=>a
|.join _ a _=>a
def Hint.b:Hint->Hint
|.leaf=>.leaf
|.node _ _ b=>b
|.join _ _ b=>b
def Hint.isJoin:Hint->Bool
|.join _ _ _=>true
|_=>false
noncomputable def Ac{α:Type}(a:α):{x:α // x=a}:=Classical.choice ⟨⟨a,rfl⟩⟩
noncomputable def Aza{R:Type}(j:Bool)(f:St->O R):St->O R:=cond j (Ac f).1 f
def Z7{R:Type}(j:Bool)(f:St->O R):Aza j f=f:=by cases j;rfl;exact(Ac f).2
noncomputable def Aly{R:Type}(E:Env)(roots:List Nat)(H:Hint)(f:St->O R)(st:St):O R:=cond H.isJoin ((YP E H.live roots st).bind (Aza true f)) (f st)
def YQ{R:Type}(cn:St->Option St)(body:(St->O R)->St->O R):Nat->St->O R
|0,_=>none
|n+1,st=>body (fun st=>(cn st).bind (YQ cn body n)) st
noncomputable def F6{R:Type}(E:Env)(roots:List Nat)(N:Nat):Code->Hint->(St->O R)->(Nat->St->O R)->(St->O R)->St->O R
|.skip,_,k,_,_,st=>k st
|.region _ ops draw,_,k,_,_,st=>UX E roots ops draw st k
|.seq a b,H,k,x,r,st=>F6 E roots N a H.a (Aly E roots H fun st=>F6 E roots N b H.b k x r st) x r st
|.cond c a b,H,k,x,r,st=>match ev st.s c with
  |.bool t=>cond t (F6 E roots N a H.a k x r st) (F6 E roots N b H.b k x r st)
  |_=>none
|.block id c,H,k,x,r,st=>F6 E roots N c H.a k (fun j st=>cond (beq j id) (k st) (x j st)) r st
|.loop c,H,_,x,r,st=>(YP E H.live roots st).bind (Aza true (YQ (YP E H.live roots) (fun k st=>F6 E roots N c H.a k x r st) N))
|.exit id,_,_,x,_,st=>x id st
|.ret,_,_,_,r,st=>r st
|_,_,_,_,_,_=>none
def Ry{R:Type}(E:Env)(st:St):List ResultVar->LA->(LA->O R)->O R
|[],acc,k=>k acc.reverse
|.tmp t::r,acc,k=>Ry E st r (Io st.s t::acc) k
|.cell a t::r,acc,k=>xO E.P (Ao st.h) t (Io st.s a) fun v=>Ry E st r (v::acc) k
def A4g(g:Bp)(i:Nat)(m:Nat×Nat)(v:AV):Option (AV×F2) :=
 cond (beq m.1 0) (some (v,[]))
 (cond (beq m.1 1) (match v with
  |.nsl=>some (.imm [] 0 m.2 false false,[])
  |.imm c n sz _ o=>some (.imm c n sz false o,[])
  |.own b off n=>(jP g (.own b off n)).bind fun q=>some (q.1,q.2.1)
  | _=>none)
 (cond (beq m.1 2) (match v with
  |.nsl=>cond (g (nid 90000+i)).isSome none (some (.own (nid 90000+i) 0 0,[(nid 90000+i,some (Ip m.2))]))
  | v=>some (v,[]))
 (match v with
  |.agg c=>(IS g c).bind fun q=>some (.pagg q.1 q.2.2,q.2.1)
  |.pagg c o=>some (.pagg c o,[])
  | _=>none)))
def Alz(h:A9):Nat->List (Nat×Nat)->LA->Option (LA×A9)
|_,_,[]=>some ([],h)
|i,ms,v::r=>(A4g (Ao h) i (ms.headD (0,0)) v).bind fun p=>(Alz (An p.2 h) (i+1) ms.tail r).bind fun q=>some (p.1::q.1,q.2)
def A4h(l:LA):AV:=match l with|[v]=>v|l=>.tup l
def Z8{R:Type}(E:Env)(fn:Func)(modes:List (Nat×Nat))(outs:List Nat)(k:AV->A9->O R)(st:St):O R :=
 Ry E st fn.results.toList [] fun l =>
 (Alz st.h 0 modes l).bind fun q =>
 let v:=A4h q.1
 let g:=Ao q.2
 let ids:=MM g (IU g (Jj v++outs))
 cond (bJ (ids.map (IX E.free ids))&&(YO ids (Jj v)&&(YO ids (Ok g ids)&&ble ids.length 100000))) (k (iM (IX E.free ids) v) (sub g (IX E.free ids) ids)) none
def xW:Nat->LA->Ji
|_,[]=>[]
|i,v::r=>(i,v)::xW (i+1) r
structure Hints where
 H:Hint
 nils:List (Nat×Nat):=[]
 modes:List (Nat×Nat):=[]
 free:List Nat:=[]
 cob:List Nat:=[]
def mL:A9->Bool
|[]=>true
|(b,_)::r=>xV b&&mL r
noncomputable def sw{R:Type}(P:Program)(muts:Nat->List Bool)(T:List (Nat×Tw))(hs:Hints)(N f:Nat)(args:LA)(h:A9)(k:AV->A9->O R):O R :=
 match P.funcs[f]? with
|none=>none
| some fn=>match fn.body with
  |none=>none
  |some c =>
   let E:Env:={P,nt:=fn.ntmps,muts,nils:=hs.nils,free:=hs.free,cob:=hs.cob,tbl:=T}
   let outs:=h.map (·.1)
   let fin:=Z8 E fn hs.modes outs k
   cond (ble args.length fn.ntmps&&mL h) (F6 E outs N c hs.H fin (fun _ _=>none) fin {s:=xW 0 args,h}) none
end Gx
namespace Gx
open Go
mutual
def RepC(J:Nat->Prop)(w:World):AV->Value->Prop
|.int k n,v=>v=.int k n
|.bool b,v=>v=.bool b
|.str s,v=>v=.string ⟨⟨s⟩⟩
|.nsl,v=>v=.slice none 0 0
| .imm c len sz tight _,v=>c.length=len*sz/\∃ A cap,v=.slice A len cap/\len<=cap/\(tight=true->cap=len) /\
   (len=0\/∃ a,A=some a/\J a.block/\RepCs J w c (fun j=>w.cell? (a.add j)) 0)
|.iptr c _,v=>∃ a,v=.pointer (some a)/\J a.block/\RepCs J w c (fun j=>w.cell? (a.add j)) 0
|.nilptr,v=>v=.pointer none
|.nilfn,v=>v=.nilFunc
|.fn f [],v=>v=.func (.func (f%1000000)) #[] #[]
|_,_=>False
def RepCs(J:Nat->Prop)(w:World):List AV->(Nat->Option Value)->Nat->Prop
|[],_,_=>True
|x::r,rd,i=>(∃ u,rd i=some u/\RepC J w x u)/\RepCs J w r rd (i+1)
end
def Ck{J:Nat->Prop}{w:World}:∀{c:LA}{rd:Nat->Option Value}{i:Nat},
  RepCs J w c rd i↔∀ j x,c[j]?=some x->∃ u,rd (i+j)=some u/\RepC J w x u:=by
 intro c
 induction c with
|nil=>intro rd i;simp[RepCs]
| cons x r e =>
  intro rd i
  rw[RepCs,e]
  constructor
  ·rintro⟨h0,f⟩ j y d
   cases j with
   |zero=>simp at d;subst d;simpa using h0
   |succ j=>have:=f j y (by simpa using d);rwa [show i+1+j=i+(j+1) by omega]at this
  ·intro h
   refine⟨by simpa using h 0 x (by simp),fun j y d=>?_⟩
   have:=h (j+1) y (by simpa using d)
   rwa [show i+(j+1)=i+1+j by omega]at this
def Al0(J:Nat->Prop)(w w':World):Prop:=∀ k,J k->w'.heap[k]?=w.heap[k]?
def qo{J:Nat->Prop}{w w':World}(h:Al0 J w w'){a:Addr}(d:J a.block):w'.cell? a=w.cell? a:=by unfold World.cell?;rw[h a.block d]
def Vm(a:Addr)(n:Nat):(a.add n).block=a.block:=by unfold Addr.add;split<;>rfl
mutual
def RepC.keep{J J':Nat->Prop}{w w':World}(hJ:∀ k,J k->J' k)(hk:Al0 J w w'):∀{x:AV}{v:Value},RepC J w x v->RepC J' w' x v
|.int ..,_,h=>h
|.bool _,_,h=>h
|.str _,_,h=>h
|.nsl,_,h=>h
| .imm c _ _ _ _,_,h=>by
  rw[RepC]at h ⊢
  obtain⟨h1,A,cap,h2,h3,h4,h5⟩:=h
  refine⟨h1,A,cap,h2,h3,h4,?_⟩
  rcases h5 with h5|⟨a,ha,hj,hc⟩
  ·exact .inl h5
  ·refine .inr ⟨a,ha,hJ _ hj,RepCs.keep hJ hk (c:=c) (fun j=>?_) hc⟩
   exact qo hk (by rw[Vm];exact hj)
|.iptr c _,_,h=>by
  rw[RepC]at h ⊢
  obtain⟨a,ha,hj,hc⟩:=h
  exact⟨a,ha,hJ _ hj,RepCs.keep hJ hk (c:=c) (fun j=>qo hk (by rw[Vm];exact hj)) hc⟩
|.nilptr,_,h=>h
|.nilfn,_,h=>h
|.fn _ [],_,h=>h
|.fn _ (_::_),_,h=>by simp[RepC]at h
|.pagg ..,_,h=>by simp[RepC]at h
|.agg _,_,h=>by simp[RepC]at h
|.tup _,_,h=>by simp[RepC]at h
|.own ..,_,h=>by simp[RepC]at h
|.optr ..,_,h=>by simp[RepC]at h
|.undef,_,h=>by simp[RepC]at h
|.omap _,_,h=>by simp[RepC]at h
def RepCs.keep{J J':Nat->Prop}{w w':World}(hJ:∀ k,J k->J' k)(hk:Al0 J w w'):∀{c:List AV}{rd rd':Nat->Option Value}{i:Nat},(∀ j,rd' j=rd j)->RepCs J w c rd i->RepCs J' w' c rd' i
|[],_,_,_,_,_=>trivial
|x::r,rd,rd',i,he,h=>by
  rw[RepCs]at h ⊢
  obtain⟨⟨u,hu,hx⟩,hr⟩:=h
  exact⟨⟨u,by rw[he];exact hu,RepC.keep hJ hk (x:=x) hx⟩,RepCs.keep hJ hk (c:=r) he hr⟩
end
abbrev De:=Nat->Option (Nat×Nat)
def Bl(w:World)(k:Nat):Nat:=match w.heap[k]? with|some (.cells cs _ _)=>cs.size|_=>0
def A51(sz k:Nat):Value:=match sz with|0=>.map (some k)|_+1=>.pointer (some ⟨k,0,none⟩)
mutual
def Rep(J:Bool->Nat->Prop)(β:De)(h:A9)(w:World):AV->Value->Prop
| .own b off n,v=>∃ x A cap,(Ao h b=some x/\x.mp=false)/\v=.slice A n cap/\n<=cap/\(cap=0\/∃ k o,A=some ⟨k,o+off,none⟩ /\
   (x.dead=true\/(β b=some (k,o)/\o+off+cap*x.sz<=Bl w k/\off+n*x.sz<=x.cells.length)))
|.omap b,v=>∃ x k,(Ao h b=some x/\x.mp=true)/\(x.dead=true\/(β b=some (k,0)/\v=A51 x.sz k))
|.optr b off,v=>∃ x k o,(Ao h b=some x/\x.mp=false)/\v=.pointer (some ⟨k,o+off,none⟩)/\(x.dead=true\/β b=some (k,o))
|.pagg c org,v=>∃ cs,v=.agg ⟨cs⟩/\cs.length=c.length/\RepCs (J org) w c (fun j=>cs[j]?) 0
|.agg c,v=>∃ cs,v=.agg ⟨cs⟩/\Reps J β h w c cs
|.tup c,v=>∃ cs,v=.tuple ⟨cs⟩/\Reps J β h w c cs
|.fn f c,v=>∃ cs:List Value,v=.func (.func (f%1000000)) ⟨cs.take (f/1000000)⟩ ⟨cs.drop (f/1000000)⟩/\Reps J β h w c cs
|.undef,_=>True
|.imm c n sz t org,v=>RepC (J org) w (.imm c n sz t org) v
|.iptr c org,v=>RepC (J org) w (.iptr c org) v
|.int k n,v=>v=.int k n
|.bool b,v=>v=.bool b
|.str s,v=>v=.string ⟨⟨s⟩⟩
|.nsl,v=>v=.slice none 0 0
|.nilptr,v=>v=.pointer none
|.nilfn,v=>v=.nilFunc
def Reps(J:Bool->Nat->Prop)(β:De)(h:A9)(w:World):List AV->List Value->Prop
|[],cs=>cs=[]
|x::r,cs=>∃ u us,cs=u::us/\Rep J β h w x u/\Reps J β h w r us
end
structure Ext(J:Bool->Nat->Prop)(β:De)(h:A9)(w:World)(J':Bool->Nat->Prop)(β':De)(h':A9)(w':World):Prop where
 jsub:∀ o k,J o k->J' o k
 keep:∀ o,Al0 (J o) w w'
 blk:∀ b x,Ao h b=some x->∃ x',(Ao h' b=some x'/\x'.mp=x.mp)/\(x'.dead=true\/(x.dead=false/\β' b=β b/\x'.sz=x.sz/\(x.mp=false->x'.cells.length=x.cells.length)))
 size:∀ b k o,β b=some (k,o)->Bl w k<=Bl w' k
mutual
def Rep.ext{J J':Bool->Nat->Prop}{β β':De}{h h':A9}{w w':World}(E:Ext J β h w J' β' h' w'):∀{x:AV}{v:Value},Rep J β h w x v->Rep J' β' h' w' x v
| .own b off n,v,hr=>by
  rw[Rep]at hr ⊢
  obtain⟨x,A,cap,⟨hx,hm⟩,h1,h2,hr⟩:=hr
  obtain⟨x',⟨hx',hm'⟩,hd⟩:=E.blk b x hx
  refine⟨x',A,cap,⟨hx',by rw[hm',hm]⟩,h1,h2,?_⟩
  rcases hr with hr|⟨k,o,h3,hr⟩
  ·exact .inl hr
  ·refine .inr ⟨k,o,h3,?_⟩
   rcases hd with hd|⟨hd,hβ,hs,hl⟩
   ·exact .inl hd
   ·rcases hr with hr|⟨h4,h5,h6⟩
    ·simp[hd]at hr
    ·exact .inr ⟨by rw[hβ];exact h4,by rw[hs];exact Bag h5 (E.size b k o h4),by rw[hs,hl hm];exact h6⟩
| .optr b off,v,hr=>by
  rw[Rep]at hr ⊢
  obtain⟨x,k,o,⟨hx,hm⟩,h1,hr⟩:=hr
  obtain⟨x',⟨hx',hm'⟩,hd⟩:=E.blk b x hx
  refine⟨x',k,o,⟨hx',by rw[hm',hm]⟩,h1,?_⟩
  rcases hd with hd|⟨hd,hβ,hs,hl⟩
  ·exact .inl hd
  ·rcases hr with hr|hr
   ·simp[hd]at hr
   ·exact .inr (by rw[hβ];exact hr)
| .omap b,v,hr=>by
  rw[Rep]at hr ⊢
  obtain⟨x,k,⟨hx,hm⟩,hr⟩:=hr
  obtain⟨x',⟨hx',hm'⟩,hd⟩:=E.blk b x hx
  refine⟨x',k,⟨hx',by rw[hm',hm]⟩,?_⟩
  rcases hd with hd|⟨hd,hβ,hs,hl⟩
  ·exact .inl hd
  ·rcases hr with hr|⟨hr,hv⟩
   ·simp[hd]at hr
   ·exact .inr ⟨by rw[hβ];exact hr,by rw[hs];exact hv⟩
|.pagg c org,v,hr=>by
  rw[Rep]at hr ⊢
  obtain⟨cs,h1,h2,h3⟩:=hr
  exact⟨cs,h1,h2,RepCs.keep (E.jsub org) (E.keep org) (fun _=>rfl) h3⟩
|.agg c,v,hr=>by
  rw[Rep]at hr ⊢
  obtain⟨cs,h1,h2⟩:=hr
  exact⟨cs,h1,Reps.ext E (c:=c) h2⟩
|.tup c,v,hr=>by
  rw[Rep]at hr ⊢
  obtain⟨cs,h1,h2⟩:=hr
  exact⟨cs,h1,Reps.ext E (c:=c) h2⟩
|.fn f c,v,hr=>by
  rw[Rep]at hr ⊢
  obtain⟨cs,h1,h2⟩:=hr
  exact⟨cs,h1,Reps.ext E (c:=c) h2⟩
|.undef,_,_=>by rw[Rep];trivial
|.imm c n sz t org,v,hr=>by rw[Rep]at hr ⊢;exact RepC.keep (E.jsub org) (E.keep org) hr
|.iptr c org,v,hr=>by rw[Rep]at hr ⊢;exact RepC.keep (E.jsub org) (E.keep org) hr
|.int ..,_,hr=>hr
|.bool _,_,hr=>hr
|.str _,_,hr=>hr
|.nsl,_,hr=>hr
|.nilptr,_,hr=>hr
|.nilfn,_,hr=>hr
def Reps.ext{J J':Bool->Nat->Prop}{β β':De}{h h':A9}{w w':World}(E:Ext J β h w J' β' h' w'):∀{c:List AV}{cs:List Value},Reps J β h w c cs->Reps J' β' h' w' c cs
|[],_,hr=>hr
|x::r,cs,hr=>by
  rw[Reps]at hr ⊢
  obtain⟨u,us,h1,h2,h3⟩:=hr
  exact⟨u,us,h1,Rep.ext E (x:=x) h2,Reps.ext E (c:=r) h3⟩
end
end Gx
namespace Gx
open Go
def Aus:List (Nat×List Value):=[(1,(List.range 20).map fun i=>.int .u64 ((10 ^ i:Nat):Int))]
def Arc:List Nat:=[0]
end Gx
namespace Gx
open Go
def CellsRep(J:Bool->Nat->Prop)(β:De)(h:A9)(w:World)(x:Blk)(rd:Nat->Option Value):Prop :=
 (x.pure=true->RepCs (J x.taint) w x.cells rd 0) /\
 (x.pure=false->∀ j c,x.cells[j]?=some c->∃ u,rd j=some u/\Rep J β h w c u/\u.oneCell'=true)
def FrOk(n:Nat)(fr:Nat×Nat):Prop:=fr.1=fr.2\/n<=fr.1
def FrOk.at{n:Nat}{fr:Nat×Nat}(h:FrOk n fr)(j:Nat)(d:j<n):¬ (fr.1<=j/\j<fr.2):=by rcases h with h|h<;>omega
def TyOk(X:Option (Nat×Nat))(ty:TypeId)(o n:Nat):Prop:=∀ t m,X=some (t,m)->ty=t/\o=0/\(m=0\/n=m)
def FrTy(X:Option (Nat×Nat))(ty:TypeId)(o n:Nat)(fr:Nat×Nat):Prop:=FrOk n fr/\TyOk X ty o n
def TyOk.none{ty:TypeId}{o n:Nat}:TyOk .none ty o n:=fun _ _ h=>by cases h
def FrOk.un{n:Nat}{fr:Nat×Nat}(h:FrOk n fr){ty:TypeId}{o:Nat}:FrTy .none ty o n fr:=⟨h,TyOk.none⟩
def FrTy.un0{ty:TypeId}{o n a:Nat}:FrTy .none ty o n (a,a):=⟨.inl rfl,TyOk.none⟩
def A4i(J:Bool->Nat->Prop)(β:De)(h:A9)(w:World)(b:Nat)(x:Blk):Prop :=
 (β b=none/\x.cells=[])\/∃ k o cs ty fr,β b=some (k,o)/\w.heap[k]?=some (.cells cs ty fr) /\
  FrTy x.ty ty o cs.size fr/\o+x.cells.length<=cs.size/\CellsRep J β h w x (fun j=>cs[o+j]?) /\
  (x.sealed=false->∀ g,¬ J g k)/\(x.sealed=true->J x.taint k)
def A4j(c:LA)(es:Array MapEntry):Prop:=∃ l:List Int,c=l.map (fun n=>.int .i64 n)/\es.toList.map (fun e=>(e.key,e.val))=l.map (fun n=>(.int .i64 n,.bool true))
def ObjIs(x:Blk)(ob:Obj):Prop:=(x.sz=0/\∃ es clk,ob=.map es clk/\A4j x.cells es)\/(x.sz=1/\∃ s pos,ob=.stringIter ⟨⟨s⟩⟩ pos/\x.cells=[.str s,.int .i64 (pos:Int)])
def MapRep(J:Bool->Nat->Prop)(β:De)(w:World)(b:Nat)(x:Blk):Prop:=x.pure=true/\x.sealed=false/\∃ k ob,β b=some (k,0)/\w.heap[k]?=some ob/\ObjIs x ob/\∀ g,¬ J g k
def ObjIs.row{x:Blk}{ob:Obj}(h:ObjIs x ob){cs:Array Value}{ty:TypeId}{fr:Nat×Nat}:ob≠.cells cs ty fr:=by rcases h with⟨_,es,clk,rfl,_⟩|⟨_,s,pos,rfl,_⟩<;>exact fun h=>by cases h
def GlobOk(J:Bool->Nat->Prop)(w:World):Prop:=(∀ p∈Aus,J false p.1/\∃ ty fr,w.heap[p.1]?=some (.cells p.2.toArray ty fr))/\∀ g∈Arc,J false g/\∃ m,w.cell? ⟨g,0,none⟩=some (.int .i64 m)
def GlobOk.to {J J':Bool->Nat->Prop} {w w':World} (h:GlobOk J w) (f:∀ k,J false k->J' false k) (j:Al0 (J false) w w'):GlobOk J' w':=⟨fun p d =>
 ⟨f _ (h.1 p d).1,by rw[j _ (h.1 p d).1];exact(h.1 p d).2⟩,fun g e=>⟨f _ (h.2 g e).1,by rw[qo j (by exact(h.2 g e).1)];exact(h.2 g e).2⟩⟩
def GlobOk.ext{J J':Bool->Nat->Prop}{β β':De}{h h':A9}{w w':World}(G:GlobOk J w)(E:Ext J β h w J' β' h' w'):GlobOk J' w':=G.to (E.jsub false) (E.keep false)
structure SimH(J:Bool->Nat->Prop)(β:De)(h:A9)(w:World):Prop where
 jlt:∀ o k,J o k->k<w.heap.size
 jft:∀ k,J false k->J true k
 gl:GlobOk J w
 blk:∀ b x,Ao h b=some x->x.dead=false->x.mp=false->A4i J β h w b x
 mblk:∀ b x,Ao h b=some x->x.dead=false->x.mp=true->MapRep J β w b x
 sep:∀ b b' x x' k o o',Ao h b=some x->Ao h b'=some x'->x.dead=false->x'.dead=false->x.sealed=false->β b=some (k,o)->β b'=some (k,o')->b=b'
mutual
def UZ{J:Bool->Nat->Prop}{β:De}{h:A9}{w:World}:∀ v:Value,Rep J β h w (qZ v) v
|.int ..=>by simp[qZ,Rep]
|.bool _=>by simp[qZ,Rep]
|.string ⟨⟨s⟩⟩=>by simp[qZ,Rep]
|.slice none 0 0=>by simp[qZ,Rep]
|.slice none 0 (_+1)=>by simp[qZ,Rep]
|.slice none (_+1) _=>by simp[qZ,Rep]
|.slice (some _) _ _=>by simp[qZ,Rep]
|.pointer none=>by simp[qZ,Rep]
|.pointer (some _)=>by simp[qZ,Rep]
|.nilFunc=>by simp[qZ,Rep]
|.agg ⟨cs⟩=>by rw[qZ,Rep];exact⟨cs,rfl,gA cs⟩
|.float ..=>by simp[qZ,Rep]
|.complex ..=>by simp[qZ,Rep]
|.map _=>by simp[qZ,Rep]
|.chan _=>by simp[qZ,Rep]
|.func ..=>by simp[qZ,Rep]
|.iface ..=>by simp[qZ,Rep]
|.nilIface=>by simp[qZ,Rep]
|.tuple _=>by simp[qZ,Rep]
def gA{J:Bool->Nat->Prop}{β:De}{h:A9}{w:World}:∀ cs:List Value,Reps J β h w (Oj cs) cs
|[]=>by simp[Oj,Reps]
|v::r=>by rw[Oj,Reps];exact⟨v,r,rfl,UZ v,gA r⟩
end
structure SimS(J:Bool->Nat->Prop)(β:De)(h:A9)(w:World)(s:Ji)(t:Array Value):Prop where
 slot:∀ i v,t[i]?=some v->Rep J β h w (Io s i) v
 out:∀ i,t.size<=i->Io s i=.undef
def Bn{J:Bool->Nat->Prop}{β:De}{h:A9}{w:World}{s:Ji}{a:Act}(H:SimS J β h w s a.tmps)(x:Operand):Rep J β h w (ev s x) (a.eval x):=by
 cases x with
| tmp t =>
  rw[ev,Act.eval,Bbc]
  cases d:a.tmps[t]? with
  |some v=>exact H.slot t v d
  |none =>
   have:a.tmps.size<=t:=by simpa using d
   rw[H.out t this];simp[Rep]
|const v=>exact UZ v
|global g=>simp[ev,Rep]
| func f =>
  rw[ev]
  cases e:Nat.blt f 1000000 with
  |false=>simp[Rep]
  |true =>
   have:f<1000000:=by simpa using e
   simp[Rep,Act.eval,Reps,Ba4 this]
section
variable{R:Type}{r:R}{P:Program}{J:Bool->Nat->Prop}{β:De}{h:A9}{w:World}
def Ahz{t:TypeId}{op:BinOp}{k:IntKind}{a b:Int}{v:AV}(d:q_ op k a b=some v):
  ∃ vc,(binOp op t (.int k a) (.int k b)).run P w=.ok vc w/\Rep J β h w v vc:=by cases op<;>simp[q_]at d<;>subst d<;>simp[binOp,Op.intArith,Op.intBits,Op.intCmp,Rep]
def Ard{op:BinOp}{t:TypeId}{x y:AV}{k:AV->O R}{vx vy:Value}(e:Awe P t op x y k=some r)(hx:Rep J β h w x vx)(s:Rep J β h w y vy)(ox oy:Operand):
  ∃ v vc,k v=some r/\(do eqGuard op t ox oy vx vy;binOp op t vx vy:Sem Value).run P w=.ok vc w/\Rep J β h w v vc:=by
 unfold Awe at e
 split at e
 ·rename_i m a q b
  rw[Rep]at hx s;subst hx s
  have j:(eqGuard op t ox oy (.int m a) (.int q b)).run P w=.ok () w:=by
   unfold eqGuard;cases op<;>simp
  split at e
  ·cases f:decide (b<0)<;>rw[f]at e<;>simp at e f
   refine⟨_,_,e,?_,by rw[Rep]⟩
   simp[j,binOp,Op.shift];intro A;omega
  ·cases f:decide (b<0)<;>rw[f]at e<;>simp at e f
   refine⟨_,_,e,?_,by rw[Rep]⟩
   simp[j,binOp,Op.shift];intro A;omega
  ·cases n:Qc m q<;>rw[n]at e<;>simp at e
   have l:m=q:=by simpa[Qc]using n
   subst l
   cases f:(b==0)<;>rw[f]at e<;>simp at e f
   refine⟨_,_,e,?_,by rw[Rep]⟩
   simp[j,binOp,Op.intDiv,f]
  ·cases n:Qc m q<;>rw[n]at e<;>simp at e
   have l:m=q:=by simpa[Qc]using n
   subst l
   cases f:(b==0)<;>rw[f]at e<;>simp at e f
   refine⟨_,_,e,?_,by rw[Rep]⟩
   simp[j,binOp,Op.intDiv,f]
  ·cases n:Qc m q<;>rw[n]at e<;>simp at e
   have l:m=q:=by simpa[Qc]using n
   subst l
   cases hi:q_ op m a b with
   |none=>rw[hi]at e;simp at e
   |some v =>
    rw[hi]at e
    obtain⟨vc,B,C⟩:=Ahz (P:=P) (J:=J) (β:=β) (h:=h) (w:=w) (t:=t) hi
    exact⟨v,vc,by simpa using e,by simp[j,B],C⟩
 ·rename_i a b
  rw[Rep]at hx s;subst hx s
  split at e
  ·cases f:fq P t<;>rw[f]at e<;>simp at e
   have u:P.underlying t=some .bool:=by unfold fq at f;split at f<;>simp_all
   refine⟨_,_,e,?_,by rw[Rep]⟩
   have z:(Op.equal t (.bool a) (.bool b)).run P w=.ok (a==b) w:=by
    have:∀ d,(Op.equalIn (d+1) t (.bool a) (.bool b)).run P w=.ok (a==b) w:=fun d=>by
     unfold Op.equalIn;simp only[Sem.run_bind,run_underlying u,Result.andThen_ok,Sem.run_pure]
    exact this 9999
   have j:∀ op,(eqGuard op t ox oy (.bool a) (.bool b)).run P w=.ok () w:=fun op=>by unfold eqGuard;cases op<;>simp
   simp only[Sem.run_bind,j,Result.andThen_ok,binOp,z,Sem.run_pure]
  ·cases f:fq P t<;>rw[f]at e<;>simp at e
   have u:P.underlying t=some .bool:=by unfold fq at f;split at f<;>simp_all
   refine⟨_,_,e,?_,by rw[Rep]⟩
   have z:(Op.equal t (.bool a) (.bool b)).run P w=.ok (a==b) w:=by
    have:∀ d,(Op.equalIn (d+1) t (.bool a) (.bool b)).run P w=.ok (a==b) w:=fun d=>by
     unfold Op.equalIn;simp only[Sem.run_bind,run_underlying u,Result.andThen_ok,Sem.run_pure]
    exact this 9999
   have j:∀ op,(eqGuard op t ox oy (.bool a) (.bool b)).run P w=.ok () w:=fun op=>by unfold eqGuard;cases op<;>simp
   simp only[Sem.run_bind,j,Result.andThen_ok,binOp,z,Sem.run_pure]
  ·simp at e
 ·rename_i a b
  rw[Rep]at hx s;subst hx s
  have D:(⟨⟨a⟩⟩:ByteArray).toList=a:=by simp[ByteArray.toList_eq]
  have eb:(⟨⟨b⟩⟩:ByteArray).toList=b:=by simp[ByteArray.toList_eq]
  have j:∀ op,(eqGuard op t ox oy (.string ⟨⟨a⟩⟩) (.string ⟨⟨b⟩⟩)).run P w=.ok () w:=fun op=>by unfold eqGuard;cases op<;>simp
  split at e
  ·cases f:ble (a.length+b.length) 140737488355328<;>rw[f]at e<;>simp at e f
   refine⟨_,_,e,?_,by rw[Rep]⟩
   have F:¬ (((⟨⟨a⟩⟩:ByteArray).size+(⟨⟨b⟩⟩:ByteArray).size:Nat):Int)>IntKind.i64.max:=by
    show ¬ ((a.length+b.length:Nat):Int)>9223372036854775807
    omega
   have G:(⟨⟨a⟩⟩:ByteArray)++⟨⟨b⟩⟩=⟨⟨a++b⟩⟩:=by
    apply ByteArray.ext;simp[ByteArray.data_append]
   simp only[Sem.run_bind,j,Result.andThen_ok,binOp,Op.stringOp,if_neg F,Sem.run_pure,G]
  all_goals first
   |(refine⟨_,_,e,?_,by rw[Rep]⟩;simp only[Sem.run_bind,j,Result.andThen_ok,binOp,Op.stringOp,Sem.run_pure,D,eb];done)
   |simp at e
 ·simp at e
end
end Gx
namespace Gx
open Go
section
variable{R:Type}{r:R}{P:Program}{J:Bool->Nat->Prop}{β:De}{h:A9}{w:World}
def ub{α:Type}{o:Option α}{f:α->O R}(d:o.bind f=some r):∃ x,o=some x/\f x=some r:=by
 cases o with
|none=>simp at d
|some x=>exact⟨x,rfl,by simpa using d⟩
def uc{b:Bool}{x:O R}(d:cond b x none=some r):b=true/\x=some r:=by cases b<;>simp at d;exact⟨rfl,d⟩
def Are{b:Bool}{x:O R}(d:cond b none x=some r):b=false/\x=some r:=by cases b<;>simp at d;exact⟨rfl,d⟩
def Awk{op:UnOp}{x v:AV}{vx:Value}(d:A7c op x=some v)(hx:Rep J β h w x vx):
  ∃ vc,(Op.unary op vx).run P w=.ok vc w/\Rep J β h w v vc:=by
 unfold A7c at d
 split at d
 ·rename_i k n
  rw[Rep]at hx;subst hx;simp at d;subst d
  refine⟨.int k (k.wrap (-n)),by simp[Op.unary,Op.intArith],?_⟩
  rw[Rep]
 ·rename_i k n
  rw[Rep]at hx;subst hx
  have e:=d
  rw[q_]at e
  simp only[Bbe]at e;subst e
  refine⟨_,rfl,?_⟩
  rw[Rep];cases k.signed<;>rfl
 ·rename_i b
  rw[Rep]at hx;subst hx;simp at d;subst d
  exact⟨.bool (!b),by simp[Op.unary],by rw[Rep]⟩
 ·simp at d
def sx(P:Program)(J:Bool->Nat->Prop)(β:De)(h:A9)(w:World)(t:TypeId)(rd:Nat->Option Value)(v:AV):Prop :=
 (∃ d,P.underlying t=some d/\d.isRow=false/\∃ u,rd 0=some u/\Rep J β h w v u) \/
 (∃ d,P.underlying t=some d/\d.isRow=true/\∃ us:List Value,(P.info? t).map (·.size)=some us.length/\(∀ j u,us[j]?=some u->rd j=some u)/\Rep J β h w v (.agg us.toArray))
def RepCs.at{J:Nat->Prop}{c:LA}{rd:Nat->Option Value}(d:RepCs J w c rd 0){j:Nat}{x:AV}(e:c[j]?=some x):∃ u,rd j=some u/\RepC J w x u:=by have:=Ck.1 d j x e;simpa using this
def RepCs.drop{J:Nat->Prop}{c:LA}{rd:Nat->Option Value}(d:RepCs J w c rd 0)(n:Nat):RepCs J w (c.drop n) (fun j=>rd (n+j)) 0:=by
 rw[Ck]at d ⊢
 intro j x e
 rw[Bal]at e
 simpa using d (n+j) x e
def RepCs.take{J:Nat->Prop}{c:LA}{rd:Nat->Option Value}(e:RepCs J w c rd 0)(n:Nat):RepCs J w (c.take n) rd 0:=by
 rw[Ck]at e ⊢
 intro j x d
 rw[Bay]at d
 split at d
 ·exact e j x d
 ·simp at d
def RepCs.list{J:Nat->Prop}{c:LA}{rd:Nat->Option Value}(f:RepCs J w c rd 0):
  ∃ us:List Value,us.length=c.length/\(∀ j u,us[j]?=some u->rd j=some u)/\RepCs J w c (fun j=>us[j]?) 0:=by
 refine⟨c.zipIdx.map fun p=>(rd p.2).getD undef,by simp,fun j u d=>?_,?_⟩
 ·rw[Baw,Bdg]at d
  cases hx:c[j]? with
  |none=>rw[hx]at d;simp at d
  |some x =>
   rw[hx]at d
   obtain⟨k,e,_⟩:=f.at hx
   simp[e]at d
   rw[e,d]
 ·rw[Ck]
  intro j x d
  obtain⟨u,e,hr⟩:=f.at d
  refine⟨u,?_,hr⟩
  simp[d,e]
def sy{J1 J2:Nat->Prop}:∀{c:LA}{rd:Nat->Option Value}{i:Nat},A0 c=true->RepCs J1 w c rd i->RepCs J2 w c rd i
|[],_,_,_,_=>trivial
|x::r,rd,i,d,e=>by
  rw[RepCs]at e ⊢
  obtain⟨⟨u,f,k⟩,j⟩:=e
  have hr:A0 r=true:=by unfold A0 at d;split at d<;>simp_all
  refine⟨⟨u,f,?_⟩,sy hr j⟩
  unfold A0 at d
  split at d<;>simp_all[RepC]
def jR{t:TypeId}{c:LA}{org:Bool}{k:Bool->O R}{rd:Nat->Option Value}{i:Nat}(d:FZ P t c org k=some r)(e:RepCs (J org) w c rd i):∃ o,k o=some r/\RepCs (J o) w c rd i:=by
 unfold FZ at d
 cases f:Auk P t with
|true=>rw[f]at d;exact⟨org,d,e⟩
|false =>
  rw[f,cond_false]at d
  obtain⟨j,l⟩:=uc d
  refine⟨false,l,?_⟩
  cases org with
  |false=>exact e
  |true=>exact sy (by simpa using j) e
def BY{t:TypeId}{c:LA}{org:Bool}{k:AV->O R}{rd:Nat->Option Value}(f:bD P t c org k=some r)(s:RepCs (J org) w c rd 0):
  ∃ v,k v=some r/\sx P J β h w t rd v:=by
 unfold bD at f
 have agg:∀{d:TypeDesc},P.underlying t=some d->d.isRow=true->((B9 P t).bind fun n=>cond (ble n c.length) (FZ P t (c.take n) org fun o=>k (.pagg (c.take n) o)) none)=some r ->
   ∃ v,k v=some r/\sx P J β h w t rd v:=by
  intro d l I f
  obtain⟨n,hn,f⟩:=ub f
  obtain⟨C,f⟩:=uc f
  have G:n<=c.length:=by simpa using C
  obtain⟨us,m,j,D⟩:=(s.take n).list
  have L:us.length=n:=by rw[m];simp;omega
  obtain⟨o,f,F⟩:=jR f D
  refine⟨_,f,.inr ⟨d,l,I,us,?_,j,?_⟩⟩
  ·rw[L];exact hn
  ·rw[Rep];exact⟨us,rfl,by rw[m],F⟩
 split at f
 ·rename_i U l
  obtain⟨x,hx,f⟩:=ub f
  obtain⟨n,hn,f⟩:=ub f
  obtain⟨u,m,j⟩:=s.at (by rw[<-A90];exact hx)
  refine⟨_,f,.inl ⟨_,l,rfl,u,m,?_⟩⟩
  unfold jN at hn
  split at hn
  ·obtain⟨y,z⟩:=uc hn
   simp[Qc]at y z;subst y;subst z
   rw[RepC]at j;rw[Rep];exact j
  ·simp at hn
 ·rename_i l
  obtain⟨x,hx,f⟩:=ub f
  obtain⟨n,hn,f⟩:=ub f
  obtain⟨u,m,j⟩:=s.at (by rw[<-A90];exact hx)
  refine⟨_,f,.inl ⟨_,l,rfl,u,m,?_⟩⟩
  unfold asBool at hn
  split at hn
  ·simp at hn;subst hn
   rw[RepC]at j;rw[Rep];exact j
  ·simp at hn
 ·rename_i l
  obtain⟨x,hx,f⟩:=ub f
  obtain⟨n,hn,f⟩:=ub f
  obtain⟨u,m,j⟩:=s.at (by rw[<-A90];exact hx)
  refine⟨_,f,.inl ⟨_,l,rfl,u,m,?_⟩⟩
  unfold sf at hn
  split at hn
  ·simp at hn;subst hn
   rw[RepC]at j;rw[Rep];exact j
  ·simp at hn
 ·rename_i e l
  obtain⟨sz,M,f⟩:=ub f
  obtain⟨x,hx,f⟩:=ub f
  obtain⟨p,q,f⟩:=ub f
  obtain⟨u,m,j⟩:=s.at (by rw[<-A90];exact hx)
  refine⟨_,f,.inl ⟨_,l,rfl,u,m,?_⟩⟩
  unfold Ay0 at q
  rw[Rep,RepC]
  split at q
  ·obtain⟨y,B⟩:=uc q
   simp at y B;subst y;subst B
   rw[RepC]at j
   obtain⟨D,A,cap,F,S,V,T⟩:=j
   exact⟨D,A,cap,F,S,by simp,T⟩
  ·simp at q;subst q
   rw[RepC]at j
   exact⟨by simp,none,0,j,by simp,by simp,.inl rfl⟩
  ·simp at q
 ·rename_i l;exact agg l rfl f
 ·rename_i l;exact agg l rfl f
 ·simp at f
def Db:∀{c:LA}{cs:List Value},Reps J β h w c cs↔cs.length=c.length/\∀(j:Nat)(x:AV)(u:Value),c[j]?=some x->cs[j]?=some u->Rep J β h w x u
|[],cs=>by rw[Reps];simp
| x::r,cs=>by
  rw[Reps]
  constructor
  ·rintro⟨u,us,rfl,f,k⟩
   rw[Db]at k
   refine⟨by simp[k.1],fun j y v d e=>?_⟩
   cases j with
   |zero=>simp at d e;subst d e;exact f
   |succ j=>exact k.2 j y v (by simpa using d) (by simpa using e)
  ·rintro⟨l,f⟩
   cases cs with
   |nil=>simp at l
   |cons u us =>
    refine⟨u,us,rfl,f 0 x u (by simp) (by simp),?_⟩
    rw[Db]
    exact⟨by simpa using l,fun j y v d e=>f (j+1) y v (by simpa using d) (by simpa using e)⟩
def bM{t:TypeId}{c:LA}{k:AV->O R}{rd:Nat->Option Value}(e:si P t c k=some r)
  (s:∀ j x,c[j]?=some x->∃ u,rd j=some u/\Rep J β h w x u) :
  ∃ v,k v=some r/\sx P J β h w t rd v:=by
 unfold si at e
 have agg:∀{d:TypeDesc},P.underlying t=some d->d.isRow=true->((B9 P t).bind fun n=>cond (ble n c.length) (k (.agg (c.take n))) none)=some r ->
   ∃ v,k v=some r/\sx P J β h w t rd v:=by
  intro d f z e
  obtain⟨n,hn,e⟩:=ub e
  obtain⟨y,e⟩:=uc e
  have q:n<=c.length:=by simpa using y
  refine⟨_,e,.inr ⟨d,f,z,(c.take n).zipIdx.map fun p=>(rd p.2).getD undef,?_,fun j u m=>?_,?_⟩⟩
  ·simp;rw[Bbh q];exact Option.map_eq_some_iff.1 hn
  ·rw[Baw,Bdg]at m
   cases hx:(c.take n)[j]? with
   |none=>rw[hx]at m;simp at m
   | some x =>
    rw[hx]at m
    rw[Bay]at hx
    split at hx
    ·obtain⟨A,l,_⟩:=s j x hx
     simp[l]at m
     rw[l,m]
    ·simp at hx
  ·rw[Rep]
   refine⟨_,rfl,Db.2 ⟨by simp,fun j x u hx f=>?_⟩⟩
   simp[hx]at f
   rw[Bay]at hx
   split at hx
   ·obtain⟨A,l,hr⟩:=s j x hx
    simp[l]at f;subst f;exact hr
   ·simp at hx
 split at e
 ·rename_i f;exact agg f rfl e
 ·rename_i f;exact agg f rfl e
 ·rename_i d _ _ f
  obtain⟨x,hx,e⟩:=ub e
  obtain⟨u,B,C⟩:=s 0 x (by rw[<-A90];exact hx)
  refine⟨x,e,.inl ⟨d,f,?_,u,B,C⟩⟩
  cases d<;>simp_all
 ·simp at e
def Afv{n:Nat}{k:AV->O R}:∀{c:LA}{i:Nat},US n k c i=some r->i<=n/\∃ x,c[n - i]?=some x/\k x=some r
|[],i,d=>by simp[US]at d
| v::c,i,d=>by
  rw[US]at d
  cases e:beq n i with
  |true =>
   rw[e]at d
   have:n=i:=A9d e
   subst this
   exact⟨A86 _,v,by simp,d⟩
  |false =>
   rw[e]at d
   obtain⟨l,x,f,j⟩:=Afv (c:=c) d
   refine⟨by omega,x,?_,j⟩
   rw[show n - i=(n - (i+1))+1 by omega];simpa using f
def mM{t:TypeId}{c:LA}{off:Nat}{k:AV->O R}(e:bE P t c off k=some r):si P t (c.drop off) k=some r:=by
 unfold bE at e
 unfold si
 split at e
 ·exact e
 ·exact e
 ·rename_i d m n q
  obtain⟨_,x,f,j⟩:=Afv e
  have l:(c.drop off).head?=some x:=by rw[A90,Bal];simpa using f
  rw[l];exact j
 ·simp at e
def gC{t:TypeId}{d:TypeDesc}(e:P.underlying t=some d):(isAgg t).run P w=.ok d.isRow w:=by
 unfold isAgg
 rw[Sem.run_bind,run_underlying e w]
 cases d<;>simp
def jS{t:TypeId}{a:Addr}{v:AV}(hr:sx P J β h w t (fun j=>w.cell? (a.add j)) v):∃ vc,(loadVar t a).run P w=.ok vc w/\Rep J β h w v vc:=by
 rcases hr with⟨d,f,k,u,e,l⟩|⟨d,f,k,us,e,l,n⟩
 ·refine⟨u,?_,l⟩
  have m:w.cell? a=some u:=by simpa[Addr.add]using e
  simp[loadVar,gC f,k,m]
 ·refine⟨_,?_,n⟩
  have q:=run_loadCells_list (P:=P) w a us l
  cases hq:P.info? t with
  |none=>simp[hq]at e
  |some i =>
   have hs:i.size=us.length:=by simpa[hq]using e
   simp[loadVar,Sem.run_bind,gC f,k,Go.sizeOf,typeInfo,hq,hs,q]
def Z9{t:TypeId}{cs:List Value}{off:Nat}{v:AV}(hr:sx P J β h w t (fun j=>cs[off+j]?) v):∃ vc,(part t ⟨cs⟩ off).run P w=.ok vc w/\Rep J β h w v vc:=by
 rcases hr with⟨d,f,k,u,e,l⟩|⟨d,f,k,us,e,l,n⟩
 ·refine⟨u,?_,l⟩
  simp at e
  simp[part,gC f,k,e]
 ·refine⟨_,?_,n⟩
  cases hq:P.info? t with
  |none=>simp[hq]at e
  | some i =>
   have hs:i.size=us.length:=by simpa[hq]using e
   have:(⟨cs⟩:Array Value).extract off (off+us.length)=us.toArray:=by
    apply Bao
    simp
    apply List.ext_getElem?
    intro j
    rw[Bay,Bal]
    split
    ·rename_i m
     rw[A84 m]
     exact l j _ (A84 m)
    ·rename_i m
     rw[Bbk (by omega)]
   simp only[part,Sem.run_bind,gC f,k,Go.sizeOf,typeInfo,run_program,Result.andThen_ok,hq,Sem.run_pure,hs,if_true,this]
end
end Gx
namespace Gx
open Go
section
variable{R:Type}{r:R}{P:Program}{J:Bool->Nat->Prop}{β:De}{h:A9}{w:World}{g:Bp}
def Tl{k:Nat}{cs:Array Value}{ty:TypeId}{fr:Nat×Nat}(d:w.heap[k]?=some (.cells cs ty fr))(i:Nat):w.cell? ⟨k,i,none⟩=cs[i]?:=by simp[World.cell?,d]
def Looks(g:Bp)(h:A9):Prop:=∀ b x,g b=some x->Ao h b=some x
def Ev{b:Nat}{x:Blk}(e:Looks g h)(d:Ii g b=some x):Ao h b=some x/\x.dead=false:=by
 unfold Ii at d
 obtain⟨y,f,d⟩:=ub d
 obtain⟨j,d⟩:=Are d
 simp at d;subst d
 exact⟨e b _ f,j⟩
def Ah0{b off:Nat}{x:Blk}{v:Value}(S:SimH J β h w)(l:Ao h b=some x)(m:x.dead=false)(hr:Rep J β h w (.optr b off) v):
  ∃ k o cs ty fr,β b=some (k,o)/\v=.pointer (some ⟨k,o+off,none⟩)/\w.heap[k]?=some (.cells cs ty fr) /\
  FrTy x.ty ty o cs.size fr/\o+x.cells.length<=cs.size/\CellsRep J β h w x (fun j=>cs[o+j]?) /\
  (x.sealed=false->∀ g,¬ J g k)/\(x.sealed=true->J x.taint k):=by
 rw[Rep]at hr
 obtain⟨y,k,o,⟨e,n⟩,q,hr⟩:=hr
 rw[l]at e;simp at e;subst e
 rcases hr with hr|f
 ·simp[m]at hr
 ·rcases S.blk b x l m n with⟨hn,_⟩|⟨C,o',cs,ty,fr,d,s,t,u,z,A,B⟩
  ·rw[f]at hn;simp at hn
  ·rw[f]at d;simp at d;obtain⟨rfl,rfl⟩:=d
   exact⟨k,o,cs,ty,fr,f,q,s,t,u,z,A,B⟩
def CellsRep.reads{t:TypeId}{x:Blk}{cs:Array Value}{o off:Nat}{k:AV->O R}(m:CellsRep J β h w x (fun j=>cs[o+j]?))
  (d:cond x.pure (bD P t (x.cells.drop off) x.taint k) (bE P t x.cells off k)=some r) :
  ∃ v,k v=some r/\sx P J β h w t (fun j=>cs[o+off+j]?) v:=by
 cases e:x.pure with
|true =>
  rw[e]at d
  have:=(m.1 e).drop off
  obtain⟨v,f,l⟩:=BY (β:=β) (h:=h) d this
  exact⟨v,f,by simpa[A97]using l⟩
| false =>
  rw[e]at d
  obtain⟨v,f,l⟩:=bM (J:=J) (β:=β) (h:=h) (w:=w) (rd:=fun j=>cs[o+(off+j)]?) (mM d) (fun j y n=>by
   rw[Bal]at n
   obtain⟨u,q,hr,_⟩:=m.2 e _ _ n
   exact⟨u,q,hr⟩)
  exact⟨v,f,by simpa[A97]using l⟩
def tA{t:TypeId}{p:AV}{vp:Value}{k:AV->O R}(S:SimH J β h w)(u:Looks g h)(d:xO P g t p k=some r)(e:Rep J β h w p vp):
  ∃ v vc,k v=some r/\(Instr.loadAt t vp).run P w=.ok vc w/\Rep J β h w v vc:=by
 unfold xO at d
 split at d
 ·rename_i c org
  rw[Rep,RepC]at e
  obtain⟨a,rfl,_,f⟩:=e
  obtain⟨v,l,m⟩:=BY (β:=β) (h:=h) d f
  obtain⟨vc,n,q⟩:=jS m
  exact⟨v,vc,l,by simp[Instr.loadAt,Instr.sureAddr,n],q⟩
 ·rename_i b off
  obtain⟨x,hx,d⟩:=ub d
  obtain⟨y,z⟩:=Ev u hx
  obtain⟨kk,o,cs,ty,fr,B,rfl,A,_,_,f,_⟩:=Ah0 S y z e
  obtain⟨v,l,m⟩:=f.reads d
  have s:sx P J β h w t (fun j=>w.cell? ((⟨kk,o+off,none⟩:Addr).add j)) v:=by
   simpa only[Addr.add_mid,Tl A]using m
  obtain⟨vc,n,q⟩:=jS s
  exact⟨v,vc,l,by simp[Instr.loadAt,Instr.sureAddr,n],q⟩
 ·simp at d
def Dr{t:TypeId}{n:Nat}(hs:B9 P t=some n)(w:World):(Go.sizeOf t).run P w=.ok n w:=by
 unfold B9 at hs
 cases hq:P.info? t with
|none=>simp[hq]at hs
|some i=>simp[hq]at hs;simp[Go.sizeOf,typeInfo,hq,hs]
def Yp{i:Int}{n:Nat}(hi:Ad i n=true):0<=i/\i<(n:Int):=by simpa[Ad]using hi
def mN{J:Nat->Prop}{c:LA}{a:Addr}(d:RepCs J w c (fun j=>w.cell? (a.add j)) 0)(n:Nat):RepCs J w (c.drop n) (fun j=>w.cell? ((a.add n).add j)) 0:=by
 have e:∀ j,(a.add n).add j=a.add (n+j):=fun j=>by
  unfold Addr.add
  by_cases f:n=0<;>by_cases k:j=0<;>simp[f,k,A97]
 simpa[e]using d.drop n
def A2g{b off n:Nat}{v:Value}(m:Nat)(hr:Rep J β h w (.own b off n) v)(hn:n≠0):
  ∃ k o cap,v=.slice (some ⟨k,o,none⟩) n cap/\Rep J β h w (.optr b (off+m)) (.pointer (some ⟨k,o+m,none⟩)):=by
 rw[Rep]at hr
 obtain⟨x,A,cap,hx,rfl,d,hr⟩:=hr
 rcases hr with hr|⟨k,o,rfl,hr⟩
 ·omega
 ·refine⟨k,o+off,cap,rfl,?_⟩
  rw[Rep];exact⟨x,k,o,hx,by rw[A97],hr.imp id (·.1)⟩
def jT{t d:TypeId}{e:IntKind}{i:Int}{len cap sz:Nat}{a:Addr}(f:P.underlying t=some (.slice d))(hs:B9 P d=some sz)(j:Ad i len=true):
  (Instr.indexAt t (.slice (some a) len cap) (.int e i)).run P w=.ok (.pointer (some (a.add (i.toNat*sz)))) w:=by
 obtain⟨h0,k⟩:=Yp j
 simp[Instr.indexAt,asIntOf,run_underlying f,h0,k,Dr hs]
def jU{t d:TypeId}{e:IntKind}{i:Int}{len sz:Nat}{a:Addr}(f:P.underlying t=some (.array len d))(hs:B9 P d=some sz)(j:Ad i len=true):
  (Instr.indexAt t (.pointer (some a)) (.int e i)).run P w=.ok (.pointer (some (a.add (i.toNat*sz)))) w:=by
 obtain⟨h0,k⟩:=Yp j
 simp[Instr.indexAt,asIntOf,run_underlying f,h0,k,Dr hs,Instr.sureAddr]
def qp{t:TypeId}{x i:AV}{vx vi:Value}{k:AV->O R}(e:Yk P t x i k=some r)(hx:Rep J β h w x vx)(hi:Rep J β h w i vi):
  ∃ v vc,k v=some r/\(Instr.indexAt t vx vi).run P w=.ok vc w/\Rep J β h w v vc:=by
 unfold Yk at e
 split at e
 ·rename_i m c len sz tight org n i f
  obtain⟨q,hs,j⟩:=ub e
  obtain⟨C,G⟩:=uc j
  obtain⟨d,l⟩:=uc G
  have s:q=sz:=by simp at C;exact C.symm
  subst s
  rw[Rep]at hi;subst hi
  rw[Rep,RepC]at hx
  obtain⟨D,A,cap,rfl,F,_,hA⟩:=hx
  rcases hA with hA|⟨a,rfl,u,z⟩
  ·have:=Yp d;omega
  refine⟨_,_,l,jT f hs d,?_⟩
  rw[Rep,RepC]
  exact⟨_,rfl,by rw[Vm];exact u,mN z _⟩
 ·rename_i m b off len n i f
  obtain⟨sz,hs,j⟩:=ub e
  obtain⟨d,l⟩:=uc j
  rw[Rep]at hi;subst hi
  obtain⟨kk,o,cap,rfl,B⟩:=A2g (i.toNat*sz) hx (by have:=Yp d;omega)
  exact⟨_,_,l,jT f hs d,by rw[Addr.add_mid];exact B⟩
 ·rename_i len m c org n i f
  obtain⟨sz,hs,j⟩:=ub e
  obtain⟨d,l⟩:=uc j
  rw[Rep]at hi;subst hi
  rw[Rep,RepC]at hx
  obtain⟨a,rfl,u,z⟩:=hx
  refine⟨_,_,l,jU f hs d,?_⟩
  rw[Rep,RepC]
  exact⟨_,rfl,by rw[Vm];exact u,mN z _⟩
 ·rename_i len m b off n i f
  obtain⟨sz,hs,j⟩:=ub e
  obtain⟨d,l⟩:=uc j
  rw[Rep]at hi;subst hi
  rw[Rep]at hx
  obtain⟨y,kk,o,I,rfl,B⟩:=hx
  refine⟨_,_,l,jU f hs d,?_⟩
  rw[Rep,Addr.add_mid]
  exact⟨y,kk,o,I,by rw[A97],B⟩
 ·simp at e
def mO{t:TypeId}{f:Nat}{p:Nat×TypeId}(d:wx P t f=some p):∃ fs fd,P.underlying t=some (.struct fs)/\fs[f]?=some fd/\fd.offset=p.1/\fd.type=p.2:=by
 unfold wx at d
 split at d
 ·rename_i fs e
  cases hq:fs[f]? with
  |none=>simp[hq]at d
  |some fd=>simp[hq]at d;subst d;exact⟨fs,fd,e,hq,rfl,rfl⟩
 ·simp at d
def qq{t:TypeId}{x:AV}{f:Nat}{vx:Value}{k:AV->O R}(l:Yl P t x f k=some r)(hx:Rep J β h w x vx):
  ∃ v vc,k v=some r/\(Instr.fieldAt t vx f).run P w=.ok vc w/\Rep J β h w v vc:=by
 unfold Yl at l
 obtain⟨p,m,q⟩:=ub l
 obtain⟨n,hn,s⟩:=ub q
 obtain⟨h0,d⟩:=Are s
 obtain⟨fs,fd,u,z,A,B⟩:=mO m
 have j:n≠0:=by intro e;subst e;simp at h0
 have run:∀ a:Addr,(Instr.fieldAt t (.pointer (some a)) f).run P w=.ok (.pointer (some (a.add p.1))) w:=fun a=>by
  simp[Instr.fieldAt,run_underlying u,z,Instr.sureAddr,fieldPlace,B,Dr hn,j,A]
 split at d
 ·rw[Rep,RepC]at hx
  obtain⟨a,rfl,C,D⟩:=hx
  refine⟨_,_,d,run a,?_⟩
  rw[Rep,RepC]
  exact⟨_,rfl,by rw[Vm];exact C,mN D _⟩
 ·rw[Rep]at hx
  obtain⟨y,kk,o,F,rfl,G⟩:=hx
  refine⟨_,_,d,run _,?_⟩
  rw[Rep,Addr.add_mid]
  exact⟨y,kk,o,F,by rw[A97],G⟩
 ·simp at d
def Ah1{t:TypeId}{x:AV}{f:Nat}{vx:Value}{k:AV->O R}(u:qa P t x f k=some r)(hx:Rep J β h w x vx):
  ∃ v vc,k v=some r/\(Instr.field t vx f).run P w=.ok vc w/\Rep J β h w v vc:=by
 unfold qa at u
 obtain⟨p,D,e⟩:=ub u
 obtain⟨fs,fd,z,A,B,C⟩:=mO D
 split at e
 ·rename_i c org
  rw[Rep]at hx
  obtain⟨cs,rfl,F,d⟩:=hx
  obtain⟨v,l,m⟩:=BY (β:=β) (h:=h) e (d.drop p.1)
  obtain⟨vc,n,q⟩:=Z9 m
  exact⟨v,vc,l,by simp[Instr.field,run_underlying z,A,asAgg,C,B,n],q⟩
 ·rename_i c
  rw[Rep]at hx
  obtain⟨cs,rfl,d⟩:=hx
  rw[Db]at d
  obtain⟨v,l,m⟩:=bM (J:=J) (β:=β) (h:=h) (w:=w) (rd:=fun j=>cs[p.1+j]?) e (fun j y s=>by
   rw[Bal]at s
   have:p.1+j<cs.length:=by
    rw[d.1];exact(A9h.1 s).1
   exact⟨cs[p.1+j],A84 this,d.2 _ _ _ s (A84 this)⟩)
  obtain⟨vc,n,q⟩:=Z9 m
  exact⟨v,vc,l,by simp[Instr.field,run_underlying z,A,asAgg,C,B,n],q⟩
 ·simp at e
def Ah2{t:TypeId}{x i:AV}{vx vi:Value}{k:AV->O R}(d:qb P t x i k=some r)(hx:Rep J β h w x vx)(hi:Rep J β h w i vi):
  ∃ v vc,k v=some r/\(Instr.index t vx vi).run P w=.ok vc w/\Rep J β h w v vc:=by
 unfold qb at d
 split at d
 ·rename_i s F i e
  obtain⟨f,l⟩:=uc d
  obtain⟨h0,q⟩:=Yp f
  rw[Rep]at hi;rw[Rep]at hx;subst hi hx
  have m:i.toNat<s.length:=by omega
  refine⟨_,.int .u8 ((s.getD i.toNat 0).toNat:Int),l,?_,by rw[Rep]⟩
  have G:(⟨⟨s⟩⟩:ByteArray)[i.toNat]?=some s[i.toNat]:=by
   have:i.toNat<(⟨⟨s⟩⟩:ByteArray).size:=m
   rw[getElem?_pos (⟨⟨s⟩⟩:ByteArray) i.toNat this];rfl
  simp only[Instr.index,asIntOf,Sem.run_bind,Sem.run_pure,Result.andThen_ok,run_underlying e,h0,if_true,G,A9e,A84 m,Option.getD_some]
 ·rename_i len I c org F i e
  obtain⟨sz,hs,l⟩:=ub d
  obtain⟨f,q⟩:=uc l
  obtain⟨h0,u⟩:=Yp f
  rw[Rep]at hi;rw[Rep]at hx;subst hi
  obtain⟨cs,rfl,L,n⟩:=hx
  obtain⟨v,z,A⟩:=BY (β:=β) (h:=h) q (n.drop (i.toNat*sz))
  obtain⟨vc,B,C⟩:=Z9 A
  exact⟨v,vc,z,by simp[Instr.index,asIntOf,run_underlying e,h0,u,Dr hs,B],C⟩
 ·rename_i len I c F i e
  obtain⟨sz,hs,l⟩:=ub d
  obtain⟨f,q⟩:=uc l
  obtain⟨h0,u⟩:=Yp f
  rw[Rep]at hi;rw[Rep]at hx;subst hi
  obtain⟨cs,rfl,n⟩:=hx
  rw[Db]at n
  obtain⟨v,z,A⟩:=bM (J:=J) (β:=β) (h:=h) (w:=w) (rd:=fun j=>cs[i.toNat*sz+j]?) (mM q) (fun j y D=>by
   rw[Bal]at D
   have:i.toNat*sz+j<cs.length:=by
    rw[n.1];exact(A9h.1 D).1
   exact⟨cs[i.toNat*sz+j],A84 this,n.2 _ _ _ D (A84 this)⟩)
  obtain⟨vc,B,C⟩:=Z9 A
  exact⟨v,vc,z,by simp[Instr.index,asIntOf,run_underlying e,h0,u,Dr hs,B],C⟩
 ·simp at d
def DT(J:Bool->Nat->Prop)(β:De)(h:A9)(w:World):Option AV->Option Value->Prop
|none,none=>True
|some x,some v=>Rep J β h w x v
|_,_=>False
def bO{o:Option AV}{vo:Option Value}{d:Nat}{i:Int}(e:mG o d=some i)(f:DT J β h w o vo):
  (o=none/\vo=none/\i=d)\/∃ k,vo=some (.int k i):=by
 unfold mG at e
 split at e
 ·simp at e;subst e
  cases vo with
  |none=>exact .inl ⟨rfl,rfl,rfl⟩
  |some v=>simp[DT]at f
 ·rename_i k j
  simp at e;subst e
  cases vo with
  |none=>simp[DT]at f
  |some v=>rw[DT,Rep]at f;subst f;exact .inr ⟨k,rfl⟩
 ·simp at e
def AA{lo hi mx:Option AV}{vlo vhi vmx:Option Value}{n cap:Nat}{k:Nat->Nat->O R}{isSlice:Bool}(v:F_ lo hi mx n k=some r)
  (t:DT J β h w lo vlo)
  (j:DT J β h w hi vhi)
  (q:DT J β h w mx vmx) (x:n<=cap) :
  ∃ l e m,k l e=some r/\l<=e/\e<=n/\e<=m/\m<=cap/\(mx=none->m=cap)/\(∀ f i,vmx=some (.int f i)->(m:Int)=i)/\(∀ f i,vhi=some (.int f i)->(e:Int)=i)/\(hi=none->e=n) /\
   (Instr.sliceBounds isSlice n cap vlo vhi vmx).run P w=.ok (l,e,m) w:=by
 unfold F_ at v
 obtain⟨l,C,D⟩:=ub v
 obtain⟨d,F,G⟩:=ub D
 obtain⟨m,I,u⟩:=ub G
 obtain⟨z,u⟩:=Are u
 obtain⟨A,B⟩:=uc u
 simp at A z
 obtain⟨c1,L,M,S⟩:=A
 have run:∀(f:IntKind)(i:Int)(y:Nat)(code:BoundsCode),0<=i->i<=(y:Int)->(Instr.sliceBound (.int f i) y code).run P w=.ok i.toNat w:=fun f i y code a b=>by
  simp[Instr.sliceBound,asIntOf,a,b]
 have bl:=bO (J:=J) (β:=β) (h:=h) (w:=w) C t
 have bh:=bO (J:=J) (β:=β) (h:=h) (w:=w) F j
 have bm:=bO (J:=J) (β:=β) (h:=h) (w:=w) I q
 rcases bm with⟨rfl,rfl,rfl⟩|⟨km,rfl⟩
 ·refine⟨l.toNat,d.toNat,cap,B,by omega,by omega,by omega,by omega,fun _=>rfl,by simp,?_,?_,?_⟩
  ·intro f i s
   rcases bh with⟨_,rfl,_⟩|⟨kh,rfl⟩
   ·simp at s
   ·simp at s;omega
  ·intro hn
   rcases bh with⟨_,_,rfl⟩|⟨kh,rfl⟩
   ·simp
   ·subst hn;simp[DT]at j
  ·rcases bh with⟨_,rfl,rfl⟩|⟨kh,rfl⟩<;>rcases bl with⟨_,rfl,rfl⟩|⟨kl,rfl⟩
   ·simp[Instr.sliceBounds]
   ·simp[Instr.sliceBounds,run _ l n _ c1 (by omega)]
   ·simp[Instr.sliceBounds,run _ d cap _ (by omega) (by omega)]
   ·simp[Instr.sliceBounds,run _ d cap _ (by omega) (by omega),run _ l d.toNat _ c1 (by omega)]
 ·rcases bh with⟨rfl,rfl,rfl⟩|⟨kh,rfl⟩
  ·have:mx.isSome=true:=by
    cases mx with
    |none=>simp[DT]at q
    |some _=>rfl
   have:=z this;simp at this
  ·refine⟨l.toNat,d.toNat,m.toNat,B,by omega,by omega,by omega,by omega,?_,?_,?_,?_,?_⟩
   ·intro hn;subst hn;simp[DT]at q
   ·intro f i s;simp at s;omega
   ·intro f i s;simp at s;omega
   ·intro hn;subst hn;simp[DT]at j
   ·rcases bl with⟨_,rfl,rfl⟩|⟨kl,rfl⟩
    ·simp[Instr.sliceBounds,run _ m cap _ (by omega) (by omega),run _ d m.toNat _ (by omega) (by omega)]
    ·simp[Instr.sliceBounds,run _ m cap _ (by omega) (by omega),run _ d m.toNat _ (by omega) (by omega),run _ l d.toNat _ c1 (by omega)]
def Ah3 {t:TypeId} {x:AV} {lo hi mx:Option AV} {vx:Value} {vlo vhi vmx:Option Value} {k:AV->O R} (S:SimH J β h w) (hl:Looks g h) (z:qc P g t x lo hi mx k=some r)
  (hx:Rep J β h w x vx) (B:DT J β h w lo vlo) (e:DT J β h w hi vhi) (j:DT J β h w mx vmx) :
  ∃ v vc,k v=some r/\(Instr.sliceAt t vx vlo vhi vmx).run P w=.ok vc w/\Rep J β h w v vc:=by
 unfold qc at z
 split at z
 ·rename_i s C
  obtain⟨hm,L⟩:=Are z
  have hmn:mx=none:=by cases mx<;>simp_all
  subst hmn
  have hv:vmx=none:=by cases vmx<;>simp_all[DT]
  subst hv
  rw[Rep]at hx;subst hx
  obtain⟨l,d,m,D,M,h4,_,_,h5,_,_,_,h6⟩:=AA (P:=P) (isSlice:=false) L B e (vmx:=none) (by simp[DT]) (A86 _)
  refine⟨_,_,D,?_,by rw[Rep]⟩
  have hs:(⟨⟨s⟩⟩:ByteArray).size=s.length:=rfl
  have F:(⟨⟨s⟩⟩:ByteArray).extract l d=⟨⟨(s.drop l).take (d - l)⟩⟩:=by
   apply ByteArray.ext
   rw[ByteArray.data_extract]
   simp
  simp[Instr.sliceAt,Instr.slice,run_underlying C,hs,h6,F]
 ·rename_i el C
  rw[Rep]at hx;subst hx
  obtain⟨sz,hs,z⟩:=ub z
  obtain⟨l,d,m,D,M,h4,h5,h6,_,_,_,_,h7⟩:=AA (P:=P) (isSlice:=true) z B e j (A86 _)
  have:l=0:=by omega
  have:d=0:=by omega
  have:m=0:=by omega
  subst l;subst d;subst m
  refine⟨_,.slice none 0 0,D,?_,by rw[Rep]⟩
  simp[Instr.sliceAt,Instr.slice,run_underlying C,h7,Dr hs]
 ·rename_i el c n sz tight org C
  obtain⟨T,hs,L⟩:=ub z
  obtain⟨F,D⟩:=uc L
  have G:T=sz:=by simp at F;exact F.symm
  subst G
  rw[Rep,RepC]at hx
  obtain⟨X,A,cap,rfl,q,ht,hA⟩:=hx
  obtain⟨l,d,m,M,h4,h5,h6,h7,h8,h9,h10,h11,h12⟩:=AA (P:=P) (isSlice:=true) D B e j q
  refine⟨_,.slice (if m=l then A else A.map (·.add (l*T))) (d - l) (m - l),M,?_,?_⟩
  ·simp[Instr.sliceAt,Instr.slice,run_underlying C,h12,Dr hs]
  ·rw[Rep,RepC]
   refine⟨?_,_,_,rfl,by omega,?_,?_⟩
   ·simp;rw[X,<-Nat.sub_mul]
    exact Bbh (A9y _ (by omega))
   ·intro u
    unfold Aul at u
    split at u
    ·have:=ht u
     have:=h8 rfl
     have:=h11 rfl
     omega
    ·rename_i ka a kb b
     cases vhi with
     |none=>simp[DT]at e
     | some u1=>cases vmx with
      |none=>simp[DT]at j
      |some u2 =>
       rw[DT,Rep]at e j;subst e j
       have e1:=h10 _ _ rfl
       have e2:=h9 _ _ rfl
       simp at u
       omega
    ·simp at u
   ·by_cases hz:d - l=0
    ·exact .inl hz
    ·right
     rcases hA with hA|⟨a,rfl,hj,hc⟩
     ·omega
     ·refine⟨a.add (l*T),by rw[if_neg (by omega)];rfl,by rw[Vm];exact hj,(mN hc _).take _⟩
 ·rename_i el b off n C
  obtain⟨sz,hs,L⟩:=ub z
  obtain⟨y,hy,D⟩:=ub L
  obtain⟨F,M⟩:=uc D
  obtain⟨V,hd⟩:=Ev hl hy
  have G:sz=y.sz:=by simpa using F
  rw[Rep]at hx
  obtain⟨x,A,cap,⟨f,I⟩,rfl,q,hr⟩:=hx
  rw[V]at f;simp at f;subst f
  obtain⟨l,d,m,h4,h5,h6,h7,h8,_,_,_,_,h9⟩:=AA (P:=P) (isSlice:=true) M B e j q
  refine⟨_,.slice (if m=l then A else A.map (·.add (l*sz))) (d - l) (m - l),h4,?_,?_⟩
  ·simp[Instr.sliceAt,Instr.slice,run_underlying C,h9,Dr hs]
  ·rw[Rep]
   refine⟨y,_,_,⟨V,I⟩,rfl,by omega,?_⟩
   by_cases hz:m - l=0
   ·exact .inl hz
   ·right
    rcases hr with hr|⟨kk,o,rfl,hr⟩
    ·omega
    ·refine⟨kk,o,by rw[if_neg (by omega)];simp[Addr.add_mid,A97],?_⟩
     rcases hr with hr|⟨r1,r2,r3⟩
     ·simp[hd]at hr
     ·refine .inr ⟨r1,?_,?_⟩
      ·have:l*sz+(m - l)*y.sz<=cap*y.sz:=by
        rw[G,<-Ba0];exact A9y _ (by omega)
       omega
      ·have:l*sz+(d - l)*y.sz<=n*y.sz:=by
        rw[G,<-Ba0];exact A9y _ (by omega)
       omega
 ·rename_i n el b off C
  obtain⟨sz,hs,L⟩:=ub z
  obtain⟨y,hy,D⟩:=ub L
  obtain⟨F,M⟩:=uc D
  simp at F
  obtain⟨e1,e2,e3,e4,e5⟩:=F
  subst e3;subst e4;subst e5
  obtain⟨V,hd⟩:=Ev hl hy
  have nlo:vlo=none:=by cases vlo<;>simp_all[DT]
  have nhi:vhi=none:=by cases vhi<;>simp_all[DT]
  have nmx:vmx=none:=by cases vmx<;>simp_all[DT]
  subst nlo;subst nhi;subst nmx
  rw[Rep]at hx
  obtain⟨x,kk,o,⟨f,I⟩,rfl,hr⟩:=hx
  rw[V]at f;simp at f;subst f
  refine⟨_,.slice (some ⟨kk,o+off,none⟩) n n,M,?_,?_⟩
  ·have e1:(Addr.add ⟨kk,o+off,none⟩ 0)=⟨kk,o+off,none⟩:=rfl
   simp[Instr.sliceAt,Instr.sureAddr,run_underlying C,Instr.sliceBounds,Dr hs,e1]
  ·rw[Rep]
   refine⟨y,_,_,⟨V,I⟩,rfl,A86 _,.inr ⟨kk,o,rfl,?_⟩⟩
   rcases hr with hr|hr
   ·exact .inl hr
   ·rcases S.blk b y V hd I with⟨Y,_⟩|⟨k',o',cs,ty',fr,U,g1,g2,g3,_⟩
    ·rw[hr]at Y;simp at Y
    ·rw[hr]at U;simp at U;obtain⟨rfl,rfl⟩:=U
     refine .inr ⟨hr,?_,?_⟩
     ·rw[e1,show Bl w kk=cs.size by simp[Bl,g1]];omega
     ·rw[e1];omega
 ·simp at z
def Arf{t:TypeId}{x v:AV}{vx:Value}{ty:TypeId}(d:A4f P t x=some v)(hx:Rep J β h w x vx):
  ∃ vc,(Builtin.len_ #[t] ty #[vx]).run P w=.ok vc w/\Rep J β h w v vc:=by
 unfold A4f at d
 split at d
 ·rename_i e
  simp at d;subst d;rw[Rep]at hx;subst hx
  exact⟨.int .i64 0,by simp[Builtin.len_,run_underlying e,goInt],by rw[Rep]⟩
 ·rename_i n _ _ _ e
  simp at d;subst d;rw[Rep,RepC]at hx
  obtain⟨_,A,cap,rfl,_⟩:=hx
  exact⟨.int .i64 n,by simp[Builtin.len_,run_underlying e,goInt],by rw[Rep]⟩
 ·rename_i n e
  simp at d;subst d;rw[Rep]at hx
  obtain⟨_,A,cap,_,rfl,_⟩:=hx
  exact⟨.int .i64 n,by simp[Builtin.len_,run_underlying e,goInt],by rw[Rep]⟩
 ·rename_i s e
  simp at d;subst d;rw[Rep]at hx;subst hx
  refine⟨.int .i64 s.length,?_,by rw[Rep]⟩
  have hs:(⟨⟨s⟩⟩:ByteArray).size=s.length:=rfl
  simp[Builtin.len_,run_underlying e,goInt,hs]
 ·rename_i n _ e
  simp at d;subst d
  exact⟨.int .i64 n,by simp[Builtin.len_,run_underlying e,goInt],by rw[Rep]⟩
 ·simp at d
def mP{J:Nat->Prop}:∀{x:AV}{u:Value},RepC J w x u->u.oneCell'=true
|.int ..,_,hr=>by rw[RepC]at hr;subst hr;rfl
|.bool _,_,hr=>by rw[RepC]at hr;subst hr;rfl
|.str _,_,hr=>by rw[RepC]at hr;subst hr;rfl
|.nsl,_,hr=>by rw[RepC]at hr;subst hr;rfl
|.imm ..,_,hr=>by rw[RepC]at hr;obtain⟨_,A,cap,rfl,_⟩:=hr;rfl
|.iptr ..,_,hr=>by rw[RepC]at hr;obtain⟨a,rfl,_⟩:=hr;rfl
|.nilptr,_,hr=>by rw[RepC]at hr;subst hr;rfl
|.nilfn,_,hr=>by rw[RepC]at hr;subst hr;rfl
|.fn _ [],_,hr=>by rw[RepC]at hr;subst hr;rfl
|.fn _ (_::_),_,hr=>by simp[RepC]at hr
|.pagg ..,_,hr=>by simp[RepC]at hr
|.agg _,_,hr=>by simp[RepC]at hr
|.tup _,_,hr=>by simp[RepC]at hr
|.own ..,_,hr=>by simp[RepC]at hr
|.optr ..,_,hr=>by simp[RepC]at hr
|.undef,_,hr=>by simp[RepC]at hr
|.omap _,_,hr=>by simp[RepC]at hr
def RepCs.one{J:Nat->Prop}{c:LA}{us:List Value}(f:RepCs J w c (fun j=>us[j]?) 0)(m:us.length=c.length):∀ u∈us,u.oneCell'=true:=by
 intro u k
 obtain⟨j,l,rfl⟩:=A9n k
 have e:j<c.length:=by omega
 obtain⟨n,d,hr⟩:=f.at (A84 e)
 simp[A84 l]at d
 rw[d];exact mP hr
structure Yield(P:Program)(w:World)(sz:Nat)(vx:Value)(n:Nat)(us:List Value):Prop where
 len:∀ w':World,(Builtin.lenOf vx).run P w'=.ok n w'
 cells:∀(w':World)(m:Nat),(∀ a,w'.cell? a=w.cell? a)->m<=n->(Builtin.firstCells sz m vx).run P w'=.ok (us.take (m*sz)).toArray w'
 length:us.length=n*sz
def tB{sz:Nat}{x:AV}{vx:Value}{q:LA×Nat×Bool}(S:SimH J β h w)(hl:Looks g h)(f:jO g sz x=some q)(hx:Rep J β h w x vx):
  ∃ us:List Value,Yield P w sz vx q.2.1 us/\q.1.length=us.length/\RepCs (J q.2.2) w q.1 (fun j=>us[j]?) 0:=by
 have ofSlice:∀(a:Addr)(n cap:Nat)(us:List Value),us.length=n*sz->(∀ j u,us[j]?=some u->w.cell? (a.add j)=some u)->Yield P w sz (.slice (some a) n cap) n us:=fun a n cap us d hu =>
  ⟨fun _=>rfl,fun w' m e I=>by
   have hle:m*sz<=n*sz:=A9y _ I
   refine run_firstCells_some (P:=P) w' sz m a n cap (us.take (m*sz)) (by simp;omega) (fun j v C=>?_)
   rw[e]
   rw[Bay]at C
   split at C
   ·exact hu j v C
   ·simp at C,d⟩
 have ofEmpty:∀(A:Option Addr)(cap:Nat),Yield P w sz (.slice A 0 cap) 0 []:=fun A cap =>
  ⟨fun _=>rfl,fun w' m e I=>by
   have:m=0:=by omega
   subst this
   cases A with
   |none=>simp[run_firstCells_none]
   | some a=>have:=run_firstCells_some (P:=P) w' sz 0 a 0 cap [] (by simp) (fun j v C=>by simp at C);simpa using this,by simp⟩
 unfold jO at f
 split at f
 ·simp at f;subst f;rw[Rep]at hx;subst hx
  exact⟨[],ofEmpty _ _,rfl,by simp[RepCs]⟩
 ·rename_i c n L tight org
  obtain⟨e,t⟩:=uc f
  have M:L=sz:=by simp at e;exact e.symm
  subst M
  simp at t;subst t
  rw[Rep,RepC]at hx
  obtain⟨d,A,cap,rfl,D,ht,hA⟩:=hx
  rcases hA with rfl|⟨a,rfl,F,hc⟩
  ·have:c=[]:=by simpa using d
   subst this
   exact⟨[],ofEmpty _ _,rfl,by simp[RepCs]⟩
  ·obtain⟨us,l,T,U⟩:=hc.list
   exact⟨us,ofSlice a n cap us (by rw[l,d]) T,l.symm,U⟩
 ·rename_i b off n
  obtain⟨y,hy,t⟩:=ub f
  obtain⟨e,l⟩:=uc t
  obtain⟨G,X⟩:=Ev hl hy
  simp at e l
  obtain⟨hp,e⟩:=e
  subst l;subst e
  rw[Rep]at hx
  obtain⟨x,A,cap,⟨z,V⟩,rfl,D,hr⟩:=hx
  rw[G]at z;simp at z;subst z
  rcases hr with hr|⟨kk,o,rfl,hr⟩
  ·have:n=0:=by omega
   subst this
   exact⟨[],ofEmpty _ _,by simp,by simp[RepCs]⟩
  ·rcases hr with hr|⟨Y,r2,r3⟩
   ·simp[X]at hr
   ·rcases S.blk b y G X V with⟨hn,_⟩|⟨k',o',cs,ty,fr,B,g1,g2,g3,g4,g5,g6⟩
    ·rw[Y]at hn;simp at hn
    ·rw[Y]at B;simp at B;obtain⟨rfl,rfl⟩:=B
     obtain⟨us,l,T,U⟩:=(((g4.1 hp).drop off).take (n*y.sz)).list
     have d:us.length=n*y.sz:=by rw[l];simp;omega
     refine⟨us,ofSlice _ n cap us d (fun j u F=>?_),l.symm,U⟩
     have:=T j u F
     rw[Addr.add_mid,Tl g1,A97];exact this
 ·rename_i s
  obtain⟨e,t⟩:=uc f
  simp at e t
  subst e;subst t
  rw[Rep]at hx;subst hx
  refine⟨s.map fun b=>.int .u8 (b.toNat:Int),⟨fun _=>rfl,fun w' m _ I=>?_,by simp⟩,by simp,?_⟩
  ·simp[Builtin.firstCells]
  ·rw[Ck]
   intro j x F
   simp at F
   obtain⟨b,G,rfl⟩:=F
   exact⟨_,by simp[G];rfl,by rw[RepC]⟩
 ·simp at f
def U_{l:TypeId}{sz:Nat}{x:AV}{vx:Value}{k:LA×Nat×Bool->O R}(S:SimH J β h w)(m:Looks g h)(f:kU P l g sz x k=some r)(hx:Rep J β h w x vx):
  ∃(q:LA×Nat×Bool)(us:List Value),k q=some r/\Yield P w sz vx q.2.1 us/\q.1.length=us.length/\RepCs (J q.2.2) w q.1 (fun j=>us[j]?) 0:=by
 unfold kU at f
 obtain⟨q,hq,n⟩:=ub f
 obtain⟨us,Y,d,e⟩:=tB (P:=P) S m hq hx
 obtain⟨o,s,t⟩:=jR n e
 exact⟨_,us,s,Y,d,t⟩
end
end Gx
namespace Gx
open Go
def aH{a b:Nat}(h:a≠b):beq a b=false:=by
 cases d:beq a b with
|false=>rfl
|true=>exact absurd (A9d d) h
def EY{a b:Nat}(h:beq a b=false):a≠b:=fun e=>by subst e;rw[Nat.beq_refl]at h;cases h
def Ah:∀(h:A9)(b:Nat)(y:Blk)(c:Nat),Ao (Ho h b y) c=if c=b then some y else Ao h c
| [],b,y,c=>by
  by_cases e:c=b
  ·subst e;simp[Ho,Ao]
  ·have:beq b c=false:=aH (fun f=>e f.symm)
   simp[Ho,Ao,e,this]
| (i,x)::r,b,y,c=>by
  rw[Ho]
  cases k:beq i b with
  | true =>
   have d:i=b:=by simpa using k
   subst d
   by_cases e:c=i
   ·subst e;simp[Ao]
   ·have:beq i c=false:=aH (fun f=>e f.symm)
    simp[Ao,e,this]
  | false =>
   have d:i≠b:=EY k
   cases m:Nat.blt b i with
   | true =>
    by_cases e:c=b
    ·subst e;simp[Ao]
    ·have:beq b c=false:=aH (fun f=>e f.symm)
     simp[Ao,e,this]
   | false =>
    simp only[cond_false]
    rw[Ao]
    cases l:beq i c with
    |true =>
     have j:i=c:=by simpa using l
     subst j
     simp[Ao,d]
    |false=>simp[Ao,l,Ah r b y c]
def Rz:∀(h:Ji)(b:Nat)(y:AV)(c:Nat),Io (kT h b y) c=if c=b then y else Io h c
| [],b,y,c=>by
  by_cases e:c=b
  ·subst e;simp[kT,Io]
  ·have:beq b c=false:=aH (fun f=>e f.symm)
   simp[kT,Io,e,this]
| (i,x)::r,b,y,c=>by
  rw[kT]
  cases k:beq i b with
  | true =>
   have d:i=b:=by simpa using k
   subst d
   by_cases e:c=i
   ·subst e;simp[Io]
   ·have:beq i c=false:=aH (fun f=>e f.symm)
    simp[Io,e,this]
  | false =>
   have d:i≠b:=EY k
   cases m:Nat.blt b i with
   | true =>
    by_cases e:c=b
    ·subst e;simp[Io]
    ·have:beq b c=false:=aH (fun f=>e f.symm)
     simp[Io,e,this]
   | false =>
    simp only[cond_false]
    rw[Io]
    cases l:beq i c with
    |true =>
     have j:i=c:=by simpa using l
     subst j
     simp[Io,d]
    |false=>simp[Io,l,Rz r b y c]
def Al1(β:De)(h:A9)(k:Nat):Prop:=∃ b x o,Ao h b=some x/\x.dead=false/\x.sealed=false/\β b=some (k,o)
structure Step(J:Bool->Nat->Prop)(β:De)(h:A9)(w:World)(J':Bool->Nat->Prop)(β':De)(h':A9)(w':World):Prop where
 ext:Ext J β h w J' β' h' w'
 sim:SimH J' β' h' w'
 os:w'.os=w.os
 tape:w'.tape=w.tape
 output:w'.output=w.output
 size:w.heap.size<=w'.heap.size
 frame:∀ k,k<w.heap.size->¬ Al1 β h k->w'.heap[k]?=w.heap[k]?
 wr:∀ k,Al1 β' h' k->k<w.heap.size->Al1 β h k
 jup:∀ o k,J' o k->J o k\/Al1 β h k\/w.heap.size<=k
section
variable{J J' J'':Bool->Nat->Prop}{β β' β'':De}{h h' h'':A9}{w w' w'':World}
def Ext.refl:Ext J β h w J β h w:=⟨fun _ _ d=>d,fun _ _ _=>rfl,fun b x e=>⟨x,⟨e,rfl⟩,by cases f:x.dead<;>simp⟩,fun _ _ _ _=>A86 _⟩
def Ext.trans(A:Ext J β h w J' β' h' w')(B:Ext J' β' h' w' J'' β'' h'' w'')(hs:∀ b k o,β b=some (k,o)->Bl w k<=Bl w'' k):Ext J β h w J'' β'' h'' w'' where
 jsub o k e:=B.jsub o k (A.jsub o k e)
 keep o k e:=(B.keep o k (A.jsub o k e)).trans (A.keep o k e)
 blk b x l:=by
  obtain⟨x',⟨m,m1⟩,f⟩:=A.blk b x l
  obtain⟨x'',⟨n,m3⟩,d⟩:=B.blk b x' m
  refine⟨x'',⟨n,m3.trans m1⟩,?_⟩
  rcases d with d|⟨d,q,s,t⟩
  ·exact .inl d
  ·rcases f with f|⟨u,v,y,z⟩
   ·simp[d]at f
   ·exact .inr ⟨u,q.trans v,s.trans y,fun j=>(t (m1.trans j)).trans (z j)⟩
 size:=hs
def Step.refl(S:SimH J β h w):Step J β h w J β h w:=⟨Ext.refl,S,rfl,rfl,rfl,A86 _,fun _ _ _=>rfl,fun _ d _=>d,fun _ _ e=>.inl e⟩
def Step.trans(A:Step J β h w J' β' h' w')(B:Step J' β' h' w' J'' β'' h'' w'')(hs:∀ b k o,β b=some (k,o)->Bl w k<=Bl w'' k):Step J β h w J'' β'' h'' w'' where
 ext:=A.ext.trans B.ext hs
 sim:=B.sim
 os:=B.os.trans A.os
 tape:=B.tape.trans A.tape
 output:=B.output.trans A.output
 size:=Bag A.size B.size
 frame k d f:=(B.frame k (Bbu d A.size) (fun j=>f (A.wr k j d))).trans (A.frame k d f)
 wr k f d:=A.wr k (B.wr k f (Bbu d A.size)) d
 jup o k l:=by
  rcases B.jup o k l with e|e|e
  ·exact A.jup o k e
  ·by_cases d:k<w.heap.size
   ·exact .inr (.inl (A.wr k e d))
   ·exact .inr (.inr (by omega))
  ·exact .inr (.inr (Bag A.size e))
def CellsRep.ext(E:Ext J β h w J' β' h' w'){x:Blk}{rd:Nat->Option Value}(e:CellsRep J β h w x rd):CellsRep J' β' h' w' x rd :=
 ⟨fun d=>RepCs.keep (E.jsub _) (E.keep _) (fun _=>rfl) (e.1 d),fun d j c f=>by
  obtain⟨u,k,l,m⟩:=e.2 d j c f
  exact⟨u,k,Rep.ext E l,m⟩⟩
def G2{k:Nat}{cs:Array Value}{ty:TypeId}{fr:Nat×Nat}(d:w.heap[k]?=some (.cells cs ty fr)):Bl w k=cs.size:=by simp[Bl,d]
def U'{k:Nat}{o:Obj}(f:w.heap[k]?=some o):k<w.heap.size:=by
 rcases Bda k w.heap.size with d|e
 ·exact d
 ·rw[Bax e]at f;cases f
def MapRep.keep{b:Nat}{x:Blk}(M:MapRep J β w b x)(e:β' b=β b)(f:∀ k o,β b=some (k,o)->w'.heap[k]?=w.heap[k]?)(j:∀ g k o,β b=some (k,o)->J' g k->J g k):MapRep J' β' w' b x:=by
 obtain⟨l,m,k,ob,d,n,q,s⟩:=M
 exact⟨l,m,k,ob,by rw[e];exact d,by rw[f k 0 d];exact n,q,fun g t=>s g (j g k 0 d t)⟩
def Step.drew(S:SimH J β h w):Step J β h w J β h w.drew where
 ext:=⟨fun _ _ d=>d,fun _ _ _=>rfl,fun b x e=>⟨x,⟨e,rfl⟩,by cases f:x.dead<;>simp⟩,fun _ _ _ _=>A86 _⟩
 sim:=by
  have E:Ext J β h w J β h w.drew:=⟨fun _ _ d=>d,fun _ _ _=>rfl,fun b x e=>⟨x,⟨e,rfl⟩,by cases f:x.dead<;>simp⟩,fun _ _ _ _=>A86 _⟩
  refine⟨S.jlt,S.jft,S.gl.ext E,fun b x e f j=>?_,fun b x e f j=>(S.mblk b x e f j).keep rfl (fun _ _ _=>rfl) (fun _ _ _ _ d=>d),S.sep⟩
  rcases S.blk b x e f j with l|⟨k,o,cs,ty,fr,l,m,n,q,s,t⟩
  ·exact .inl l
  ·exact .inr ⟨k,o,cs,ty,fr,l,m,n,q,s.ext E,t⟩
 os:=rfl
 tape:=rfl
 output:=rfl
 size:=A86 _
 frame _ _ _:=rfl
 wr _ j _:=j
 jup _ _ d:=.inl d
def Fa(w:World)(o:Obj){k:Nat}(d:k<w.heap.size):(w.alloc o).heap[k]?=w.heap[k]?:=by
 show(w.heap.push o)[k]?=_
 rw[Array.getElem?_push,if_neg (by omega)]
def DU(S:SimH J β h w){b:Nat}{x:Blk}{k o:Nat}(j:Ao h b=some x)(l:x.dead=false)(e:β b=some (k,o)):k<w.heap.size:=by
 cases m:x.mp with
|false =>
  rcases S.blk b x j l m with⟨hn,_⟩|⟨n,o',cs,ty,fr,d,f,_⟩
  ·rw[e]at hn;simp at hn
  ·rw[e]at d;simp at d;obtain⟨rfl,rfl⟩:=d;exact U' f
|true =>
  obtain⟨_,_,n,ob,d,f,_⟩:=S.mblk b x j l m
  rw[e]at d;simp at d;obtain⟨rfl,_⟩:=d;exact U' f
def Step.new(S:SimH J β h w){d:Nat}{x:Blk}{cs:Array Value}{ty:TypeId}{fr:Nat×Nat}(hn:Ao h d=none)(X:x.dead=false)(C:x.sealed=false)
  (D:FrTy x.ty ty 0 cs.size fr) (M:x.cells.length<=cs.size) (Y:CellsRep J β h w x (fun j=>cs[j]?)) (F:x.mp=false:=by rfl) :
  Step J β h w J (fun b=>if b=d then some (w.heap.size,0)else β b) (Ho h d x) (w.alloc (.cells cs ty fr)):=by
 have ne:∀{b y},Ao h b=some y->b≠d:=fun f e=>by subst e;rw[hn]at f;cases f
 have E:Ext J β h w J (fun b=>if b=d then some (w.heap.size,0)else β b) (Ho h d x) (w.alloc (.cells cs ty fr)):=by
  refine⟨fun _ _ m=>m,fun o k m=>Fa w _ (S.jlt o k m),fun b y f=>⟨y,⟨by rw[Ah,if_neg (ne f)];exact f,rfl⟩,?_⟩,fun b k o l=>?_⟩
  ·cases s:y.dead
   ·exact .inr ⟨rfl,by simp[ne f],rfl,fun _=>rfl⟩
   ·exact .inl rfl
  ·by_cases u:k<w.heap.size
   ·simp[Bl,Fa w _ u]
   ·simp[Bl,Bax (Bbz u)]
 have v:(w.alloc (.cells cs ty fr)).heap[w.heap.size]?=some (.cells cs ty fr):=by
  show(w.heap.push _)[_]?=_;simp
 have hsz:(w.alloc (.cells cs ty fr)).heap.size=w.heap.size+1:=by show(w.heap.push _).size=_;simp
 refine⟨E,⟨fun o k m=>by have:=S.jlt o k m;omega,S.jft,S.gl.ext E,fun b y f s A=>?_,fun b y f s A=>by
   rw[Ah]at f
   by_cases e:b=d
   ·rw[if_pos e]at f;simp at f;subst f;simp[F]at A
   ·rw[if_neg e]at f
    exact(S.mblk b y f s A).keep (by simp[e]) (fun k o l=>Fa w _ (DU S f s l)) (fun _ _ _ _ m=>m),?_⟩,rfl,rfl,rfl,by omega,fun k u _=>Fa w _ u,?_,fun _ _ m=>.inl m⟩
 ·rw[Ah]at f
  by_cases e:b=d
  ·subst e;simp at f;subst f
   exact .inr ⟨w.heap.size,0,cs,ty,fr,by simp,v,D,by omega,by simpa using Y.ext E,fun _ g m=>by have:=S.jlt g _ m;omega,fun hs=>by simp[C]at hs⟩
  ·rw[if_neg e]at f
   rcases S.blk b y f s A with B|⟨k,o,G,I,L,B,T,h3,h4,h5,h6⟩
   ·exact .inl ⟨by simp[e,B.1],B.2⟩
   ·exact .inr ⟨k,o,G,I,L,by simp[e,B],by rw[Fa w _ (U' T)];exact T,h3,h4,h5.ext E,h6⟩
 ·intro b V y y' k o o' f n s z hs l q
  rw[Ah]at f n
  by_cases e:b=d<;>by_cases t:V=d
  ·rw[e,t]
  ·rw[if_neg t]at n
   simp[e]at l;simp[t]at q
   have:=DU S n z q;omega
  ·rw[if_neg e]at f
   simp[t]at q;simp[e]at l
   have:=DU S f s l;omega
  ·rw[if_neg e]at f;rw[if_neg t]at n
   simp[e]at l;simp[t]at q
   exact S.sep b V y y' k o o' f n s z hs l q
 ·rintro k ⟨b,y,o,f,s,hs,l⟩ u
  rw[Ah]at f
  by_cases e:b=d
  ·simp[e]at l;omega
  ·rw[if_neg e]at f;simp[e]at l
   exact⟨b,y,o,f,s,hs,l⟩
def Step.newNone(S:SimH J β h w){d:Nat}{x:Blk}(hn:Ao h d=none)(F:x.cells=[])(u:x.mp=false:=by rfl):
  Step J β h w J (fun b=>if b=d then none else β b) (Ho h d x) w:=by
 have ne:∀{b y},Ao h b=some y->b≠d:=fun f e=>by subst e;rw[hn]at f;cases f
 have E:Ext J β h w J (fun b=>if b=d then none else β b) (Ho h d x) w:=by
  refine⟨fun _ _ q=>q,fun o k q=>rfl,fun b y f=>⟨y,⟨by rw[Ah,if_neg (ne f)];exact f,rfl⟩,?_⟩,fun b k o j=>A86 _⟩
  cases l:y.dead
  ·exact .inr ⟨rfl,by simp[ne f],rfl,fun _=>rfl⟩
  ·exact .inl rfl
 refine⟨E,⟨S.jlt,S.jft,S.gl.ext E,fun b y f l s=>?_,fun b y f l s=>by
   rw[Ah]at f
   by_cases e:b=d
   ·rw[if_pos e]at f;simp at f;subst f;simp[u]at s
   ·rw[if_neg e]at f
    exact(S.mblk b y f l s).keep (by simp[e]) (fun k o j=>rfl) (fun _ _ _ _ q=>q),?_⟩,rfl,rfl,rfl,A86 _,fun k G _=>rfl,?_,fun _ _ q=>.inl q⟩
 ·rw[Ah]at f
  by_cases e:b=d
  ·subst e;simp at f;subst f
   exact .inl ⟨by simp,F⟩
  ·rw[if_neg e]at f
   rcases S.blk b y f l s with t|⟨k,o,v,z,A,t,I,L,M,T,U⟩
   ·exact .inl ⟨by simp[e,t.1],t.2⟩
   ·exact .inr ⟨k,o,v,z,A,by simp[e,t],I,L,M,T.ext E,U⟩
 ·intro b D y V k o o' f m l B hs j n
  rw[Ah]at f m
  by_cases e:b=d
  ·simp[e]at j
  ·by_cases C:D=d
   ·simp[C]at n
   ·rw[if_neg e]at f;rw[if_neg C]at m
    simp[e]at j;simp[C]at n
    exact S.sep b D y V k o o' f m l B hs j n
 ·rintro k ⟨b,y,o,f,l,hs,j⟩ G
  rw[Ah]at f
  by_cases e:b=d
  ·simp[e]at j
  ·rw[if_neg e]at f;simp[e]at j
   exact⟨b,y,o,f,l,hs,j⟩
def Step.newObj(S:SimH J β h w){d:Nat}{x:Blk}{ob:Obj}(hn:Ao h d=none)(V:x.dead=false)(B:x.sealed=false)(C:x.pure=true)(D:ObjIs x ob)(F:x.mp=true):
  Step J β h w J (fun b=>if b=d then some (w.heap.size,0)else β b) (Ho h d x) (w.alloc ob):=by
 have ne:∀{b y},Ao h b=some y->b≠d:=fun f e=>by subst e;rw[hn]at f;cases f
 have E:Ext J β h w J (fun b=>if b=d then some (w.heap.size,0)else β b) (Ho h d x) (w.alloc ob):=by
  refine⟨fun _ _ l=>l,fun o k l=>Fa w _ (S.jlt o k l),fun b y f=>⟨y,⟨by rw[Ah,if_neg (ne f)];exact f,rfl⟩,?_⟩,fun b k o j=>?_⟩
  ·cases q:y.dead
   ·exact .inr ⟨rfl,by simp[ne f],rfl,fun _=>rfl⟩
   ·exact .inl rfl
  ·by_cases t:k<w.heap.size
   ·simp[Bl,Fa w _ t]
   ·simp[Bl,Bax (Bbz t)]
 have u:(w.alloc ob).heap[w.heap.size]?=some ob:=by
  show(w.heap.push _)[_]?=_;simp
 have X:(w.alloc ob).heap.size=w.heap.size+1:=by show(w.heap.push _).size=_;simp
 refine⟨E,⟨fun o k l=>by have:=S.jlt o k l;omega,S.jft,S.gl.ext E,fun b y f q z=>?_,fun b y f q z=>?_,?_⟩,rfl,rfl,rfl,by omega,fun k t _=>Fa w _ t,?_,fun _ _ l=>.inl l⟩
 ·rw[Ah]at f
  by_cases e:b=d
  ·rw[if_pos e]at f;simp at f;subst f;simp[F]at z
  ·rw[if_neg e]at f
   rcases S.blk b y f q z with A|⟨k,o,G,I,L,A,M,Y,h4,h5,h6⟩
   ·exact .inl ⟨by simp[e,A.1],A.2⟩
   ·exact .inr ⟨k,o,G,I,L,by simp[e,A],by rw[Fa w _ (U' M)];exact M,Y,h4,h5.ext E,h6⟩
 ·rw[Ah]at f
  by_cases e:b=d
  ·rw[if_pos e]at f;simp at f;subst f
   exact⟨C,B,w.heap.size,ob,by simp[e],u,D,fun g l=>by have:=S.jlt g _ l;omega⟩
  ·rw[if_neg e]at f
   exact(S.mblk b y f q z).keep (by simp[e]) (fun k o j=>Fa w _ (DU S f q j)) (fun _ _ _ _ l=>l)
 ·intro b T y y' k o o' f m q v hs j n
  rw[Ah]at f m
  by_cases e:b=d<;>by_cases s:T=d
  ·rw[e,s]
  ·rw[if_neg s]at m
   simp[e]at j;simp[s]at n
   have:=DU S m v n;omega
  ·rw[if_neg e]at f
   simp[s]at n;simp[e]at j
   have:=DU S f q j;omega
  ·rw[if_neg e]at f;rw[if_neg s]at m
   simp[e]at j;simp[s]at n
   exact S.sep b T y y' k o o' f m q v hs j n
 ·rintro k ⟨b,y,o,f,q,hs,j⟩ t
  rw[Ah]at f
  by_cases e:b=d
  ·simp[e]at j;omega
  ·rw[if_neg e]at f;simp[e]at j
   exact⟨b,y,o,f,q,hs,j⟩
def Step.kill(S:SimH J β h w){d:Nat}{x y:Blk}(hx:Ao h d=some x)(m:y.dead=true)(t:y.mp=x.mp:=by rfl):Step J β h w J β (Ho h d y) w:=by
 have E:Ext J β h w J β (Ho h d y) w:=by
  refine⟨fun _ _ n=>n,fun o k n=>rfl,fun b z f=>?_,fun b k o q=>A86 _⟩
  by_cases e:b=d
  ·subst e;rw[hx]at f;simp at f;subst f;exact⟨y,⟨by rw[Ah,if_pos rfl],t⟩,.inl m⟩
  ·refine⟨z,⟨by rw[Ah,if_neg e];exact f,rfl⟩,?_⟩
   cases l:z.dead
   ·exact .inr ⟨rfl,rfl,rfl,fun _=>rfl⟩
   ·exact .inl rfl
 refine⟨E,⟨S.jlt,S.jft,S.gl.ext E,fun b z f l u=>?_,fun b z f l u=>by
   rw[Ah]at f
   by_cases e:b=d
   ·rw[if_pos e]at f;simp at f;subst f;simp[m]at l
   ·rw[if_neg e]at f
    exact(S.mblk b z f l u).keep rfl (fun k o q=>rfl) (fun _ _ _ _ n=>n),?_⟩,rfl,rfl,rfl,A86 _,fun k I _=>rfl,?_,fun _ _ n=>.inl n⟩
 ·rw[Ah]at f
  by_cases e:b=d
  ·rw[if_pos e]at f;simp at f;subst f;simp[m]at l
  ·rw[if_neg e]at f
   rcases S.blk b z f l u with v|⟨k,o,A,B,C,v,L,M,T,U,V⟩
   ·exact .inl v
   ·exact .inr ⟨k,o,A,B,C,v,L,M,T,U.ext E,V⟩
 ·intro b F z X k o o' f j l s hs q D
  rw[Ah]at f j
  by_cases e:b=d
  ·rw[if_pos e]at f;simp at f;subst f;simp[m]at l
  ·by_cases G:F=d
   ·rw[if_pos G]at j;simp at j;subst j;simp[m]at s
   ·rw[if_neg e]at f;rw[if_neg G]at j
    exact S.sep b F z X k o o' f j l s hs q D
 ·rintro k ⟨b,z,o,f,l,hs,q⟩ I
  rw[Ah]at f
  by_cases e:b=d
  ·rw[if_pos e]at f;simp at f;subst f;simp[m]at l
  ·rw[if_neg e]at f
   exact⟨b,z,o,f,l,hs,q⟩
def Step.giveUp(S:SimH J β h w){d k o:Nat}{x y:Blk}(hx:Ao h d=some x)(C:x.dead=false)(hs:x.sealed=false)(D:β d=some (k,o))(F:x.mp=false)(T:y.dead=true)
  (other:∀ j,j≠k->w'.heap[j]?=w.heap[j]?) (size:w'.heap.size=w.heap.size) (os:w'.os=w.os) (tape:w'.tape=w.tape) (output:w'.output=w.output) (G:Bl w k<=Bl w' k) (I:y.mp=x.mp:=by rfl) :
  Step J β h w J β (Ho h d y) w':=by
 have nj:∀ g j,J g j->j≠k:=fun g j n e=>by
  subst e
  rcases S.blk d x hx C F with⟨q,_⟩|⟨k',o',cs0,ty0,fr0,s,U,u,h4,h5,V,h7⟩
  ·rw[D]at q;simp at q
  ·rw[D]at s;simp at s;obtain⟨rfl,rfl⟩:=s
   exact V hs g n
 have E:Ext J β h w J β (Ho h d y) w':=by
  refine⟨fun _ _ n=>n,fun o j n=>other j (nj o j n),fun b z f=>?_,fun b j oo f=>?_⟩
  ·by_cases e:b=d
   ·subst e;rw[hx]at f;simp at f;subst f;exact⟨y,⟨by rw[Ah,if_pos rfl],I⟩,.inl T⟩
   ·refine⟨z,⟨by rw[Ah,if_neg e];exact f,rfl⟩,?_⟩
    cases C:z.dead
    ·exact .inr ⟨rfl,rfl,rfl,fun _=>rfl⟩
    ·exact .inl rfl
  ·by_cases e:j=k
   ·subst e;exact G
   ·simp[Bl,other j e]
 have live:∀{b z},Ao (Ho h d y) b=some z->z.dead=false->b≠d/\Ao h b=some z:=fun{b z} f l=>by
  rw[Ah]at f
  by_cases e:b=d
  ·rw[if_pos e]at f;simp at f;subst f;simp[T]at l
  ·rw[if_neg e]at f;exact⟨e,f⟩
 have apart:∀{b z j oo},b≠d->Ao h b=some z->z.dead=false->β b=some (j,oo)->j≠k:=fun{b z j oo} e f l m ej=>by
  subst ej;exact e (S.sep d b x z j o oo hx f C l hs D m).symm
 refine⟨E,⟨fun g j n=>by rw[size];exact S.jlt g j n,S.jft,S.gl.ext E,fun b z f l v=>?_,fun b z f l v=>by
   obtain⟨e,f⟩:=live f l
   exact(S.mblk b z f l v).keep rfl (fun j oo m=>other j (apart e f l m)) (fun _ _ _ _ n=>n),fun b X z Y j oo L f M l A t m B=>?_⟩,os,tape,output,by rw[size];exact A86 _,fun j n v=>other j (fun e=>by subst e;exact v ⟨d,x,o,hx,C,hs,D⟩),?_,fun _ _ n=>.inl n⟩
 ·obtain⟨e,f⟩:=live f l
  rcases S.blk b z f l v with q|⟨j,oo,cs,ty,fr,q,U,u⟩
  ·exact .inl q
  ·exact .inr ⟨j,oo,cs,ty,fr,q,by rw[other j (apart e f l q)];exact U,u.1,u.2.1,u.2.2.1.ext E,u.2.2.2⟩
 ·exact S.sep b X z Y j oo L (live f l).2 (live M A).2 l A t m B
 ·rintro j ⟨b,z,oo,f,l,t,m⟩ _
  exact⟨b,z,oo,(live f l).2,l,t,m⟩
end
end Gx
namespace Gx
open Go
section
variable{J J' J'':Bool->Nat->Prop}{β β' β'':De}{h h' h'':A9}{w w' w'':World}
def Step.shutB(S:SimH J β h w){d:Nat}{x:Blk}(hx:Ao h d=some x)(q:x.dead=false)(v:x.mp=false):
  Step J β h w (fun o k=>J o k\/∃ o',β d=some (k,o')/\(x.taint=true->o=true)) β (Ho h d {x with sealed:=true}) w:=by
 have E:Ext J β h w (fun o k=>J o k\/∃ o',β d=some (k,o')/\(x.taint=true->o=true)) β (Ho h d {x with sealed:=true}) w:=by
  refine⟨fun _ _ l=>.inl l,fun o k l=>rfl,fun b z f=>?_,fun b k o j=>A86 _⟩
  by_cases e:b=d
  ·subst e;rw[hx]at f;simp at f;subst f
   exact⟨{x with sealed:=true},⟨by rw[Ah,if_pos rfl],rfl⟩,.inr ⟨q,rfl,rfl,fun _=>rfl⟩⟩
  ·refine⟨z,⟨by rw[Ah,if_neg e];exact f,rfl⟩,?_⟩
   cases q:z.dead
   ·exact .inr ⟨rfl,rfl,rfl,fun _=>rfl⟩
   ·exact .inl rfl
 refine⟨E,⟨?_,?_,S.gl.ext E,fun b z f n D=>?_,fun b z f n D=>by
   rw[Ah]at f
   by_cases e:b=d
   ·rw[if_pos e]at f;simp at f;subst f;simp[v]at D
   ·rw[if_neg e]at f
    have M:=S.mblk b z f n D
    refine M.keep rfl (fun k o j=>rfl) (fun g k o j l=>?_)
    rcases l with l|⟨o',A,_⟩
    ·exact l
    ·exact absurd (S.sep b d z x k o o' f hx n q M.2.1 j A) e,?_⟩,rfl,rfl,rfl,A86 _,fun k hk _=>rfl,?_,?_⟩
 ·rintro o k (l|⟨o',j,_⟩)
  ·exact S.jlt o k l
  ·exact DU S hx q j
 ·rintro k (l|⟨o',j,ht⟩)
  ·exact .inl (S.jft k l)
  ·exact .inr ⟨o',j,fun _=>rfl⟩
 ·rw[Ah]at f
  by_cases e:b=d
  ·rw[if_pos e]at f;simp at f;subst f;subst e
   rcases S.blk b x hx q v with m|⟨k,o,s,t,u,m,F,G,I,L,U,T⟩
   ·exact .inl m
   ·exact .inr ⟨k,o,s,t,u,m,F,G,I,L.ext E,fun hs=>by simp at hs,fun _=>.inr ⟨o,m,id⟩⟩
  ·rw[if_neg e]at f
   rcases S.blk b z f n D with m|⟨k,o,s,t,u,m,F,G,I,L,U,T⟩
   ·exact .inl m
   ·refine .inr ⟨k,o,s,t,u,m,F,G,I,L.ext E,fun hs g l=>?_,fun hs=>.inl (T hs)⟩
    rcases l with l|⟨o',j,_⟩
    ·exact U hs g l
    ·exact e (S.sep b d z x k o o' f hx n q hs m j)
 ·intro b b' z z' k o o' f V X Y hs j A
  have get:∀{c y},Ao (Ho h d {x with sealed:=true}) c=some y->y.dead=false->∃ y',Ao h c=some y'/\y'.dead=false/\(y.sealed=false->y'.sealed=false):=by
   intro c y C hyd
   rw[Ah]at C
   by_cases e:c=d
   ·subst e;exact⟨x,hx,q,fun hs=>by simp at C;subst C;simp at hs⟩
   ·rw[if_neg e]at C;exact⟨y,C,hyd,id⟩
  obtain⟨y1,g1,g2,g3⟩:=get f X
  obtain⟨y2,g4,g5,g6⟩:=get V Y
  exact S.sep b b' y1 y2 k o o' g1 g4 g2 g5 (g3 hs) j A
 ·rintro k ⟨b,z,o,f,n,hs,j⟩ hk
  rw[Ah]at f
  by_cases e:b=d
  ·rw[if_pos e]at f;simp at f;subst f;simp at hs
  ·rw[if_neg e]at f
   exact⟨b,z,o,f,n,hs,j⟩
 ·rintro o k (l|⟨o',j,ht⟩)
  ·exact .inl l
  ·cases hs:x.sealed with
   |false=>exact .inr (.inl ⟨d,x,o',hx,q,hs,j⟩)
   | true =>
    left
    rcases S.blk d x hx q v with⟨m,_⟩|⟨k',o1,s,t,u,m,F,G,I,L,U,T⟩
    ·rw[j]at m;simp at m
    ·rw[j]at m;simp at m;obtain⟨rfl,rfl⟩:=m
     have:=T hs
     cases B:x.taint with
     |true=>rw[B]at this;rw[ht B];exact this
     |false =>
      rw[B]at this
      cases o
      ·exact this
      ·exact S.jft _ this
structure OnlyBlk(w w':World)(k:Nat)(cs cs':Array Value)(ty:TypeId)(fr:Nat×Nat):Prop where
 old:w.heap[k]?=some (.cells cs ty fr)
 new:w'.heap[k]?=some (.cells cs' ty fr)
 sz:cs'.size=cs.size
 other:∀ j,j≠k->w'.heap[j]?=w.heap[j]?
 size:w'.heap.size=w.heap.size
 os:w'.os=w.os
 tape:w'.tape=w.tape
 output:w'.output=w.output
def OnlyBlk.setCell{k i:Nat}{cs:Array Value}{ty:TypeId}{fr:Nat×Nat}(d:w.heap[k]?=some (.cells cs ty fr))(u:Value):
  OnlyBlk w (w.setCell ⟨k,i,none⟩ u) k cs (cs.setIfInBounds i u) ty fr:=by
 refine⟨d,?_,by simp,fun j f=>?_,by simp[World.setCell],rfl,rfl,rfl⟩
 ·simp[World.setCell,Ba7,d]
 ·simp only[World.setCell,Ba7];rw[if_neg (fun e=>f e.symm)]
def OnlyBlk.setCells{k:Nat}{ty:TypeId}{fr:Nat×Nat}:∀(us:List Value)(i:Nat)(w:World)(cs:Array Value),w.heap[k]?=some (.cells cs ty fr) ->
  ∃ d,OnlyBlk w (w.setCells k i us) k cs d ty fr/\∀ j,d[j]?=if i<=j/\j<i+us.length/\j<cs.size then us[j - i]? else cs[j]?
|[],i,w,cs,e=>⟨cs,⟨e,e,rfl,fun _ _=>rfl,rfl,rfl,rfl,rfl⟩,fun j=>by rw[if_neg (by simp;omega)]⟩
| u::us,i,w,cs,e=>by
  have A:=OnlyBlk.setCell (i:=i) e u
  obtain⟨d,B,hB⟩:=OnlyBlk.setCells us (i+1) (w.setCell ⟨k,i,none⟩ u) _ A.new
  refine⟨d,⟨e,B.new,B.sz.trans A.sz,fun j f=>(B.other j f).trans (A.other j f),B.size.trans A.size,B.os.trans A.os,B.tape.trans A.tape,B.output.trans A.output⟩,fun j=>?_⟩
  rw[hB j]
  simp only[Bcv,A83]
  by_cases f:j=i
  ·subst f
   rw[if_neg (by omega)]
   by_cases hs:j<cs.size
   ·rw[if_pos (by omega)];simp[hs]
   ·rw[if_neg (by omega)];simp[hs]
  ·by_cases l:i+1<=j/\j<i+1+us.length/\j<cs.size
   ·rw[if_pos l,if_pos (by omega),show j - i=(j - (i+1))+1 by omega];simp
   ·rw[if_neg l,if_neg (by omega),Bcc (by omega)]
def Step.set(S:SimH J β h w){d k o:Nat}{x x':Blk}{cs s:Array Value}{ty:TypeId}{fr:Nat×Nat}(hx:Ao h d=some x)(n:x.dead=false)(hs:x.sealed=false)(A:β d=some (k,o))
  (O:OnlyBlk w w' k cs s ty fr) (hd':x'.dead=false) (M:x'.sealed=false) (hz:x'.sz=x.sz) (hl:x'.cells.length=x.cells.length) (D:CellsRep J β h w x' (fun j=>s[o+j]?)) (F:x.mp=false) (q:x'.mp=x.mp:=by rfl) (hty:x'.ty=x.ty:=by rfl) :
  Step J β h w J β (Ho h d x') w':=by
 obtain⟨G,o',cs0,ty0,fr0,t,T,h3,h4,h5,h6,h7⟩:∃ G o' cs0 ty0 fr0,β d=some (G,o')/\w.heap[G]?=some (.cells cs0 ty0 fr0) /\
   FrTy x.ty ty0 o' cs0.size fr0/\o'+x.cells.length<=cs0.size/\CellsRep J β h w x (fun j=>cs0[o'+j]?)/\(x.sealed=false->∀ g,¬ J g G)/\(x.sealed=true->J x.taint G):=by
  rcases S.blk d x hx n F with⟨L,_⟩|L
  ·rw[A]at L;simp at L
  ·exact L
 rw[A]at t;simp at t;obtain⟨rfl,rfl⟩:=t
 rw[O.old]at T;simp at T;obtain⟨rfl,rfl,rfl⟩:=T
 have nj:∀ g j,J g j->j≠k:=fun g j m e=>by subst e;exact h6 hs g m
 have E:Ext J β h w J β (Ho h d x') w':=by
  refine⟨fun _ _ m=>m,fun o j m=>O.other j (nj o j m),fun b z f=>?_,fun b j oo f=>?_⟩
  ·by_cases e:b=d
   ·subst e;rw[hx]at f;simp at f;subst f
    exact⟨_,⟨by rw[Ah,if_pos rfl],q⟩,.inr ⟨n,rfl,hz,fun _=>hl⟩⟩
   ·refine⟨z,⟨by rw[Ah,if_neg e];exact f,rfl⟩,?_⟩
    cases n:z.dead
    ·exact .inr ⟨rfl,rfl,rfl,fun _=>rfl⟩
    ·exact .inl rfl
  ·by_cases e:j=k
   ·subst e;rw[G2 O.old,G2 O.new,O.sz];exact A86 _
   ·simp[Bl,O.other j e]
 refine⟨E,⟨fun g j m=>by rw[O.size];exact S.jlt g j m,S.jft,S.gl.ext E,fun b z f l B=>?_,fun b z f l B=>by
   rw[Ah]at f
   by_cases e:b=d
   ·rw[if_pos e]at f;simp at f;subst f;simp[q,F]at B
   ·rw[if_neg e]at f
    exact(S.mblk b z f l B).keep rfl (fun u o2 v=>O.other u (fun U=>by subst U;exact e (S.sep d b x z u o o2 hx f n l hs A v).symm)) (fun _ _ _ _ m=>m),?_⟩,O.os,O.tape,O.output,by rw[O.size];exact A86 _,fun j m B=>?_,?_,fun _ _ m=>.inl m⟩
 ·rw[Ah]at f
  by_cases e:b=d
  ·rw[if_pos e]at f;simp at f;subst f;subst e
   refine .inr ⟨k,o,s,ty,fr,A,O.new,?_,by rw[hl,O.sz];exact h4,D.ext E,fun _=>h6 hs,fun hh=>by simp[M]at hh⟩
   rw[O.sz,hty];exact h3
  ·rw[if_neg e]at f
   rcases S.blk b z f l B with C|⟨u,o2,cs2,ty2,fr2,C,V,X,Y,g5,g6,g7⟩
   ·exact .inl C
   ·have hne:u≠k:=fun U=>by
     subst U;exact e (S.sep d b x z u o o2 hx f n l hs A C).symm
    exact .inr ⟨u,o2,cs2,ty2,fr2,C,by rw[O.other u hne];exact V,X,Y,g5.ext E,g6,g7⟩
 ·intro b b' z z' kk oo oo' f hb' hd1 hd2 hs1 hβ1 v
  have get:∀{c y},Ao (Ho h d x') c=some y->y.dead=false->∃ y',Ao h c=some y'/\y'.dead=false/\(y.sealed=false->y'.sealed=false):=by
   intro c y D hyd
   rw[Ah]at D
   by_cases e:c=d
   ·subst e;exact⟨x,hx,n,fun _=>hs⟩
   ·rw[if_neg e]at D;exact⟨y,D,hyd,id⟩
  obtain⟨y1,C,V,X⟩:=get f hd1
  obtain⟨y2,Y,g5,g6⟩:=get hb' hd2
  exact S.sep b b' y1 y2 kk oo oo' C Y V g5 (X hs1) hβ1 v
 ·exact O.other j (fun e=>B (by subst e;exact⟨d,x,o,hx,n,hs,A⟩))
 ·rintro j ⟨b,z,oo,f,l,hsz,I⟩ m
  rw[Ah]at f
  by_cases e:b=d
  ·subst e;exact⟨b,x,oo,hx,n,hs,I⟩
  ·rw[if_neg e]at f
   exact⟨b,z,oo,f,l,hsz,I⟩
def Step.setObj(S:SimH J β h w){d k:Nat}{x x':Blk}{ob A:Obj}(hx:Ao h d=some x)(B:x.dead=false)(I:x.mp=true)(D:β d=some (k,0))
  (old:w.heap[k]?=some ob) (new:w'.heap[k]?=some A) (other:∀ j,j≠k->w'.heap[j]?=w.heap[j]?) (size:w'.heap.size=w.heap.size) (os:w'.os=w.os) (tape:w'.tape=w.tape) (output:w'.output=w.output)
  (L:ObjIs x' A) (hx'd:x'.dead=false) (T:x'.sealed=false) (U:x'.pure=true) (V:x'.sz=x.sz) (v:x'.mp=true):Step J β h w J β (Ho h d x') w':=by
 have M:=S.mblk d x hx B I
 have nJ:∀ g,¬ J g k:=by
  obtain⟨_,_,k',_,q,_,_,t⟩:=M
  rw[D]at q;simp at q;subst q;exact t
 have nj:∀ g j,J g j->j≠k:=fun g j l e=>by subst e;exact nJ g l
 have E:Ext J β h w J β (Ho h d x') w':=by
  refine⟨fun _ _ l=>l,fun o j l=>other j (nj o j l),fun b z f=>?_,fun b j oo f=>?_⟩
  ·by_cases e:b=d
   ·subst e;rw[hx]at f;simp at f;subst f
    exact⟨_,⟨by rw[Ah,if_pos rfl],by rw[v,I]⟩,.inr ⟨B,rfl,V,fun h=>by simp[I]at h⟩⟩
   ·refine⟨z,⟨by rw[Ah,if_neg e];exact f,rfl⟩,?_⟩
    cases B:z.dead
    ·exact .inr ⟨rfl,rfl,rfl,fun _=>rfl⟩
    ·exact .inl rfl
  ·by_cases e:j=k
   ·subst e
    have r0:∀ cs ty fr,ob≠.cells cs ty fr:=by
     obtain⟨_,_,k',ob0,q,t,h3,_⟩:=M
     rw[D]at q;simp at q;subst q
     rw[old]at t;simp at t;subst t
     exact fun _ _ _=>h3.row
    have z0:Bl w j=0:=by
     unfold Bl;rw[old]
     split
     ·rename_i e;simp at e;exact absurd e (r0 _ _ _)
     ·rfl
    rw[z0];exact Bcj _
   ·simp[Bl,other j e]
 refine⟨E,⟨fun g j l=>by rw[size];exact S.jlt g j l,S.jft,S.gl.ext E,fun b z f n u=>?_,fun b z f n u=>?_,?_⟩,os,tape,output,by rw[size];exact A86 _,fun j l I=>?_,?_,fun _ _ l=>.inl l⟩
 ·rw[Ah]at f
  by_cases e:b=d
  ·rw[if_pos e]at f;simp at f;subst f;simp[v]at u
  ·rw[if_neg e]at f
   rcases S.blk b z f n u with X|⟨F,o2,cs2,ty2,fr2,X,G,g3,g4,g5,g6,g7⟩
   ·exact .inl X
   ·have hne:F≠k:=fun e2=>by
     subst e2;rw[old]at G;simp at G
     obtain⟨_,_,k',ob0,q,t,h3,_⟩:=M
     rw[D]at q;simp at q;subst q
     rw[old]at t;simp at t;subst t
     exact absurd G h3.row
    exact .inr ⟨F,o2,cs2,ty2,fr2,X,by rw[other F hne];exact G,g3,g4,g5.ext E,g6,g7⟩
 ·rw[Ah]at f
  by_cases e:b=d
  ·rw[if_pos e]at f;simp at f;subst f;subst e
   exact⟨U,T,k,A,D,new,L,nJ⟩
  ·rw[if_neg e]at f
   exact(S.mblk b z f n u).keep rfl (fun F o2 C=>other F (fun e2=>by subst e2;exact e (S.sep d b x z F 0 o2 hx f B n M.2.1 D C).symm)) (fun _ _ _ _ l=>l)
 ·intro b b' z z' kk oo oo' f hb' hd1 hd2 hs1 hβ1 C
  have get:∀{c y},Ao (Ho h d x') c=some y->y.dead=false->∃ y',Ao h c=some y'/\y'.dead=false/\(y.sealed=false->y'.sealed=false):=by
   intro c y L hyd
   rw[Ah]at L
   by_cases e:c=d
   ·subst e;exact⟨x,hx,B,fun _=>M.2.1⟩
   ·rw[if_neg e]at L;exact⟨y,L,hyd,id⟩
  obtain⟨y1,X,G,g3⟩:=get f hd1
  obtain⟨y2,g4,g5,g6⟩:=get hb' hd2
  exact S.sep b b' y1 y2 kk oo oo' X g4 G g5 (g3 hs1) hβ1 C
 ·exact other j (fun e=>I (by subst e;exact⟨d,x,0,hx,B,M.2.1,D⟩))
 ·rintro j ⟨b,z,oo,f,n,hsz,Y⟩ l
  rw[Ah]at f
  by_cases e:b=d
  ·subst e;exact⟨b,x,oo,hx,B,M.2.1,Y⟩
  ·rw[if_neg e]at f
   exact⟨b,z,oo,f,n,hsz,Y⟩
def Step.mark(S:SimH J β h w){d k o:Nat}{x:Blk}{cs:Array Value}{ty:TypeId}{fr q:Nat×Nat}(hx:Ao h d=some x)(v:x.dead=false)(hs:x.sealed=false)(y:β d=some (k,o))
  (old:w.heap[k]?=some (.cells cs ty fr)) (new:w'.heap[k]?=some (.cells cs ty q)) (T:FrOk cs.size q) (other:∀ j,j≠k->w'.heap[j]?=w.heap[j]?) (size:w'.heap.size=w.heap.size) (os:w'.os=w.os) (tape:w'.tape=w.tape) (output:w'.output=w.output) (u:x.mp=false) :
  Step J β h w J β h w':=by
 have nj:∀ g j,J g j->j≠k:=fun g j f e=>by
  subst e
  rcases S.blk d x hx v u with⟨D,_⟩|⟨X,o',cs0,ty0,fr0,s,Y,h3,h4,h5,U,h7⟩
  ·rw[y]at D;simp at D
  ·rw[y]at s;simp at s;obtain⟨rfl,rfl⟩:=s
   exact U hs g f
 have E:Ext J β h w J β h w':=by
  refine⟨fun _ _ f=>f,fun o j f=>other j (nj o j f),fun b z l=>⟨z,⟨l,rfl⟩,?_⟩,fun b j oo l=>?_⟩
  ·cases v:z.dead
   ·exact .inr ⟨rfl,rfl,rfl,fun _=>rfl⟩
   ·exact .inl rfl
  ·by_cases e:j=k
   ·subst e;rw[G2 old,G2 new];exact A86 _
   ·simp[Bl,other j e]
 refine⟨E,⟨fun g j f=>by rw[size];exact S.jlt g j f,S.jft,S.gl.ext E,fun b z l m n=>?_,fun b z l m n=>by
   refine(S.mblk b z l m n).keep rfl (fun t o2 C=>other t (fun V=>?_)) (fun _ _ _ _ f=>f)
   subst V
   have:=S.sep d b x z t o o2 hx l v m hs y C
   subst this
   rw[hx] at l;simp at l;subst l;simp[u] at n,S.sep⟩,os,tape,output,by rw[size];exact A86 _,fun j f n=>?_,fun _ n _=>n,fun _ _ f=>.inl f⟩
 ·rcases S.blk b z l m n with A|⟨t,o2,cs2,ty2,fr2,A,B,F,G,I,L,M⟩
  ·exact .inl A
  ·by_cases e:t=k
   ·subst e
    rw[old]at B;simp at B;obtain⟨rfl,rfl,rfl⟩:=B
    exact .inr ⟨t,o2,cs,ty,q,A,new,⟨T,F.2⟩,G,I.ext E,L,M⟩
   ·exact .inr ⟨t,o2,cs2,ty2,fr2,A,by rw[other t e];exact B,F,G,I.ext E,L,M⟩
 ·exact other j (fun e=>n (by subst e;exact⟨d,x,o,hx,v,hs,y⟩))
def Step.move(S:SimH J β h w){d d' k o o':Nat}{x x' y:Blk}{cs B:Array Value}{ty:TypeId}{fr:Nat×Nat}(hx:Ao h d=some x)(u:x.dead=false)(hs:x.sealed=false)(v:β d=some (k,o))
  (hn:Ao h d'=none) (hy:y.dead=true)
  (O:OnlyBlk w w' k cs B ty fr) (hd':x'.dead=false) (hs':x'.sealed=false) (hl:o'+x'.cells.length<=cs.size) (hc:CellsRep J β h w x' (fun j=>B[o'+j]?)) (hxm:x.mp=false) (hym:y.mp=x.mp:=by rfl) (L:x'.mp=false:=by rfl) (hty:TyOk x'.ty ty o' cs.size:=by exact TyOk.none) :
  Step J β h w J (fun b=>if b=d' then some (k,o')else β b) (Ho (Ho h d y) d' x') w':=by
 obtain⟨M,o1,cs0,ty0,fr0,C,h2,h3,h4,h5,h6,h7⟩:∃ M o' cs0 ty0 fr0,β d=some (M,o')/\w.heap[M]?=some (.cells cs0 ty0 fr0) /\
   FrTy x.ty ty0 o' cs0.size fr0/\o'+x.cells.length<=cs0.size/\CellsRep J β h w x (fun j=>cs0[o'+j]?)/\(x.sealed=false->∀ g,¬ J g M)/\(x.sealed=true->J x.taint M):=by
  rcases S.blk d x hx u hxm with⟨Y,_⟩|Y
  ·rw[v]at Y;simp at Y
  ·exact Y
 rw[v]at C;simp at C;obtain⟨rfl,rfl⟩:=C
 rw[O.old]at h2;simp at h2;obtain⟨rfl,rfl,rfl⟩:=h2
 have nj:∀ g j,J g j->j≠k:=fun g j n e=>by subst e;exact h6 hs g n
 have ndd:d≠d':=fun e=>by subst e;rw[hn]at hx;cases hx
 have ne:∀{b z},Ao h b=some z->b≠d':=fun f e=>by subst e;rw[hn]at f;cases f
 have get:∀ b,Ao (Ho (Ho h d y) d' x') b=if b=d' then some x' else if b=d then some y else Ao h b:=fun b=>by rw[Ah,Ah]
 have E:Ext J β h w J (fun b=>if b=d' then some (k,o')else β b) (Ho (Ho h d y) d' x') w':=by
  refine⟨fun _ _ n=>n,fun o j n=>O.other j (nj o j n),fun b z f=>?_,fun b j oo f=>?_⟩
  ·by_cases e:b=d
   ·have hb0:=f;subst e;rw[hx]at f;simp at f;subst f;exact⟨y,⟨by rw[get,if_neg (ne hb0),if_pos rfl],hym⟩,.inl hy⟩
   ·refine⟨z,⟨by rw[get,if_neg (ne f),if_neg e];exact f,rfl⟩,?_⟩
    cases u:z.dead
    ·exact .inr ⟨rfl,by simp[ne f],rfl,fun _=>rfl⟩
    ·exact .inl rfl
  ·by_cases e:j=k
   ·subst e;rw[G2 O.old,G2 O.new,O.sz];exact A86 _
   ·simp[Bl,O.other j e]
 have live:∀{b z},Ao (Ho (Ho h d y) d' x') b=some z->z.dead=false->(b=d'/\z=x')\/(b≠d'/\b≠d/\Ao h b=some z):=by
  intro b z f hz
  rw[get]at f
  by_cases e:b=d'
  ·rw[if_pos e]at f;simp at f;exact .inl ⟨e,f.symm⟩
  ·rw[if_neg e]at f
   by_cases s:b=d
   ·rw[if_pos s]at f;simp at f;subst f;simp[hy]at hz
   ·rw[if_neg s]at f;exact .inr ⟨e,s,f⟩
 refine⟨E,⟨fun g j n=>by rw[O.size];exact S.jlt g j n,S.jft,S.gl.ext E,fun b z f l I=>?_,fun b z f l I=>by
   rcases live f l with⟨rfl,rfl⟩|⟨e1,s,f⟩
   ·simp[L]at I
   ·exact(S.mblk b z f l I).keep (by simp[e1]) (fun D o2 m=>O.other D (fun e=>by subst e;exact s (S.sep d b x z D o o2 hx f u l hs v m).symm)) (fun _ _ _ _ n=>n),?_⟩,O.os,O.tape,O.output,by rw[O.size];exact A86 _,fun j n I=>?_,?_,fun _ _ n=>.inl n⟩
 ·rcases live f l with⟨rfl,rfl⟩|⟨e1,s,f⟩
  ·refine .inr ⟨k,o',B,ty,fr,by simp,O.new,?_,by rw[O.sz];exact hl,hc.ext E,fun _=>h6 hs,fun hh=>by simp[hs']at hh⟩
   rw[O.sz];exact⟨h3.1,hty⟩
  ·rcases S.blk b z f l I with T|⟨D,o2,cs2,ty2,fr2,T,g2,g3,g4,g5,g6,g7⟩
   ·exact .inl ⟨by simp[e1,T.1],T.2⟩
   ·have hne:D≠k:=fun e=>by
     subst e;exact s (S.sep d b x z D o o2 hx f u l hs v T).symm
    exact .inr ⟨D,o2,cs2,ty2,fr2,by simp[e1,T],by rw[O.other D hne];exact g2,g3,g4,g5.ext E,g6,g7⟩
 ·intro b b' z z' kk oo U f hb' F G hs1 q m
  rcases live f F with⟨e0,_⟩|⟨e1,s,V⟩<;>rcases live hb' G with⟨X,_⟩|⟨e3,e4,A⟩
  ·rw[e0,X]
  ·simp[e0]at q;simp[e3]at m
   obtain⟨rfl,rfl⟩:=q
   exact absurd (S.sep d b' x z' k o U hx A u G hs v m).symm e4
  ·simp[X]at m;simp[e1]at q
   obtain⟨rfl,rfl⟩:=m
   exact absurd (S.sep d b x z k o oo hx V u F hs v q).symm s
  ·simp[e1]at q;simp[e3]at m
   exact S.sep b b' z z' kk oo U V A F G hs1 q m
 ·exact O.other j (fun e=>I (by subst e;exact⟨d,x,o,hx,u,hs,v⟩))
 ·rintro j ⟨b,z,oo,f,l,hsz,t⟩ n
  rcases live f l with⟨rfl,rfl⟩|⟨e1,s,f⟩
  ·simp at t;obtain⟨rfl,rfl⟩:=t
   exact⟨d,x,o,hx,u,hs,v⟩
  ·simp[e1]at t;exact⟨b,z,oo,f,l,hsz,t⟩
end
end Gx
namespace Gx
open Go
def Dk:∀(a b:F2)(h:A9),An (a++b) h=An b (An a h)
|[],_,_=>rfl
|(_,some _)::r,b,h=>by simp only[A9k,An];exact Dk r b _
|(_,none)::r,b,h=>by simp only[A9k,An];exact Dk r b _
def LooksS(g:Bp)(h:A9):Prop:=∀ b x,g b=some x->∃ y,Ao h b=some y/\{y with sealed:=true}={x with sealed:=true}
def Looks.s{g:Bp}{h:A9}(d:Looks g h):LooksS g h:=fun b x e=>⟨x,d b x e,rfl⟩
section
variable{R:Type}{r:R}{P:Program}{J J':Bool->Nat->Prop}{β:De}{h:A9}{w:World}{g:Bp}
def LooksS.shutB(f:LooksS g h){b:Nat}{x:Blk}(j:g b=some x):LooksS g (Ho h b {x with sealed:=true}):=by
 intro c y d
 rw[Ah]
 by_cases e:c=b
 ·subst e;rw[j]at d;simp at d;subst d
  exact⟨{x with sealed:=true},by simp,rfl⟩
 ·rw[if_neg e];exact f c y d
def Aut(S:SimH J β h w){b off n:Nat}{y:Blk}{v:Value}(C:Ao h b=some y)(D:y.dead=false)(F:y.pure=true)(hr:Rep J β h w (.own b off n) v)
  (hJ:∀ k o,β b=some (k,o)->J' y.taint k) (l:∀ o k,J o k->J' o k) (t o:Bool):RepC (J' y.taint) w (.imm ((y.cells.drop off).take (n*y.sz)) n y.sz t o) v↔(t=true->∃ A cap,v=.slice A n cap/\cap=n):=by
 rw[Rep]at hr
 obtain⟨x,A,cap,⟨e,q⟩,rfl,d,hr⟩:=hr
 rw[C]at e;simp at e;subst e
 rw[RepC]
 constructor
 ·rintro⟨_,A',cap',s,_,u,_⟩ z
  exact⟨A',cap',s,u z⟩
 ·intro u
  have m:t=true->cap=n:=fun z=>by
   obtain⟨A',cap',s,M⟩:=u z
   simp at s;omega
  rcases hr with hr|⟨kk,oo,rfl,hr⟩
  ·have:n=0:=by omega
   subst this
   exact⟨by simp,A,cap,rfl,d,m,.inl rfl⟩
  ·rcases hr with hr|⟨B,T,U⟩
   ·simp[D]at hr
   ·rcases S.blk b y C D q with⟨hn,_⟩|⟨V,o',cs,ty,fr,f,G,X,Y,I,g5,g6⟩
    ·rw[B]at hn;simp at hn
    ·rw[B]at f;simp at f;obtain⟨rfl,rfl⟩:=f
     refine⟨by simp;omega,_,cap,rfl,d,m,.inr ⟨_,rfl,hJ _ _ B,?_⟩⟩
     have:=((I.1 F).drop off).take (n*y.sz)
     refine RepCs.keep (fun k L=>l _ k L) (fun _ _=>rfl) (fun j=>?_) this
     rw[Addr.add_mid,Tl G,A97]
def Azb{b off n:Nat}{y:Blk}{v:Value}(f:Ao h b=some y)(hr:Rep J β h w (.own b off n) v):y.mp=false:=by
 rw[Rep]at hr
 obtain⟨x,A,cap,⟨d,e⟩,_⟩:=hr
 rw[f]at d;simp at d;subst d;exact e
def A2h{b off:Nat}{y:Blk}{v:Value}(f:Ao h b=some y)(hr:Rep J β h w (.optr b off) v):y.mp=false:=by
 rw[Rep]at hr
 obtain⟨x,k,o,⟨d,e⟩,_⟩:=hr
 rw[f]at d;simp at d;subst d;exact e
def bR{v v':AV}{ups:F2}{org:Bool}{vc:Value}(S:SimH J β h w)(l:LooksS g h)(e:jP g v=some (v',ups,org))(f:Rep J β h w v vc):
    ∃ J',Step J β h w J' β (An ups h) w/\RepC (J' org) w v' vc/\LooksS g (An ups h):=by
  unfold jP at e
  split at e
  · rename_i b off n
    obtain⟨x,hx,t⟩:=ub e
    obtain⟨u,q⟩:=uc t
    simp at q
    obtain⟨rfl,rfl,rfl⟩:=q
    unfold Ii at hx
    obtain⟨x0,j,hx⟩:=ub hx
    obtain⟨s,hx⟩:=Are hx
    simp at hx;subst hx
    obtain⟨y,m,d⟩:=l b _ j
    have e1:y.cells=x0.cells:=by have:=congrArg Blk.cells d;simpa using this
    have z:y.sz=x0.sz:=by have:=congrArg Blk.sz d;simpa using this
    have e3:y.taint=x0.taint:=by have:=congrArg Blk.taint d;simpa using this
    have e4:y.dead=x0.dead:=by have:=congrArg Blk.dead d;simpa using this
    have B:y.pure=x0.pure:=by have:=congrArg Blk.pure d;simpa using this
    have A:=Step.shutB S m (by rw[e4];exact s) (Azb m f)
    refine⟨_,by simp only[An];rw[<-d];exact A,?_,by simp only[An];exact l.shutB j⟩
    have:=(Aut (J':=fun o k=>J o k\/∃ o',β b=some (k,o')/\(y.taint=true->o=true)) S m (by rw[e4];exact s) (by rw[B];exact u) f (fun k o C=>.inr ⟨o,C,id⟩) (fun o k D=>.inl D) false x0.taint).2 (by simp)
    rw[e1,z,e3]at this
    rw[e3]
    exact this
  all_goals first
    |(simp at e;done)
    | (simp at e; obtain ⟨rfl, rfl, rfl⟩ := e
       refine⟨J,Step.refl S,?_,l⟩
       first
         |(rw[Rep]at f;exact f)
         | skip)
  · cases v
    case imm=>rename_i hi _ _;exact absurd rfl (hi _ _ _ _ _)
    case iptr=>rename_i hi _;exact absurd rfl (hi _ _)
    case pagg=>rename_i hi;exact absurd rfl (hi _ _)
    all_goals first|(rw[Rep]at f;rw[RepC];exact f)|simp_all
def Wb:∀{c e:LA}{ups:F2}{org:Bool}{cs:List Value}{J:Bool->Nat->Prop}{h:A9},SimH J β h w->LooksS g h->IS g c=some (e,ups,org)->Reps J β h w c cs ->
  ∃ J',Step J β h w J' β (An ups h) w/\RepCs (J' org) w e (fun j=>cs[j]?) 0/\e.length=cs.length/\LooksS g (An ups h)
|[],e,ups,org,cs,J,h,S,n,f,l=>by
  simp[IS]at f;obtain⟨rfl,rfl,rfl⟩:=f
  rw[Reps]at l;subst l
  exact⟨J,Step.refl S,by simp[RepCs],rfl,n⟩
| v::r,e,ups,org,cs,J,h,S,n,f,l=>by
  rw[IS]at f
  obtain⟨⟨v1,u1,o1⟩,D,F⟩:=ub f
  obtain⟨⟨I,u2,o2⟩,hq,z⟩:=ub F
  simp at z
  obtain⟨rfl,rfl,rfl⟩:=z
  rw[Reps]at l
  obtain⟨u,us,rfl,q,s⟩:=l
  obtain⟨J1,A,hA,t⟩:=bR S n D q
  obtain⟨J2,B,hB,m,y⟩:=Wb A.sim t hq (Reps.ext A.ext s)
  refine⟨J2,by rw[Dk];exact A.trans B (fun _ _ _ _=>A86 _),?_,by simp[m],by rw[Dk];exact y⟩
  have mono:∀{a b:Bool}(k:Nat),J2 a k->J2 (a||b) k:=fun{a b} k d=>by
   cases a
   ·cases b
    ·exact d
    ·exact B.sim.jft k d
   ·exact d
  have mono':∀{a b:Bool}(k:Nat),J2 b k->J2 (a||b) k:=fun{a b} k d=>by rw[Bc6];exact mono k d
  rw[RepCs]
  refine⟨⟨u,by simp,?_⟩,?_⟩
  ·exact RepC.keep (J:=J1 o1) (fun k d=>mono k (B.ext.jsub _ k d)) (fun _ _=>rfl) hA
  ·have:=RepCs.keep (J':=J2 (o1||o2)) (w':=w) (fun k d=>mono' k d) (fun _ _=>rfl) (rd':=fun j=>us[j]?) (fun _=>rfl) hB
   rw[Ck]at this ⊢
   intro j x G
   have C:=this j x G
   simp only[A89]at C
   rw[show 1+j=j+1 by omega]
   simpa using C
def YR{v:AV}{f:LA}{ups:F2}{org:Bool}{vc:Value}(S:SimH J β h w)(m:LooksS g h)(e:IH g v=some (f,ups,org))(k:Rep J β h w v vc):
  ∃ J',Step J β h w J' β (An ups h) w/\RepCs (J' org) w f (fun j=>vc.cells.toList[j]?) 0/\f.length=vc.cells.toList.length/\LooksS g (An ups h):=by
 unfold IH at e
 split at e
 ·rename_i c org'
  simp at e;obtain⟨rfl,rfl,rfl⟩:=e
  rw[Rep]at k
  obtain⟨cs,rfl,s,l⟩:=k
  exact⟨J,Step.refl S,l,by simp[Value.cells,s],m⟩
 ·rename_i c
  rw[Rep]at k
  obtain⟨cs,rfl,l⟩:=k
  exact Wb S m e l
 ·rename_i v s l
  obtain⟨J',A,hA,d,n⟩:=Wb (cs:=[vc]) S m e (by rw[Reps];exact⟨vc,[],rfl,k,by rw[Reps]⟩)
  have B:vc.oneCell'=true:=by
   have q:f.length=1:=d
   cases t:f with
   |nil=>simp[t]at q
   |cons x r =>
    obtain⟨u,y,hr⟩:=hA.at (j:=0) (x:=x) (by simp[t])
    simp at y;subst y
    exact mP hr
  have z:vc.cells=#[vc]:=by cases vc<;>simp_all[Value.cells,Value.oneCell']
  rw[z]
  exact⟨J',A,hA,d,n⟩
end
end Gx
namespace Gx
open Go
def Dl:∀(ups:F2)(h:A9)(b:Nat),Bj ups b=false->Ao (An ups h) b=Ao h b
|[],_,_,_=>rfl
| (i,some x)::r,h,b,hi=>by
  rw[Bj]at hi
  cases d:beq i b with
  |true=>rw[d]at hi;simp at hi
  |false =>
   rw[d]at hi
   rw[An,Dl r _ b hi,Ah,if_neg (fun e=>EY d e.symm)]
| (i,none)::r,h,b,hi=>by
  rw[Bj]at hi
  cases d:beq i b with
  |true=>rw[d]at hi;simp at hi
  |false =>
   rw[d]at hi
   rw[An,Dl r _ b hi]
   split
   ·rw[Ah,if_neg (fun e=>EY d e.symm)]
   ·rfl
def IY{c vs:LA}{off:Nat}(f:off+vs.length<=c.length)(j:Nat):(C3 c off vs)[j]?=if off<=j/\j<off+vs.length then vs[j - off]? else c[j]?:=by
 unfold C3
 rw[A9l,A92]
 simp only[Bar,Bbh (show off<=c.length by omega)]
 by_cases d:j<off
 ·rw[if_pos d,if_neg (by omega),Bay,if_pos d]
 ·rw[if_neg d,A92]
  by_cases e:j - off<vs.length
  ·rw[if_pos e,if_pos (by omega)]
  ·rw[if_neg e,if_neg (by omega),Bal];congr 1;omega
def Tm{c vs:LA}{off:Nat}(d:off+vs.length<=c.length):(C3 c off vs).length=c.length:=by unfold C3;simp;omega
def VA{c vs:LA}{off:Nat}(d:off+vs.length<=c.length)(j:Nat):(setCells c off vs)[j]?=if off<=j/\j<off+vs.length then vs[j - off]? else c[j]?:=by
 unfold setCells
 split
 ·rename_i y
  simp at d
  rw[List.getElem?_set]
  by_cases e:off=j
  ·subst e;simp;omega
  ·rw[if_neg e,if_neg (by simp;omega)]
 ·exact IY d j
def T4{c vs:LA}{off:Nat}(d:off+vs.length<=c.length):(setCells c off vs).length=c.length:=by
 unfold setCells
 split
 ·simp
 ·exact Tm d
section
variable{R:Type}{r:R}{P:Program}{J J':Bool->Nat->Prop}{β:De}{h:A9}{w w':World}{g:Bp}
def R2{v:AV}{vc:Value}(hs:QZ g v=true)(d:Rep J β h w v vc):vc.oneCell'=true:=by
 cases v<;>simp[QZ]at hs
 case own=>rw[Rep]at d;obtain⟨x,A,cap,_,rfl,_⟩:=d;rfl
 case optr=>rw[Rep]at d;obtain⟨x,k,o,_,rfl,_⟩:=d;rfl
 case fn=>rw[Rep]at d;obtain⟨cs,rfl,_⟩:=d;rfl
 case imm=>rw[Rep,RepC]at d;obtain⟨_,A,cap,rfl,_⟩:=d;rfl
 case iptr=>rw[Rep,RepC]at d;obtain⟨a,rfl,_⟩:=d;rfl
 all_goals (rw[Rep]at d;subst d;rfl)
def F':∀{c:LA},Rx g c=true->∀(j:Nat)(x:AV),c[j]?=some x->QZ g x=true
|[],_,j,x,d=>by simp at d
|v::r,hs,j,x,d=>by
  rw[Rx]at hs;simp at hs
  cases j with
  |zero=>simp at d;subst d;exact hs.1
  |succ j=>exact F' hs.2 j x (by simpa using d)
def Arg{k:Nat}{cs d:Array Value}{ty:TypeId}{fr:Nat×Nat}(O:OnlyBlk w w' k cs d ty fr):∀ j,Bl w j<=Bl w' j:=fun j=>by
 by_cases e:j=k
 ·subst e;rw[G2 O.old,G2 O.new,O.sz];exact A86 _
 ·simp[Bl,O.other j e]
def bS{t:TypeId}{k o:Nat}{vc:Value}{cs:Array Value}{ty:TypeId}{fr:Nat×Nat}(f:w.heap[k]?=some (.cells cs ty fr))(l:FrOk cs.size fr)
  (hs:B9 P t=some vc.cells.toList.length) (m:o+vc.cells.toList.length<=cs.size) (n:∀ u∈vc.cells.toList,u.oneCell'=true) :
  (Instr.storeAt t (.pointer (some ⟨k,o,none⟩)) vc).run P w=.ok () (w.setCells k o vc.cells.toList):=by
 have d:=run_storeCells_cells (P:=P) k o vc.cells.toList 0 w (fun j q=>by
   rw[Ban,Tl f];simp;omega)
  (fun j q=>by
   rw[Ban];simp only[World.frozen?,f]
   have:=l.at (o+j) (by omega)
   cases fr;simp at this ⊢;omega) n
 simp only[Ban]at d
 have e:=Dr hs w
 simp only[Bbw]at e
 simp[Instr.storeAt,Instr.sureAddr,storeVar,e,d]
def Ah4{t:TypeId}{p v:AV}{vp vv:Value}{k:AV->F2->O R}(S:SimH J β h w)(hl:Looks g h)(M:qd P g t p v k=some r)(hp:Rep J β h w p vp)(hv:Rep J β h w v vv):
  ∃ val ups,k val ups=some r/\∃ J' β' w',(Instr.storeAt t vp vv).run P w=.ok () w'/\Step J β h w J' β' (An ups h) w'/\val=.undef:=by
 unfold qd at M
 split at M
 ·rename_i b off
  obtain⟨x,hx,h1⟩:=ub M
  obtain⟨n,hn,h2⟩:=ub h1
  obtain⟨hs,X⟩:=Are h2
  obtain⟨hb,Y⟩:=Ev hl hx
  have z:=A2h hb hp
  cases T:x.pure with
  | true =>
   rw[T]at X
   obtain⟨⟨c',u1,org⟩,hq,h4⟩:=ub X
   obtain⟨l,h5⟩:=uc h4
   simp at l
   obtain⟨C,D,U⟩:=l
   obtain⟨J1,A,hA,m,_⟩:=YR S hl.s hq hv
   have hb1:Ao (An u1 h) b=some x:=by rw[Dl _ _ _ U];exact hb
   obtain⟨kk,o,cs,ty,fr,hβ,rfl,f,hf,hle,hcr,_,_⟩:=Ah0 A.sim hb1 Y (Rep.ext A.ext hp)
   obtain⟨G,O,hO⟩:=OnlyBlk.setCells (k:=kk) vv.cells.toList (o+off) w cs f
   have I:off+c'.length<=x.cells.length:=by omega
   have hone:=RepCs.one hA m.symm
   have B:=Step.set (x':={ x with pure:=true,cells:=setCells x.cells off c',taint:=x.taint||org }) A.sim hb1 Y hs hβ O Y hs rfl (T4 I) (by
    refine⟨fun _=>?_,fun M=>by simp at M⟩
    have hold:=hcr.1 T
    rw[Ck]
    intro j y d
    simp only[VA I]at d
    simp only[A89]
    have mono:∀{a b:Bool}(k:Nat),J1 a k->J1 (a||b) k:=fun{a b} k f=>by
     cases a
     ·cases b
      ·exact f
      ·exact A.sim.jft k f
     ·exact f
    split at d
    ·rename_i hj'
     obtain⟨u,L,hr⟩:=hA.at d
     refine⟨u,?_,RepC.keep (J:=J1 org) (fun k f=>by rw[Bc6];exact mono k f) (fun _ _=>rfl) hr⟩
     rw[hO,if_pos (by omega),<-L];congr 1;omega
    ·rename_i hj'
     obtain⟨u,L,hr⟩:=hold.at d
     refine⟨u,?_,RepC.keep (J:=J1 x.taint) (fun k f=>mono k f) (fun _ _=>rfl) hr⟩
     rw[hO,if_neg (by omega)];exact L)
   refine⟨_,_,h5,J1,β,_,bS f hf.1 (by rw[<-m,C];exact hn) (by omega) hone,?_,rfl⟩
   rw[Dk]
   exact A.trans (B z) (fun _ k _ _=>Arg O k)
  | false =>
   rw[T]at X
   obtain⟨kk,o,cs,ty,fr,hβ,rfl,f,hf,hle,hcr,_,_⟩:=Ah0 S hb Y hp
   have go:∀(c:LA)(cells':LA),(∀(j:Nat)(y:AV),c[j]?=some y->∃ u,vv.cells.toList[j]?=some u/\Rep J β h w y u/\u.oneCell'=true)->c.length=vv.cells.toList.length->c.length=n->off+c.length<=x.cells.length ->
     cells'.length=x.cells.length->(∀ j:Nat,cells'[j]?=if off<=j/\j<off+c.length then c[j - off]? else x.cells[j]?) ->
     ∃ J' β' w',(Instr.storeAt t (.pointer (some ⟨kk,o+off,none⟩)) vv).run P w=.ok () w'/\Step J β h w J' β' (An [(b,some {x with pure:=false,cells:=cells'})] h) w':=by
    intro c cells' l m hcn hoff hcl hget'
    obtain⟨G,O,hO⟩:=OnlyBlk.setCells (k:=kk) vv.cells.toList (o+off) w cs f
    have B:=Step.set (x':={ x with pure:=false,cells:=cells' }) S hb Y hs hβ O Y hs rfl hcl (by
     refine⟨fun M=>by simp at M,fun _ j y d=>?_⟩
     simp only[hget']at d
     split at d
     ·rename_i hj'
      obtain⟨u,L,hr,ho⟩:=l _ _ d
      refine⟨u,?_,hr,ho⟩
      show G[o+j]?=some u
      rw[hO,if_pos (by omega),<-L];congr 1;omega
     ·rename_i hj'
      obtain⟨u,L,hr⟩:=hcr.2 T j y d
      refine⟨u,?_,hr⟩
      show G[o+j]?=some u
      rw[hO,if_neg (by omega)];exact L)
    refine⟨J,β,_,bS f hf.1 (by rw[hn,<-hcn,m]) (by omega) (fun u L=>?_),B z⟩
    obtain⟨j,d,rfl⟩:=A9n L
    obtain⟨u',hu',_,ho⟩:=l j c[j] (A84 (by omega))
    rw[A84 d]at hu';simp only[Bbe]at hu';rw[hu'];exact ho
   simp only[cond_false]at X
   split at X
   ·rename_i c
    obtain⟨l,h5⟩:=uc X
    simp at l
    obtain⟨C,D,U⟩:=l
    rw[Rep]at hv
    obtain⟨us,rfl,e⟩:=hv
    rw[Db]at e
    obtain⟨J',β',w',g1,g2⟩:=go c (C3 x.cells off c) (fun j y d=>by
      have V:j<us.length:=by rw[e.1];exact(A9h.1 d).1
      refine⟨us[j],by simp[Value.cells,A84 V],e.2 j y _ d (A84 V),R2 (F' C j y d) (e.2 j y _ d (A84 V))⟩)
     (by simp[Value.cells,e.1]) D (by omega) (Tm (by omega)) (IY (by omega))
    exact⟨_,_,h5,J',β',w',g1,g2,rfl⟩
   ·rename_i c org
    obtain⟨l,h5⟩:=uc X
    simp at l
    obtain⟨rfl,D,U⟩:=l
    rw[Rep]at hv
    obtain⟨us,rfl,e,hrc⟩:=hv
    obtain⟨G,O,hO⟩:=OnlyBlk.setCells (k:=kk) us (o+0) w cs f
    have B:=Step.set (x':={ x with pure:=true,taint:=org,cells:=c }) S hb Y hs hβ O Y hs rfl (by simp;omega) (by
     refine⟨fun _=>?_,fun M=>by simp at M⟩
     rw[Ck]
     intro j y d
     obtain⟨u,L,hr⟩:=hrc.at d
     have V:j<us.length:=by rw[e];exact(A9h.1 d).1
     refine⟨u,?_,hr⟩
     show G[o+(0+j)]?=some u
     rw[hO,if_pos (by omega),<-L];congr 1;omega)
    exact⟨_,_,h5,J,β,_,bS (vc:=.agg ⟨us⟩) f hf.1 (by simp[Value.cells];rw[e,D];exact hn) (by simp[Value.cells];omega) (by simpa[Value.cells]using RepCs.one hrc e),B z,rfl⟩
   ·rename_i hna
    obtain⟨l,h5⟩:=uc X
    simp at l
    obtain⟨C,D,U⟩:=l
    have ho:=R2 C hv
    have q:vv.cells=#[vv]:=by cases vv<;>simp_all[Value.cells,Value.oneCell']
    obtain⟨J',β',w',g1,g2⟩:=go [v] (x.cells.set off v) (fun j y d=>by
      cases j with
      |zero=>simp at d;subst d;exact⟨vv,by simp[q],hv,ho⟩
      |succ j=>simp at d) (by simp[q]) (by simp;omega) (by simp;omega) (by simp) (fun j=>by
      have:=VA (c:=x.cells) (vs:=[v]) (off:=off) (by simp;omega) j
      simpa[setCells] using this)
    exact⟨_,_,h5,J',β',w',g1,g2,rfl⟩
 ·simp at M
end
end Gx
namespace Gx
open Go
section
variable{R:Type}{r:R}{P:Program}{J J':Bool->Nat->Prop}{β:De}{h:A9}{w w':World}{g:Bp}
def Afw{v v':AV}{ups:F2}{org:Bool}(d:jP g v=some (v',ups,org))(b:Nat)(j:Bj ups b=true):∃ x,g b=some x:=by
 unfold jP at d
 split at d
 ·rename_i k off n
  obtain⟨x,hx,m⟩:=ub d
  obtain⟨q,l⟩:=uc m
  simp at l
  obtain⟨rfl,rfl,rfl⟩:=l
  unfold Ii at hx
  obtain⟨x0,f,hx⟩:=ub hx
  have:k=b:=by
   cases e:beq k b with
   |true=>exact A9d e
   |false=>simp[Bj,e]at j
  subst this;exact⟨x0,f⟩
 all_goals first
  |(simp at d;done)
  |(simp at d;obtain⟨rfl,rfl,rfl⟩:=d;simp[Bj]at j)
def Ks:∀(a b:F2)(c:Nat),Bj (a++b) c=(Bj a c||Bj b c)
|[],_,_=>by simp[Bj]
|(i,_)::r,b,c=>by
  rw[A9k,Bj,Bj,Ks r b c]
  cases beq i c<;>simp
def IZ:∀{c f:LA}{ups:F2}{org:Bool},IS g c=some (f,ups,org)->∀ b,Bj ups b=true->∃ x,g b=some x
|[],f,ups,org,d,b,e=>by simp[IS]at d;obtain⟨rfl,rfl,rfl⟩:=d;simp[Bj]at e
|v::r,f,ups,org,d,b,e=>by
  rw[IS]at d
  obtain⟨⟨v1,u1,o1⟩,l,m⟩:=ub d
  obtain⟨⟨n,u2,o2⟩,hq,j⟩:=ub m
  simp at j
  obtain⟨rfl,rfl,rfl⟩:=j
  rw[Ks]at e
  cases k:Bj u1 b with
  |true=>exact Afw l b k
  |false=>rw[k]at e;exact IZ hq b (by simpa using e)
def Ada{v:AV}{f:LA}{ups:F2}{org:Bool}(d:IH g v=some (f,ups,org))(b:Nat)(e:Bj ups b=true):∃ x,g b=some x:=by
 unfold IH at d
 split at d
 ·simp at d;obtain⟨rfl,rfl,rfl⟩:=d;simp[Bj]at e
 ·exact IZ d b e
 ·exact IZ d b e
def Auu{ups:F2}{d:Nat}(e:Looks g h)(f:∀ b,Bj ups b=true->∃ x,g b=some x)(hn:Ao h (nid d)=none):Ao (An ups h) (nid d)=none:=by
 rw[Dl]
 ·exact hn
 ·cases j:Bj ups (nid d)with
  |false=>rfl
  |true =>
   obtain⟨x,hx⟩:=f _ j
   rw[e _ _ hx]at hn;cases hn
def OpDone(J:Bool->Nat->Prop)(β:De)(h:A9)(w:World)(ups:F2)(val:AV)(vc:Value)(w':World):Prop:=∃ J' β',Step J β h w J' β' (An ups h) w'/\Rep J' β' (An ups h) w' val vc
def UpsFree(d:Nat)(h:A9)(ups:F2):Prop:=∀ b,Bj ups b=true->RA d b=true->Ao h b=none
def UpsFree.nid {d:Nat} {h:A9} {ups:F2} (e:UpsFree d h ups) (hi:Bj ups (nid d)=true):Ao h (nid d)=none:=e _ hi (by
 have f:ble (Gx.nid d) (Gx.nid d)=true:=by simp
 have j:Nat.blt (Gx.nid d) (Gx.nid d+16)=true:=by simp
 rw[RA,f,j];rfl)
def gE{d:Nat}{x:Blk}{cs:Array Value}{ty:TypeId}(S:SimH J β h w)(hn:Ao h (nid d)=none)(k:x.dead=false)(hs:x.sealed=false)(e:x.cells.length<=cs.size)(l:CellsRep J β h w x (fun j=>cs[j]?))(f:x.mp=false:=by rfl)(hty:TyOk x.ty ty 0 cs.size:=by exact TyOk.none):
  OpDone J β h w [(nid d,some x)] (.optr (nid d) 0) (.pointer (some ⟨w.heap.size,0,none⟩)) (w.alloc (.cells cs ty)):=by
 have A:=Step.new (ty:=ty) (fr:=(0,0)) S hn k hs ⟨.inl rfl,hty⟩ e l f
 refine⟨_,_,A,?_⟩
 rw[Rep]
 exact⟨x,w.heap.size,0,⟨by simp[An,Ah],f⟩,rfl,.inr (by simp)⟩
def OpDone.after{ups ups':F2}{val:AV}{vc:Value}{J1:Bool->Nat->Prop}{β1:De}{d:World}(A:Step J β h w J1 β1 (An ups h) d)(B:OpDone J1 β1 (An ups h) d ups' val vc w')
  (hs:∀ k,Bl w k<=Bl w' k):OpDone J β h w (ups++ups') val vc w':=by
 obtain⟨J2,β2,B1,B2⟩:=B
 exact⟨J2,β2,by rw[Dk];exact A.trans B1 (fun _ k _ _=>hs k),by rw[Dk];exact B2⟩
def Uw(w:World)(o:Obj):∀ k,Bl w k<=Bl (w.alloc o) k:=fun k=>by
 by_cases d:k<w.heap.size
 ·simp[Bl,Fa w _ d]
 ·simp[Bl,Bax (Bbz d)]
def VB{t:TypeId}{vc:Value}:(Instr.box t vc).run P w=.ok (.pointer (some ⟨w.heap.size,0,none⟩)) (w.alloc (.cells vc.cells t)):=by simp[Instr.box,newVar,newRow]
def tC{c:LA}{org:Bool}{cs:List Value}(y:RepCs (J org) w c (fun j=>cs[j]?) 0):∀{L:List (Nat×TypeId)}{e:LA}{k:LA->O R},mH P c org L e k=some r ->
  (∀(j:Nat) x,e[j]?=some x->∃ u,cs[j]?=some u/\Rep J β h w x u)->∃ l:LA,k l=some r/\∀(j:Nat) x,l[j]?=some x->∃ u,cs[j]?=some u/\Rep J β h w x u
|[],e,k,m,n=>⟨e,m,n⟩
| (off,t)::L,e,k,m,n=>by
  rw[mH]at m
  obtain⟨h0,B⟩:=uc m
  simp at h0
  obtain⟨v,C,D⟩:=BY (β:=β) (h:=h) B (y.drop off)
  refine tC y C (fun j x f=>?_)
  rw[A92]at f
  split at f
  ·exact n j x f
  ·have q:j=e.length:=by
    have:=(A9h.1 f).1
    simp at this;omega
   subst q
   simp at f;subst f
   rcases D with⟨d,z,F,u,A,G⟩|⟨d,z,F,_⟩
   ·refine⟨u,?_,G⟩
    rw[h0.1]at A;simpa using A
   ·exfalso
    have s:=h0.2
    unfold Ay4 at s
    rw[z]at s
    split at s<;>simp_all[TypeDesc.isRow]
def Ah5{co:Bool}{t:TypeId}{v:AV}{vv:Value}{k:AV->O R}(e:qf P co t v k=some r)(f:Rep J β h w v vv):∃ v',k v'=some r/\Rep J β h w v' vv:=by
 unfold qf at e
 split at e
 ·rename_i c org
  rw[Rep]at f
  obtain⟨cs,rfl,B,m⟩:=f
  obtain⟨l,n,q⟩:=tC (β:=β) (h:=h) m e (fun j x s=>by simp at s)
  obtain⟨y,z⟩:=uc n
  simp at y
  refine⟨_,z,?_⟩
  rw[Rep]
  refine⟨cs,rfl,Db.2 ⟨by omega,fun j x u hx A=>?_⟩⟩
  obtain⟨C,d,hr⟩:=q j x hx
  rw[A]at d;simp at d;subst d;exact hr
 ·exact⟨_,e,f⟩
def Awl{t q m:Nat}(h:Aho P t=some (q,m)):t=q/\B9 P t=some m:=by
 have key:∀{o:Option Nat},o=B9 P t->(o.map fun n=>(t,n))=some (q,m)->t=q/\B9 P t=some m:=by
  intro o d h
  cases o with
  |none=>simp at h
  |some n=>simp at h;exact⟨h.1,by rw[<-d,h.2]⟩
 unfold Aho at h
 split at h
 ·obtain⟨f,_,h⟩:=ub h
  split at h
  ·obtain⟨_,h⟩:=uc h;exact key rfl h
  ·obtain⟨g,_,h⟩:=ub h
   split at h
   ·obtain⟨_,h⟩:=uc h;exact key rfl h
   ·cases h
  ·cases h
 ·cases h
def xX{d:Nat}{t:TypeId}{v:AV}{vv:Value}{k:AV->F2->O R}(S:SimH J β h w)(I:Looks g h)(l:Alu P g d t v k=some r)(z:Rep J β h w v vv):
  ∃ val ups,k val ups=some r/\(UpsFree d h ups->∃ vc w',(Instr.box t vv).run P w=.ok vc w'/\OpDone J β h w ups val vc w'):=by
 unfold Alu at l
 split at l
 ·rename_i c org
  refine⟨_,_,l,fun hn=>⟨_,_,VB,?_⟩⟩
  replace hn:=hn.nid (by simp[V9,Bj])
  rw[Rep]at z
  obtain⟨cs,rfl,G,n⟩:=z
  exact gE S hn rfl rfl (by simp[Value.cells,G]) ⟨fun _=>by simpa[Value.cells]using n,fun u=>by simp at u⟩
 ·rename_i c
  cases u:Auk P t with
  | true =>
   rw[u]at l
   obtain⟨f,l⟩:=uc l
   simp only[A81]at f
   obtain⟨f,x⟩:=f
   have x:=A9d x
   refine⟨_,_,l,fun hn=>⟨_,_,VB,?_⟩⟩
   replace hn:=hn.nid (by simp[Bj])
   rw[Rep]at z
   obtain⟨cs,rfl,n⟩:=z
   rw[Db]at n
   have hty:TyOk (Aho P t) t 0 (Value.agg ⟨cs⟩).cells.size:=fun q m hq=>by
    obtain⟨e1,L⟩:=Awl hq
    refine⟨e1,rfl,.inr ?_⟩
    rw[L]at x
    simp[Value.cells,n.1];simpa using x
   refine gE S hn rfl rfl (by simp[Value.cells,n.1]) ⟨fun u=>by simp at u,fun _ j y B=>?_⟩ rfl hty
   have C:j<cs.length:=by rw[n.1];exact(A9h.1 B).1
   exact⟨cs[j],by simp[Value.cells,C],n.2 j y _ B (A84 C),R2 (F' f j y B) (n.2 j y _ B (A84 C))⟩
  |false =>
   rw[u]at l
   obtain⟨⟨T,u1,o1⟩,hq,G⟩:=ub l
   refine⟨_,_,G,fun hn=>⟨_,_,VB,?_⟩⟩
   replace hn:=hn.nid (by simp[Ks,V9,Bj])
   rw[Rep]at z
   obtain⟨cs,rfl,n⟩:=z
   obtain⟨J1,A,hA,D,_⟩:=Wb S I.s hq n
   refine OpDone.after A (gE A.sim (Auu I (IZ hq) hn) rfl rfl (by simp[Value.cells,D]) ⟨fun _=>?_,fun u=>by simp at u⟩) (Uw _ _)
   simpa[Value.cells]using hA
 ·rename_i v G n
  obtain⟨f,l⟩:=uc l
  refine⟨_,_,l,fun hn=>⟨_,_,VB,?_⟩⟩
  replace hn:=hn.nid (by simp[V9,Bj])
  have M:=R2 f z
  have e:vv.cells=#[vv]:=by cases vv<;>simp_all[Value.cells,Value.oneCell']
  refine gE S hn rfl rfl (by simp[e]) ⟨fun u=>by simp at u,fun _ j y B=>?_⟩
  cases j with
  |zero=>simp at B;subst B;exact⟨vv,by simp[e],z,M⟩
  |succ j=>simp at B
end
end Gx
namespace Gx
open Go
def Ah6(z:LA):∀(l j:Nat),j<l*z.length->(G1 l z)[j]?=z[j%z.length]?:=by
 have flat:∀(l j:Nat),j<l*z.length->((replicate l z).flatten)[j]?=z[j%z.length]?:=by
  intro l
  induction l with
  |zero=>intro j d;simp at d
  | succ l f =>
   intro j d
   rw[Bb7,List.flatten_cons,A92]
   by_cases e:j<z.length
   ·rw[if_pos e,Ba4 e]
   ·rw[if_neg e,f _ (by rw[Bdy]at d;omega)]
    rw[Nat.mod_eq_sub_mod (a:=j) (by omega)]
 intro l j d
 unfold G1
 split
 ·rename_i v
  simp at d
  simp[d,Nat.mod_one]
 ·exact flat l j d
def Ij(l:Nat)(z:LA):(G1 l z).length=l*z.length:=by
 unfold G1
 split
 ·simp
 ·simp
section
variable{R:Type}{r:R}{P:Program}{J J':Bool->Nat->Prop}{β:De}{h:A9}{w w':World}{g:Bp}
def VC{J:Nat->Prop}:∀{cs:List Value},A0 (Oj cs)=true->∀(j:Nat)(u:Value),cs[j]?=some u->∃ x,(Oj cs)[j]?=some x/\RepC J w x u
|[],_,j,u,d=>by simp at d
| v::r,e,j,u,d=>by
  have key:∃ x,qZ v=x/\A0 (Oj r)=true/\RepC J w x v:=by
   rw[Oj]at e
   have hr:=UZ (J:=fun _=>J) (β:=fun _=>none) (h:=[]) (w:=w) v
   cases hx:qZ v<;>rw[hx]at e hr<;>simp[A0]at e<;>refine⟨_,rfl,e,?_⟩<;>(rw[Rep]at hr;rw[RepC];exact hr)
  obtain⟨x,hx,f,hr⟩:=key
  cases j with
  |zero=>simp at d;subst d;exact⟨x,by simp[Oj,hx],hr⟩
  |succ j =>
   obtain⟨y,k,l⟩:=VC (J:=J) (cs:=r) f j u (by simpa using d)
   exact⟨y,by simpa[Oj]using k,l⟩
def BZ:∀ cs:List Value,(Oj cs).length=cs.length
|[]=>rfl
|v::r=>by simp[Oj,BZ r]
def Ux{t:TypeId}{z:LA}(e:jM P t=some z):∃ i v,P.info? t=some i/\i.zero=some v/\z=Oj v.cells.toList/\A0 z=true/\v.cells.size=i.size/\z.length=i.size:=by
 unfold jM at e
 obtain⟨i,hi,j⟩:=ub e
 obtain⟨v,k,l⟩:=ub j
 obtain⟨d,f⟩:=uc l
 simp at f d
 subst f
 exact⟨i,v,hi,k,rfl,d.1,by simpa using d.2,by rw[BZ];simpa using d.2⟩
def VD{J:Nat->Prop}{v:Value}(s:A0 (Oj v.cells.toList)=true)(l n:Nat)(u:l*v.cells.size<=n):
  RepCs J w (G1 l (Oj v.cells.toList)) (fun j=>(madeCells v.cells n)[j]?) 0:=by
 rw[Ck]
 intro j x k
 have e:(Oj v.cells.toList).length=v.cells.size:=by rw[BZ];simp
 have d:j<l*(Oj v.cells.toList).length:=by
  have:=(A9h.1 k).1
  rwa [Ij]at this
 rw[Ah6 _ _ _ d]at k
 rw[e]at k d
 have f:0<v.cells.size:=by
  rcases Baz v.cells.size with h0|h0
  ·rw[h0]at d;simp at d
  ·exact h0
 have q:j%v.cells.size<v.cells.size:=Bdb _ f
 obtain⟨y,m,t⟩:=VC (w:=w) (J:=J) s (j%v.cells.size) v.cells[j%v.cells.size] (by simp[q])
 rw[k]at m;simp at m;subst m
 refine⟨_,?_,t⟩
 have:j<n:=by omega
 simp[madeCells,this,getElem!_pos,q]
def mQ{d n cap sz:Nat}{x:Blk}{cs:Array Value}{ty:TypeId}{fr:Nat×Nat}(S:SimH J β h w)(hn:Ao h (nid d)=none)(t:x.dead=false)(hs:x.sealed=false)(q:x.sz=sz)
  (m:FrTy x.ty ty 0 cs.size fr) (e:x.cells.length=n*sz) (s:cap*sz<=cs.size) (f:n<=cap) (u:CellsRep J β h w x (fun j=>cs[j]?)) (k:x.mp=false:=by rfl) :
  OpDone J β h w [(nid d,some x)] (.own (nid d) 0 n) (.slice (some ⟨w.heap.size,0,none⟩) n cap) (w.alloc (.cells cs ty fr)):=by
 have v:n*sz<=cap*sz:=A9y _ f
 have A:=Step.new (ty:=ty) (fr:=fr) S hn t hs m (by omega) u k
 refine⟨_,_,A,?_⟩
 rw[Rep]
 refine⟨x,_,cap,⟨by simp[An,Ah],k⟩,rfl,f,.inr ⟨w.heap.size,0,rfl,.inr ⟨by simp,?_,by rw[q,e];omega⟩⟩⟩
 have l:(w.alloc (.cells cs ty fr)).heap[w.heap.size]?=some (.cells cs ty fr):=by show(w.heap.push _)[_]?=_;simp
 rw[G2 l,q];omega
def Al2{d:Nat}{t:TypeId}{l c:AV}{vl vc:Value}{k:AV->F2->O R}(S:SimH J β h w)(f:Afn P d t l c k=some r)(q:Rep J β h w l vl)(s:Rep J β h w c vc):
  ∃ val ups,k val ups=some r/\(UpsFree d h ups->∃ u w',(Instr.makeSlice t vl vc).run P w=.ok u w'/\OpDone J β h w ups val u w'):=by
 unfold Afn at f
 split at f
 ·rename_i y l c A
  obtain⟨sz,hs,B⟩:=ub f
  obtain⟨by_,x,C⟩:=ub B
  obtain⟨z,D,F⟩:=ub C
  obtain⟨hq,G⟩:=uc F
  simp at hq
  obtain⟨I,L,U,V⟩:=hq
  rw[Rep]at q s;subst q s
  obtain⟨i,v,hi,M,rfl,j,e1,T⟩:=Ux D
  have e:i.size=sz:=by simp[B9,hi]at hs;exact hs
  have m:i.bytes=by_:=by simp[Ahl,hi]at x;exact x
  have n:Bj (V9 d true false sz (G1 l.toNat (Oj v.cells.toList))) (nid d)=true:=by simp[V9,Bj]
  refine⟨_,_,G,fun hn=>⟨_,_,run_make w t y i v A hi M _ _ l c I L (by rw[m,Int.mul_comm];omega) (by omega),?_⟩⟩
  refine mQ (sz:=sz) S (hn.nid n) rfl rfl rfl FrTy.un0 ?_ (by rw[size_madeCells,e];exact A86 _) (by omega) ⟨fun _=>?_,fun j=>by simp at j⟩
  ·show(G1 l.toNat (Oj v.cells.toList)).length=_
   rw[Ij,T,e]
  ·exact VD j _ _ (by rw[e1];exact A9y _ (by omega))
 ·simp at f
def Yield.src{sz n:Nat}{tx:TypeId}{vx:Value}{us:List Value}(Y:Yield P w sz vx n us)(d:Ahs P tx=true)(j:∀ u∈us,u.oneCell'=true):Src P sz tx vx n us w:=by
 refine⟨?_,Y.len,?_,?_,Y.length,j⟩
 ·unfold Ahs at d
  split at d
  ·rename_i e f;exact .inl ⟨e,f⟩
  ·rename_i f;exact .inr f
  ·simp at d
 ·have:=Y.cells w n (fun _=>rfl) (A86 _)
  rwa [<-Y.length,Bas]at this
 ·have:=Y.cells w.drew n (fun _=>rfl) (A86 _)
  rwa [<-Y.length,Bas]at this
def Ah7{J:Nat->Prop}{a b:LA}{us vs:List Value}(k:RepCs J w a (fun j=>us[j]?) 0)(l:RepCs J w b (fun j=>vs[j]?) 0)(m:a.length=us.length)(tail:List Value):
  RepCs J w (a++b) (fun j=>(us++vs++tail)[j]?) 0:=by
 rw[Ck]
 intro j x d
 rw[A92]at d
 simp only[A89]
 by_cases f:j<a.length
 ·rw[if_pos f]at d
  obtain⟨u,e,hr⟩:=k.at d
  refine⟨u,?_,hr⟩
  rw[A9l,A92,if_pos (by omega)];exact e
 ·rw[if_neg f]at d
  obtain⟨u,e,hr⟩:=l.at d
  refine⟨u,?_,hr⟩
  have n:j - a.length<vs.length:=(A9h.1 e).1
  rw[A9l,A92,if_neg (by omega),A92,if_pos (by omega),<-m];exact e
def VE(w:World)(k:Nat):Bl w.drew k=Bl w k:=rfl
def xY{d sz n1 n2 cap0:Nat}{t tx ty e:TypeId}{i:TypeInfo}{z vx:Value}{A:Option Addr}{olds news:List Value}{c1 f:LA}{o:Bool}(S:SimH J β h w)(hn:Ao h (nid d)=none)
  (I:P.underlying t=some (.slice e)) (hi:P.info? e=some i) (L:i.zero=some z) (B:i.size=sz) (C:z.cells.size=sz)
  (l:∀ w':World,(∀ a,w'.cell? a=w.cell? a)->(Builtin.firstCells sz n1 (.slice A n1 cap0)).run P w'=.ok olds.toArray w') (s:olds.length=n1*sz)
  (Y:Yield P w sz vx n2 news) (M:Ahs P tx=true) (T:∀ u∈news,u.oneCell'=true)
  (U:RepCs (J o) w c1 (fun j=>olds[j]?) 0) (v:c1.length=olds.length) (V:RepCs (J o) w f (fun j=>news[j]?) 0) (D:f.length=news.length)
  (G:cap0<n1+n2) (hb1:n1+n2<=140737488355328) (F:(n1+n2)*i.bytes<=140737488355328) {X:Option (Nat×Nat)} (hX:∀ q,X=some q->q=(e,0)) :
  ∃ u w',(Builtin.append_ #[t,tx] ty #[.slice A n1 cap0,vx]).run P w=.ok u w' /\
   OpDone J β h w [(nid d,some {dead:=false,sealed:=false,pure:=true,taint:=o,sz:=sz,cells:=c1++f,ty:=X})] (.own (nid d) 0 (n1+n2)) u w'/\(∀ k,Bl w k<=Bl w' k):=by
 subst B
 have run:=run_append_grow_src (P:=P) w t tx ty e i z I hi L A n1 cap0 olds (l w.drew (fun _=>rfl)) vx n2 news (Y.src M T) G (by omega) (growslice_fits G F)
 have y:n1+n2<=grownCap w (n1+n2) cap0 e:=by
  unfold grownCap;simp[Question.cut]
 refine⟨_,_,run,?_,?_⟩
 ·obtain⟨J',β',B1,B2⟩:=mQ (d:=d) (n:=n1+n2) (cap:=grownCap w (n1+n2) cap0 e) (sz:=i.size) (ty:=e) (fr:=(0,0)) (x:={dead:=false,sealed:=false,pure:=true,taint:=o,sz:=i.size,cells:=c1++f,ty:=X})
   (cs:=(olds++news).toArray++Builtin.zeroCells z.cells (grownCap w (n1+n2) cap0 e - (n1+n2))) (Step.drew S).sim hn rfl rfl rfl ⟨.inl rfl,fun t m hm=>by have:=hX _ hm;simp at this;exact⟨this.1.symm,rfl,.inl this.2⟩⟩
   (by simp[v,D,s,Y.length,Ba0]) (by
    simp[Builtin.zeroCells,s,Y.length,C]
    rw[<-Ba0,<-Ba0];exact A9y _ (by omega)) y
   ⟨fun _=>by
    have:=Ah7 U V v (Builtin.zeroCells z.cells (grownCap w (n1+n2) cap0 e - (n1+n2))).toList
    show RepCs (J o) w.drew (c1++f) _ 0
    refine RepCs.keep (J:=J o) (w:=w) (w':=w.drew) (fun _ hj=>hj) (fun _ _=>rfl) (fun j=>?_) this
    rw[<-Bde]
    simp,fun hp=>by simp at hp⟩
  exact⟨J',β',(Step.drew S).trans B1 (fun _ k _ _=>by rw[<-VE];exact Uw _ _ k),B2⟩
 ·intro k;rw[<-VE];exact Uw _ _ k
def gF{J:Bool->Nat->Prop}(e:∀ k,J false k->J true k)(a b:Bool)(k:Nat)(d:J a k):J (a||b) k:=by
 cases a
 ·cases b
  ·exact d
  ·exact e k d
 ·exact d
def xZ{J:Bool->Nat->Prop}(d:∀ k,J false k->J true k)(a b:Bool)(k:Nat)(e:J b k):J (a||b) k:=by rw[Bc6];exact gF d b a k e
def Al3{d sz:Nat}{x:Blk}{A:Option Addr}(S:SimH J β h w)(hn:Ao h (nid d)=none)(f:x.cells=[])(e:x.mp=false:=by rfl):
  OpDone J β h w [(nid d,some x)] (.own (nid d) 0 0) (.slice A 0 0) w:=by
 refine⟨_,_,Step.newNone S hn f e,?_⟩
 rw[Rep]
 exact⟨x,A,0,⟨by simp[An,Ah],e⟩,rfl,A86 _,.inl rfl⟩
def Al4{g:Bp}{d tx:TypeId}{s:AV}{q:Nat×Nat}(h:sr P g d tx s=some q):q=(d,0):=by
 unfold sr at h
 split at h
 ·split at h
  ·simp at h;exact h.symm
  ·cases h
 ·obtain⟨x,_,h⟩:=ub h
  obtain⟨y,_,h⟩:=ub h
  obtain⟨_,h⟩:=uc h
  simp at h;exact h.symm
 ·cases h
def Azc{g:Bp}{f tx b off n o m:Nat}{ty:TypeId}{y:Blk}(j:Ii g b=some y)(l:TyOk y.ty ty o m):TyOk (sr P g f tx (.own b off n)) ty (o+off) m:=by
 intro t k h
 have e:=Al4 h
 simp at e;obtain⟨rfl,rfl⟩:=e
 unfold sr at h
 simp only[j,Bad]at h
 obtain⟨q,hq,h⟩:=ub h
 obtain⟨d,_⟩:=uc h
 simp only[A81]at d
 have c1:=A9d d.1
 have u:=A9d d.2.1
 have v:=A9d d.2.2
 obtain⟨s,x,_⟩:=l q.1 q.2 hq
 exact⟨by rw[s,c1],by omega,.inl rfl⟩
def Adb {d:Nat} {t tx ty:TypeId} {s x:AV} {vs vx:Value} {k:AV->F2->O R} (S:SimH J β h w) (hl:Looks g h) (hh:fv P g d t tx s x k=some r) (hs:Rep J β h w s vs) (hx:Rep J β h w x vx) :
  ∃ val ups,k val ups=some r/\(UpsFree d h ups->∃ u w',(Builtin.append_ #[t,tx] ty #[vs,vx]).run P w=.ok u w'/\OpDone J β h w ups val u w'):=by
 unfold fv at hh
 split at hh
 ·rename_i X hu
  obtain⟨ht,h0⟩:=uc hh
  obtain⟨sz,hsz,h1⟩:=ub h0
  obtain⟨by_,hby,h2⟩:=ub h1
  obtain⟨zz,hz,h3⟩:=ub h2
  obtain⟨old,l,h4⟩:=ub h3
  obtain⟨new,us,h5,Y,C,hur⟩:=U_ (P:=P) S hl h4 hx
  obtain⟨hq,h6⟩:=uc h5
  simp at hq
  obtain⟨q1,q2⟩:=hq
  obtain⟨i,z,hi,hiz,rfl,hp,e1,e2⟩:=Ux hz
  have f:i.size=sz:=by simp[B9,hi]at hsz;exact hsz
  have hb':i.bytes=by_:=by simp[Ahl,hi]at hby;exact hby
  have m:=RepCs.one hur C.symm
  have I:RepCs (J (old.2.2.1||new.2.2)) w new.1 (fun j=>us[j]?) 0:=RepCs.keep (J:=J new.2.2) (w:=w) (xZ S.jft _ _) (fun _ _=>rfl) (fun _=>rfl) hur
  refine⟨_,_,h6,fun hn=>?_⟩
  replace hn:=hn.nid (by simp[Ks,Bj])
  have hX:∀ q,sr P g X tx s=some q->q=(X,0):=fun q=>Al4
  have empty:∀(A:Option Addr),vs=.slice A 0 0->old.1=[]->old.2.1=0->old.2.2.2=[] ->
    ∃ u w',(Builtin.append_ #[t,tx] ty #[vs,vx]).run P w=.ok u w'/\OpDone J β h w (old.2.2.2++[(nid d,some {dead:=false,sealed:=false,pure:=true,taint:=old.2.2.1||new.2.2,sz,cells:=old.1++new.1,ty:=sr P g X tx s})]) (.own (nid d) 0 (old.2.1+new.2.1)) u w':=by
   intro A hA o1 o2 o3
   subst hA
   rw[o1,o2,o3]
   rcases Baz new.2.1 with h0|h0
   ·have hus:us=[]:=by have:=Y.length;rw[h0]at this;simpa using this
    subst hus
    have D:=Y.src ht m
    rw[h0]at D
    refine⟨_,_,run_append_nothing (P:=P) w t tx ty X i hu hi A 0 0 (A86 _) vx (by rw[f];exact D),?_⟩
    rw[h0]
    have hnc:new.1=[]:=by simpa using C
    exact Al3 (sz:=sz) S hn (by simp[hnc])
   ·obtain⟨u,w',U,g2,_⟩:=xY (ty:=ty) (c1:=[]) (olds:=[]) (n1:=0) (cap0:=0) (A:=A) S hn hu hi hiz f (by rw[e1,f]) (fun w' _=>by
      cases A with
      |none=>exact run_firstCells_none (P:=P) w' sz 0 0 0
      | some a=>exact run_firstCells_some (P:=P) w' sz 0 a 0 0 [] (by simp) (fun j v L=>by simp at L)) (by simp) Y ht m (by simp[RepCs]) rfl I C (by omega) (by rw[o2] at q1;omega) (by rw[o2,<-hb'] at q2;exact q2) hX
    exact⟨u,w',U,g2⟩
  unfold Auo at l
  split at l
  ·simp at l;subst l
   rw[Rep]at hs
   exact empty none hs rfl rfl rfl
  ·rename_i c n sz' org
   obtain⟨hz0,h7⟩:=uc l
   simp at hz0 h7;subst hz0;subst h7
   rw[Rep,RepC]at hs
   obtain⟨_,A,cap,L,_,V,_⟩:=hs
   have:=V rfl;subst this
   exact empty A L rfl rfl rfl
  ·rename_i b off n
   obtain⟨y,hy,h7⟩:=ub l
   obtain⟨hc,h8⟩:=uc h7
   simp at hc h8
   obtain⟨c1,c2,c3⟩:=hc
   subst h8;subst c3
   obtain⟨hb,hd⟩:=Ev hl hy
   simp only at *
   rw[Rep]at hs
   obtain⟨y',A,cap,⟨hy1,hmp⟩,rfl,V,hr⟩:=hs
   rw[hb]at hy1;simp at hy1;subst hy1
   have kill:=Step.kill (y:={y with dead:=true,pure:=true,cells:=[]}) S hb rfl
   have hkn:Ao (Ho h b {y with dead:=true,pure:=true,cells:=[]}) (nid d)=none:=by
    rw[Ah,if_neg (fun e=>by rw[<-e,hn]at hb;cases hb)];exact hn
   have F:An [(b,none)] h=Ho h b {y with dead:=true,pure:=true,cells:=[]}:=by simp[An,hb]
   by_cases hc0:cap=0
   ·have hn0:n=0:=by omega
    subst hc0;subst hn0
    have S':=kill.sim
    rcases Baz new.2.1 with h0|h0
    ·have hus:us=[]:=by have:=Y.length;rw[h0]at this;simpa using this
     subst hus
     have D:=Y.src ht m
     rw[h0]at D
     refine⟨_,_,run_append_nothing (P:=P) w t tx ty X i hu hi A 0 0 (A86 _) vx (by rw[f];exact D),?_⟩
     rw[h0]
     have hnc:new.1=[]:=by simpa using C
     refine OpDone.after (ups:=[(b,none)]) (by rw[F];exact kill) ?_ (fun _=>A86 _)
     rw[F]
     exact Al3 (sz:=y.sz) S' hkn (by simp[hnc])
    ·obtain⟨u,w',U,g2,g3⟩:=xY (ty:=ty) (c1:=[]) (olds:=[]) (n1:=0) (cap0:=0) (A:=A) S' hkn hu hi hiz f (by rw[e1,f]) (fun w' _=>by
       cases A with
       |none=>exact run_firstCells_none (P:=P) w' y.sz 0 0 0
       | some a=>exact run_firstCells_some (P:=P) w' y.sz 0 a 0 0 [] (by simp) (fun j v L=>by simp at L)) (by simp) Y ht m (by simp[RepCs]) rfl I C (by omega) (by omega) (by rw[<-hb'] at q2;exact q2) hX
     refine⟨u,w',U,OpDone.after (ups:=[(b,none)]) (by rw[F];exact kill) ?_ g3⟩
     rw[F];simpa[V9]using g2
   ·rcases hr with hr | ⟨kk,o,rfl,hr⟩
    ·exact absurd hr hc0
    ·rcases hr with hr|⟨r1,r2,r3⟩
     ·simp[hd]at hr
     ·rcases S.blk b y hb hd hmp with⟨hn',_⟩|⟨k',o',cs,ty',fr,hβ',U,g2,g3,g4,g5,g6⟩
      ·rw[r1]at hn';simp at hn'
      ·rw[r1]at hβ';simp at hβ';obtain⟨rfl,rfl⟩:=hβ'
       have hbs:=G2 U
       have M:=((g4.1 c1).drop off).take (n*y.sz)
       have T:((y.cells.drop off).take (n*y.sz)).length=n*y.sz:=by simp;omega
       by_cases G:n+new.2.1<=cap
       ·
        have hle:(n+new.2.1)*y.sz<=cap*y.sz:=A9y _ G
        rw[Ba0]at hle
        have run:=run_append_room_src (P:=P) w t tx ty X i hu hi kk (o+off) n cap vx new.2.1 us (by rw[f];exact Y.src ht m) G (fun j hj=>by
          rw[f,Tl U];have:=Y.length;simp;omega) (fun j hj=>by
          rw[f];simp only[World.frozen?,U]
          have h9:=Y.length
          have:=g2.1.at (o+off+n*y.sz+j) (by omega)
          cases fr;simp at this ⊢;omega)
        rw[f]at run
        obtain⟨cs',O,hO⟩:=OnlyBlk.setCells (k:=kk) us (o+off+n*y.sz) w cs U
        have h9:=Y.length
        have B:=Step.move (y:={y with dead:=true,pure:=true,cells:=[]}) (o':=o+off) (x':={dead:=false,sealed:=false,pure:=true,taint:=y.taint||new.2.2,sz:=y.sz,cells:=(y.cells.drop off).take (n*y.sz)++new.1,ty:=sr P g X tx (.own b off n)}) S hb hd c2 r1 hn rfl O rfl rfl
         (by rw[A8y,T,C];omega) ⟨fun _=>by
          show RepCs (J (y.taint||new.2.2)) w ((y.cells.drop off).take (n*y.sz)++new.1) _ 0
          rw[Ck]
          intro j q hj
          rw[A92,T]at hj
          simp only[A89]
          by_cases hjn:j<n*y.sz
          ·rw[if_pos hjn]at hj
           obtain⟨v,L,hvr⟩:=M.at hj
           refine⟨v,?_,RepC.keep (J:=J y.taint) (w:=w) (gF S.jft _ _) (fun _ _=>rfl) hvr⟩
           rw[hO,if_neg (by omega),A97];exact L
          ·rw[if_neg hjn]at hj
           obtain⟨v,L,hvr⟩:=I.at hj
           refine⟨v,?_,hvr⟩
           have:j - n*y.sz<us.length:=(A9h.1 L).1
           rw[hO,if_pos (by omega),<-L];congr 1;omega,fun hp=>by simp at hp⟩ hmp (hty:=Azc (P:=P) (tx:=tx) (n:=n) hy g2.2)
        refine⟨_,_,run,J,(fun b=>if b=nid d then some (kk,o+off)else β b),?_,?_⟩
        ·rw[Dk,F];exact B
        ·rw[Dk,F,Rep]
         refine⟨_,_,cap,⟨by simp[V9,An,Ah];rfl,rfl⟩,rfl,G,.inr ⟨kk,o+off,rfl,.inr ⟨by simp,?_,?_⟩⟩⟩
         ·rw[G2 O.new,O.sz];simp;omega
         ·simp only[A8y,T,C,h9,A89];rw[Ba0];exact A86 _
       ·
        obtain⟨olds,l1,l2,l3⟩:=M.list
        obtain⟨u,w',g1',g2',g3'⟩:=xY (ty:=ty) (c1:=(y.cells.drop off).take (n*y.sz)) (olds:=olds) (n1:=n) (cap0:=cap) (A:=some ⟨kk,o+off,none⟩) kill.sim hkn hu hi hiz f (by rw[e1,f]) (fun w' he =>
          run_firstCells_some (P:=P) w' y.sz n _ n cap olds (by rw[l1,T]) (fun j v L=>by
           rw[he,Addr.add_mid,Tl U,A97];exact l2 j v L)) (by rw[l1,T]) Y ht m
          (RepCs.keep (J:=J y.taint) (w:=w) (gF S.jft _ _) (fun _ _=>rfl) (fun _=>rfl) l3) l1.symm I C (by omega) (by omega) (by rw[<-hb']at q2;exact q2) hX
        refine⟨u,w',g1',OpDone.after (ups:=[(b,none)]) (by rw[F];exact kill) ?_ g3'⟩
        rw[F];exact g2'
  ·simp at l
 ·simp at hh
end
end Gx
namespace Gx
open Go
section
variable{R:Type}{r:R}{P:Program}{J J':Bool->Nat->Prop}{β:De}{h:A9}{w w':World}{g:Bp}
def Step.retaint(S:SimH J β h w){d:Nat}{x:Blk}(hx:Ao h d=some x)(v:x.dead=false)(hs:x.sealed=false)(hp:x.pure=true)(A:x.mp=false)(o:Bool):
  Step J β h w J β (Ho h d {x with taint:=x.taint||o}) w:=by
 have E:Ext J β h w J β (Ho h d {x with taint:=x.taint||o}) w:=by
  refine⟨fun _ _ t=>t,fun o k t=>rfl,fun b z f=>?_,fun b k o u=>A86 _⟩
  by_cases e:b=d
  ·subst e;rw[hx]at f;simp at f;subst f
   exact⟨{x with taint:=x.taint||o},⟨by rw[Ah,if_pos rfl],rfl⟩,.inr ⟨v,rfl,rfl,fun _=>rfl⟩⟩
  ·refine⟨z,⟨by rw[Ah,if_neg e];exact f,rfl⟩,?_⟩
   cases v:z.dead
   ·exact .inr ⟨rfl,rfl,rfl,fun _=>rfl⟩
   ·exact .inl rfl
 refine⟨E,⟨S.jlt,S.jft,S.gl.ext E,fun b z f j B=>?_,fun b z f j B=>by
   rw[Ah]at f
   by_cases e:b=d
   ·rw[if_pos e]at f;simp at f;subst f;simp[A]at B
   ·rw[if_neg e]at f
    exact(S.mblk b z f j B).keep rfl (fun k o u=>rfl) (fun _ _ _ _ t=>t),?_⟩,rfl,rfl,rfl,A86 _,fun k hk _=>rfl,?_,fun _ _ t=>.inl t⟩
 ·rw[Ah]at f
  by_cases e:b=d
  ·rw[if_pos e]at f;simp at f;subst f;subst e
   rcases S.blk b x hx v A with l|⟨k,o',m,n,q,l,C,D,F,G,I,h7⟩
   ·exact .inl l
   ·refine .inr ⟨k,o',m,n,q,l,C,D,F,CellsRep.ext E ⟨fun _=>?_,fun L=>?_⟩,fun _=>I hs,fun L=>by simp[hs]at L⟩
    ·exact RepCs.keep (J:=J x.taint) (w:=w) (gF S.jft _ _) (fun _ _=>rfl) (fun _=>rfl) (G.1 hp)
    ·simp[hp]at L
  ·rw[if_neg e]at f
   rcases S.blk b z f j B with l|⟨k,o,m,n,q,l,C,D,F,G,I,h7⟩
   ·exact .inl l
   ·exact .inr ⟨k,o,m,n,q,l,C,D,F,G.ext E,I,h7⟩
 ·intro b b' z z' k oo M f T U V s u X
  have get:∀{c y},Ao (Ho h d {x with taint:=x.taint||o}) c=some y->y.dead=false->∃ Y,Ao h c=some Y/\Y.dead=false/\(y.sealed=false->Y.sealed=false):=by
   intro c y hc hyd
   rw[Ah]at hc
   by_cases e:c=d
   ·subst e;exact⟨x,hx,v,fun _=>hs⟩
   ·rw[if_neg e]at hc;exact⟨y,hc,hyd,id⟩
  obtain⟨y1,g1,g2,g3⟩:=get f U
  obtain⟨y2,g4,g5,g6⟩:=get T V
  exact S.sep b b' y1 y2 k oo M g1 g4 g2 g5 (g3 s) u X
 ·rintro k ⟨b,z,o,f,j,s,u⟩ hk
  rw[Ah]at f
  by_cases e:b=d
  ·subst e;exact⟨b,x,o,hx,v,hs,u⟩
  ·rw[if_neg e]at f
   exact⟨b,z,o,f,j,s,u⟩
def x8(c:LA)(off:Nat):C3 c off []=c:=by simp[C3]
def tD{e:IntKind}:∀(n:Nat)(c:LA)(k:LA->O R),kW e n c k=some r->∃ vs,k vs=some r/\vs.length=n/\∀(j:Nat)(v:AV),vs[j]?=some v->(∃ i,v=.int e i)/\c[j]?=some v
|0,_,k,h=>⟨[],h,rfl,by simp⟩
| n+1,c,k,h=>by
  rw[kW]at h
  obtain⟨x,hx,h⟩:=ub h
  obtain⟨i,hi,h⟩:=ub h
  obtain⟨vs,m,q,s⟩:=tD n _ _ h
  refine⟨_,m,by simp[q],fun j v d=>?_⟩
  cases j with
  | zero =>
   simp at d;subst d
   refine⟨⟨_,rfl⟩,?_⟩
   rw[<-A90,hx]
   unfold jN at hi
   split at hi
   ·obtain⟨f,hn⟩:=uc hi
    simp[Qc]at f hn;subst f;subst hn;rfl
   ·cases hi
  |succ j =>
   simp at d
   obtain⟨t,l⟩:=s j v d
   refine⟨t,?_⟩
   rw[Bal]at l
   rw[<-l,Bcb]
def Ah8 {t tx ty M sz b off n:TypeId} {y:Blk} {q:LA×Nat×Bool} {us:List Value} {vs vx:Value} {k:AV->F2->O R} (S:SimH J β h w) (T:P.underlying t=some (.slice M)) (U:B9 P M=some sz) (V:Ao h b=some y) (I:y.dead=false)
  (L:qg P M sz b off n y q k=some r) (hs:Rep J β h w (.own b off n) vs) (Y:Yield P w sz vx q.2.1 us) (X:q.1.length=us.length) (v:RepCs (J q.2.2) w q.1 (fun j=>us[j]?) 0) :
  ∃ val ups,k val ups=some r/\∃ u w',(Builtin.copy_ #[t,tx] ty #[vs,vx]).run P w=.ok u w'/\OpDone J β h w ups val u w':=by
 unfold qg at L
 split at L
 ·rename_i kd hk
  obtain⟨hc,h1⟩:=uc L
  simp at hc
  obtain⟨c0,c1,c2,c3,c4,c5,c6⟩:=hc
  subst c0
  obtain⟨ws,h2,hw,hws⟩:=tD _ _ _ h1
  have z:=RepCs.one v X.symm
  refine⟨_,_,h2,?_⟩
  rw[Rep]at hs
  obtain⟨y',A,cap,⟨e,C⟩,rfl,hcap,hr⟩:=hs
  rw[V]at e;simp at e;subst e
  have hm:Nat.min q.2.1 n=n:=Nat.min_eq_right c5
  have d:=Y.cells w n (fun _=>rfl) c5
  have D:=Y.len w
  rcases hr with hr|⟨kk,o,rfl,hr⟩
  ·omega
  ·rcases hr with hr|⟨r1,r2,r3⟩
   ·simp[I]at hr
   ·rcases S.blk b y V I C with⟨F,_⟩|⟨k',o',cs,ty',fr,f,g1,g2,g3,g4,g5,g6⟩
    ·rw[r1]at F;simp at F
    ·rw[r1]at f;simp at f;obtain⟨rfl,rfl⟩:=f
     have hul':=Y.length
     have htl:(us.take (n*1)).length=n:=by rw[Bar];omega
     obtain⟨G,O,hO⟩:=OnlyBlk.setCells (k:=kk) (us.take (n*1)) (o+off) w cs g1
     have l:=run_storeCells_cells (P:=P) kk (o+off) (us.take (n*1)) 0 w (fun j s=>by
       rw[Ban,Tl g1];simp;omega)
      (fun j s=>by
       rw[Ban];simp only[World.frozen?,g1]
       have:=g2.1.at (o+off+j) (by omega)
       cases fr;simp at this ⊢;omega) (fun u T=>z u (Bb5 T))
     simp only[Ban]at l
     have B:=Step.set (x':={ y with cells:=C3 y.cells off ws }) S V I c3 r1 O I c3 rfl (Tm (by omega)) ⟨fun hp=>by simp[c4] at hp,fun _=>by
      intro j x s
      rw[IY (by omega),hw]at s
      split at s
      ·obtain⟨⟨i,rfl⟩,h5⟩:=hws _ _ s
       obtain⟨u,m,hr⟩:=v.at h5
       refine⟨u,?_,?_,?_⟩
       ·show G[o+j]?=some u
        rw[hO,if_pos (by omega),Bay,if_pos (by omega),<-m];congr 1;omega
       ·rw[RepC]at hr;rw[Rep];exact hr
       ·rw[RepC]at hr;rw[hr];rfl
      ·obtain⟨u,m,hr⟩:=g4.2 c4 j x s
       refine⟨u,?_,hr⟩
       show G[o+j]?=some u
       rw[hO,if_neg (by omega)];exact m⟩ C
     refine⟨.int .i64 (n:Nat),_,?_,J,β,B,by rw[Rep]⟩
     simp only[A9j]at l
     simp[Builtin.copy_,run_underlying T,D,Dr U,hm,d,goInt,l]
 ·cases L
def Al5 {t tx ty:TypeId} {s x:AV} {vs vx:Value} {k:AV->F2->O R} (S:SimH J β h w) (hl:Looks g h) (X:Afo P g t s x k=some r) (hs:Rep J β h w s vs) (hx:Rep J β h w x vx) :
  ∃ val ups,k val ups=some r/\∃ u w',(Builtin.copy_ #[t,tx] ty #[vs,vx]).run P w=.ok u w'/\OpDone J β h w ups val u w':=by
 unfold Afo at X
 split at X
 ·rename_i el b off n z
  obtain⟨sz,l,h1⟩:=ub X
  obtain⟨y,hy,h2⟩:=ub h1
  obtain⟨new,us,h3,Y,C,v⟩:=U_ (P:=P) S hl h2 hx
  obtain⟨hb,U⟩:=Ev hl hy
  cases D:(y.pure&&(!y.sealed&&beq sz y.sz))with
  |false=>rw[D]at h3;exact Ah8 S z l hb U h3 hs Y C v
  |true =>
  rw[D]at h3
  have h4:=h3
  simp only[cond_true]at h4
  have hc:=D
  simp at hc
  obtain⟨c1,c2,c3⟩:=hc
  subst c3
  have hone:=RepCs.one v C.symm
  refine⟨_,_,h4,?_⟩
  rw[Rep]at hs
  obtain⟨y',A,cap,⟨F,G⟩,rfl,hcap,hr⟩:=hs
  rw[hb]at F;simp at F;subst F
  have hm:Nat.min new.2.1 n<=new.2.1:=Nat.min_le_left _ _
  have d:=Y.cells w (Nat.min new.2.1 n) (fun _=>rfl) hm
  have f:=Y.len w
  by_cases I:Nat.min new.2.1 n*y.sz=0
  ·
   refine⟨.int .i64 (Nat.min new.2.1 n:Nat),w,?_,J,β,?_,by rw[Rep]⟩
   ·have e:us.take (Nat.min new.2.1 n*y.sz)=[]:=by rw[I];rfl
    rw[e]at d
    cases A with
    |none=>simp[Builtin.copy_,run_underlying z,f,Dr l,d,goInt]
    |some a=>simp[Builtin.copy_,run_underlying z,f,Dr l,d,goInt,storeCells]
   ·have e:(new.1.take (min new.2.1 n*y.sz))=[]:=by
     have:min new.2.1 n*y.sz=0:=I
     rw[this];rfl
    have T:=Step.retaint S hb U c2 c1 G new.2.2
    simp only[An]
    rw[e,x8]
    exact T
  ·rcases hr with hr|⟨kk,o,rfl,hr⟩
   ·have:n=0:=by omega
    subst this;simp at I
   ·rcases hr with hr|⟨r1,r2,r3⟩
    ·simp[U]at hr
    ·rcases S.blk b y hb U G with⟨hn',_⟩|⟨k',o',cs,ty',fr,L,g1,g2,g3,g4,g5,g6⟩
     ·rw[r1]at hn';simp at hn'
     ·rw[r1]at L;simp at L;obtain⟨rfl,rfl⟩:=L
      have hle1:Nat.min new.2.1 n*y.sz<=new.2.1*y.sz:=A9y _ hm
      have hle2:Nat.min new.2.1 n*y.sz<=n*y.sz:=A9y _ (Nat.min_le_right _ _)
      have hul':=Y.length
      have htl:(us.take (Nat.min new.2.1 n*y.sz)).length=Nat.min new.2.1 n*y.sz:=by rw[Bar];omega
      have htl':(new.1.take (Nat.min new.2.1 n*y.sz)).length=Nat.min new.2.1 n*y.sz:=by rw[Bar];omega
      obtain⟨cs',O,hO⟩:=OnlyBlk.setCells (k:=kk) (us.take (Nat.min new.2.1 n*y.sz)) (o+off) w cs g1
      have hst:=run_storeCells_cells (P:=P) kk (o+off) (us.take (Nat.min new.2.1 n*y.sz)) 0 w (fun j V=>by
        rw[Ban,Tl g1];simp;omega)
       (fun j V=>by
        rw[Ban];simp only[World.frozen?,g1]
        have:=g2.1.at (o+off+j) (by omega)
        cases fr;simp at this ⊢;omega) (fun u z=>hone u (Bb5 z))
      simp only[Ban]at hst
      have B:=Step.set (x':={ y with cells:=C3 y.cells off (new.1.take (Nat.min new.2.1 n*y.sz)),taint:=y.taint||new.2.2 }) S hb U c2 r1 O U c2 rfl (Tm (by omega)) ⟨fun _=>by
       show RepCs (J (y.taint||new.2.2)) w (C3 y.cells off (new.1.take (Nat.min new.2.1 n*y.sz))) _ 0
       rw[Ck]
       intro j q V
       rw[IY (by omega),htl']at V
       simp only[A89]
       split at V
       ·obtain⟨u,M,hr⟩:=(v.take _).at V
        refine⟨u,?_,RepC.keep (J:=J new.2.2) (w:=w) (xZ S.jft _ _) (fun _ _=>rfl) hr⟩
        rw[hO,if_pos (by omega),Bay,if_pos (by omega),<-M];congr 1;omega
       ·obtain⟨u,M,hr⟩:=(g4.1 c1).at V
        refine⟨u,?_,RepC.keep (J:=J y.taint) (w:=w) (gF S.jft _ _) (fun _ _=>rfl) hr⟩
        rw[hO,if_neg (by omega)];exact M,fun hp=>by simp[c1] at hp⟩ G
      refine⟨.int .i64 (Nat.min new.2.1 n:Nat),_,?_,J,β,B,by rw[Rep]⟩
      simp[Builtin.copy_,run_underlying z,f,Dr l,d,goInt,hst]
 ·rename_i el z
  obtain⟨sz,l,h1⟩:=ub X
  obtain⟨new,us,h2,Y,C,v⟩:=U_ (P:=P) S hl h1 hx
  rw[Rep]at hs;subst hs
  have f:=Y.len w
  have d:=Y.cells w 0 (fun _=>rfl) (Bcj _)
  simp at d
  refine⟨_,_,h2,.int .i64 0,w,?_,J,β,Step.refl S,by rw[Rep]⟩
  have hm:∀ m:Nat,Nat.min m 0=0:=fun m=>Nat.min_eq_right (Bcj _)
  simp[Builtin.copy_,run_underlying z,f,Dr l,hm,d,goInt]
 ·simp at X
def Ah9 {t ty:TypeId} {s:AV} {vs:Value} {k:AV->F2->O R} (S:SimH J β h w) (hl:Looks g h) (hh:qh P g t s k=some r) (hs:Rep J β h w s vs) :
  ∃ val ups,k val ups=some r/\∃ u w',(Builtin.clear_ #[t] ty #[vs]).run P w=.ok u w'/\OpDone J β h w ups val u w':=by
 unfold qh at hh
 split at hh
 ·rename_i el b off n F
  obtain⟨sz,I,h1⟩:=ub hh
  obtain⟨z,hz,h2⟩:=ub h1
  obtain⟨y,hy,h3⟩:=ub h2
  obtain⟨hc,h4⟩:=uc h3
  simp at hc
  obtain⟨c1,c2,c3⟩:=hc
  subst c3
  obtain⟨hb,L⟩:=Ev hl hy
  obtain⟨i,v,hi,hv,rfl,hp,e1,e2⟩:=Ux hz
  have M:i.size=y.sz:=by simp[B9,hi]at I;exact I
  have U:∀ w,(zeroValue el).run P w=.ok v w:=fun w=>by simp[zeroValue,typeInfo,hi,hv]
  have d:=Ij n (Oj v.cells.toList)
  rw[e2,M]at d
  have V:Builtin.zeroCells v.cells n=madeCells v.cells (n*v.cells.size):=rfl
  have X:(Builtin.zeroCells v.cells n).toList.length=n*y.sz:=by rw[V,Bbw,size_madeCells,e1,M]
  have Y:RepCs (J y.taint) w (G1 n (Oj v.cells.toList)) (fun j=>(Builtin.zeroCells v.cells n).toList[j]?) 0:=by
   have:=VD (J:=J y.taint) (w:=w) hp n (n*v.cells.size) (A86 _)
   rw[<-V]at this
   simpa using this
  have hone:=RepCs.one Y (by rw[X,d])
  refine⟨_,_,h4,?_⟩
  rw[Rep]at hs
  obtain⟨y',A,cap,⟨l,m⟩,rfl,hcap,hr⟩:=hs
  rw[hb]at l;simp at l;subst l
  by_cases f:n*y.sz=0
  ·have e0:(Builtin.zeroCells v.cells n).toList=[]:=Bb0 (by rw[X,f])
   refine⟨.tuple #[],w,?_,J,β,?_,by rw[Rep];exact⟨[],rfl,by rw[Reps]⟩⟩
   ·cases n with
    |zero=>cases A<;>simp[Builtin.clear_,run_underlying F]
    |succ n =>
     cases A with
     |none=>simp[Builtin.clear_,run_underlying F]
     |some a=>simp[Builtin.clear_,run_underlying F,U,e0,storeCells]
   ·have e:G1 n (Oj v.cells.toList)=[]:=Bb0 (by rw[d,f])
    have T:=Step.retaint S hb L c2 c1 m false
    simp only[An]
    rw[e,x8]
    simpa using T
  ·rcases hr with hr|⟨kk,o,rfl,hr⟩
   ·have:n=0:=by omega
    subst this;simp at f
   ·rcases hr with hr|⟨r1,r2,r3⟩
    ·simp[L]at hr
    ·rcases S.blk b y hb L m with⟨hn',_⟩|⟨k',o',cs,ty',fr,C,g1,g2,g3,g4,g5,g6⟩
     ·rw[r1]at hn';simp at hn'
     ·rw[r1]at C;simp at C;obtain⟨rfl,rfl⟩:=C
      obtain⟨cs',O,hO⟩:=OnlyBlk.setCells (k:=kk) (Builtin.zeroCells v.cells n).toList (o+off) w cs g1
      have hst:=run_storeCells_cells (P:=P) kk (o+off) (Builtin.zeroCells v.cells n).toList 0 w (fun j G=>by
        rw[Ban,Tl g1];simp;omega)
       (fun j G=>by
        rw[Ban];simp only[World.frozen?,g1]
        have:=g2.1.at (o+off+j) (by omega)
        cases fr;simp at this ⊢;omega) (fun u F=>hone u F)
      simp only[Ban]at hst
      have B:=Step.set (x':={ y with cells:=C3 y.cells off (G1 n (Oj v.cells.toList)) }) S hb L c2 r1 O L c2 rfl (Tm (by omega)) ⟨fun _=>by
       show RepCs (J y.taint) w (C3 y.cells off (G1 n (Oj v.cells.toList))) _ 0
       rw[Ck]
       intro j q G
       rw[IY (by omega),d]at G
       simp only[A89]
       split at G
       ·obtain⟨u,D,hr⟩:=Y.at G
        refine⟨u,?_,hr⟩
        rw[hO,if_pos (by omega),<-D];congr 1;omega
       ·obtain⟨u,D,hr⟩:=(g4.1 c1).at G
        refine⟨u,?_,hr⟩
        rw[hO,if_neg (by omega)];exact D,fun hp=>by simp[c1] at hp⟩ m
      refine⟨.tuple #[],_,?_,J,β,B,by rw[Rep];exact⟨[],rfl,by rw[Reps]⟩⟩
      cases n with
      |zero=>simp at f
      |succ n=>simp[Builtin.clear_,run_underlying F,U,hst]
 ·simp at hh
def jV:∀{c:LA}{s:Lu}{us:List Value}{J:Nat->Prop},Z5 c=some s->RepCs J w c (fun j=>us[j]?) 0->c.length=us.length ->
  ∃ ns:List Int,us=ns.map (Value.int .u8)/\s=ns.map (fun n=>UInt8.ofNat n.toNat)
|[],s,us,J,k,q,t=>by
  simp[Z5]at k;subst k
  have:us=[]:=by cases us<;>simp_all
  exact⟨[],by simp[this],rfl⟩
| x::r,s,us,J,k,q,t=>by
  rw[Z5]at k
  obtain⟨b,d,D⟩:=ub k
  obtain⟨l,z,B⟩:=ub D
  simp at B;subst B
  cases us with
  |nil=>simp at t
  | cons u us =>
   rw[RepCs]at q
   obtain⟨⟨L,m,hr⟩,e⟩:=q
   simp at m;subst m
   unfold Aq9 at d
   split at d
   ·rename_i n
    simp at d;subst d
    rw[RepC]at hr;subst hr
    have f:RepCs J w r (fun j=>us[j]?) 0:=by
     rw[Ck]at e ⊢
     intro j y F
     obtain⟨v,C,A⟩:=e j y F
     refine⟨v,?_,A⟩
     rw[show 0+1+j=j+1 by omega]at C
     simpa using C
    obtain⟨ns,G,I⟩:=jV z f (by simpa using t)
    exact⟨n::ns,by simp[G],by simp[I]⟩
   ·simp at d
def Azd:∀(ns:List Int)(s:Lu),(ns.foldl (fun r n=>r.push (UInt8.ofNat n.toNat)) (⟨⟨s⟩⟩:ByteArray))=⟨⟨s++ns.map fun n=>UInt8.ofNat n.toNat⟩⟩
|[],s=>by simp
| n::r,s=>by
  rw[A9u]
  have:(⟨⟨s⟩⟩:ByteArray).push (UInt8.ofNat n.toNat)=⟨⟨s++[UInt8.ofNat n.toNat]⟩⟩:=by
   simp[ByteArray.push]
  rw[this,Azd r];simp
def Al6 {d:Nat} {src dst:TypeId} {x:AV} {vx:Value} {k:AV->F2->O R} (S:SimH J β h w) (hl:Looks g h) (f:Afp P g d src dst x k=some r) (hx:Rep J β h w x vx) :
  ∃ val ups,k val ups=some r/\(UpsFree d h ups->∃ u w',(convert src dst vx).run P w=.ok u w'/\OpDone J β h w ups val u w'):=by
 unfold Afp at f
 split at f
 ·rename_i kd v
  split at f
  ·rename_i kd' n
   rw[Rep]at hx;subst hx
   obtain⟨z,I⟩:=uc f
   obtain⟨s,hs⟩:=Bcy.1 z
   refine⟨_,_,I,fun _=>⟨.int kd (kd.wrap n),w,?_,J,β,Step.refl S,by rw[Rep]⟩⟩
   cases s<;>simp[convert,run_underlying hs,run_underlying v,Conv.intToInt]
  ·simp at f
 ·rename_i v
  split at f
  ·rename_i hs
   split at f
   ·rename_i s
    rw[Rep]at hx;subst hx
    refine⟨_,_,f,fun _=>⟨.string ⟨⟨s⟩⟩,w,?_,J,β,Step.refl S,by rw[Rep]⟩⟩
    simp[convert,run_underlying hs,run_underlying v]
   ·simp at f
  ·rename_i t hs
   split at f
   ·rename_i L
    split at f
    ·simp at f
    ·rename_i hns
     obtain⟨q,hq,I⟩:=ub f
     obtain⟨s,hs',h2⟩:=ub I
     obtain⟨us,Y,hul,hur⟩:=tB (P:=P) S hl hq hx
     obtain⟨ns,e1,e2⟩:=jV hs' hur hul
     refine⟨_,_,h2,fun _=>⟨.string ⟨⟨s⟩⟩,w,?_,J,β,Step.refl S,by rw[Rep]⟩⟩
     have hv:∃ A n cap,vx=.slice A n cap:=by
      unfold jO at hq
      split at hq
      ·rw[Rep]at hx;exact⟨_,_,_,hx⟩
      ·rw[Rep,RepC]at hx;obtain⟨_,A,cap,rfl,_⟩:=hx;exact⟨_,_,_,rfl⟩
      ·rw[Rep]at hx;obtain⟨_,A,cap,_,rfl,_⟩:=hx;exact⟨_,_,_,rfl⟩
      ·exact absurd rfl (hns _)
      ·simp at hq
     obtain⟨A,n,cap,rfl⟩:=hv
     have hn:q.2.1=n:=by have:=Y.len w;simpa[Builtin.lenOf]using this.symm
     have F:=Y.cells w n (fun _=>rfl) (by omega)
     have M:=Y.length
     rw[hn]at M
     rw[show us.take (n*1)=us by rw[<-M,Bas]]at F
     have B:(convert src dst (.slice A n cap)).run P w=(Conv.bytesToString (.slice A n cap)).run P w:=by
      cases A<;>simp[convert,run_underlying hs,run_underlying v,run_underlying L]
     rw[B]
     cases A with
     |none =>
      rw[run_firstCells_none]at F
      injection F with hc1 _
      have hus:us=[]:=by simpa using hc1.symm
      rw[hus]at e1
      have T:ns=[]:=by simpa using e1.symm
      rw[T]at e2
      simp at e2;subst e2
      simp[Conv.bytesToString];rfl
     |some a =>
      simp only[Builtin.firstCells,A9j]at F
      rw[e1]at F
      rw[run_bytesToString w a n cap ns F,e2]
      have:=Azd ns []
      simp at this
      rw[<-this];rfl
   ·simp at f
  ·simp at f
 ·rename_i t v
  split at f
  ·rename_i e' b off n hs L
   obtain⟨l,I⟩:=uc f
   simp only[A81]at l
   obtain⟨l,U⟩:=l
   have U:1<=n:=by simpa using U
   have l:=A9d l
   subst l
   have hee:e'=t:=by rw[hs]at v;simpa using v
   subst hee
   obtain⟨x,m,h2⟩:=ub I
   obtain⟨hsl,h3⟩:=Are h2
   obtain⟨m,hd⟩:=Ev hl m
   refine⟨_,_,h3,fun _=>?_⟩
   have hx':=hx
   rw[Rep]at hx
   obtain⟨x0,A,cap,⟨C,V⟩,rfl,hle,hr⟩:=hx
   rw[m]at C;simp at C;subst C
   rcases hr with hr|⟨X,o1,rfl,hr⟩
   ·omega
   ·rcases hr with hr|⟨hβ,_,_⟩
    ·simp[hd]at hr
    ·rcases S.blk b x m hd V with⟨G,_⟩|⟨k2,o2,cs,ty,fr,G,h5,h6,h7,h8,h9,h10⟩
     ·rw[hβ]at G;simp at G
     ·rw[hβ]at G;simp at G;obtain⟨rfl,rfl⟩:=G
      have hsh:w.shape? X=some (ty,cs.size):=by simp[World.shape?,h5]
      have hnew:∃ D,(w.freeze ⟨X,cs.size,none⟩ 1).heap[X]?=some (.cells cs ty D)/\FrOk cs.size D:=by
       obtain⟨lo,hi⟩:=fr
       refine⟨if lo==hi then(cs.size,cs.size+1)else(min lo cs.size,max hi (cs.size+1)),?_,?_⟩
       ·simp[World.freeze,Ba7,h5]
       ·by_cases e:lo=hi
        ·simp[e,FrOk]
        ·have h11:cs.size<=lo:=by rcases h6 with h6|h6;exact absurd h6 e;exact h6
         simp[e,FrOk];omega
      obtain⟨D,hf1,hf2⟩:=hnew
      have A:=Step.mark S m hd hsl hβ h5 hf1 hf2 (fun j y=>by
       simp only[World.freeze]
       rw[if_neg (by decide)]
       show(w.heap.modify X _)[j]?=_
       rw[Ba7,if_neg (fun e=>y e.symm)]) (by simp[World.freeze]) rfl rfl rfl V
      refine⟨_,w.freeze ⟨X,cs.size,none⟩ 1,?_,J,β,A,Rep.ext A.ext hx'⟩
      simp[convert,run_underlying hs,run_underlying L,markStringish,hsh]
  ·rename_i s hs L
   rw[Rep]at hx;subst hx
   refine⟨_,_,f,fun hn=>⟨_,_,run_bytes_of_string (P:=P) w src dst t ⟨⟨s⟩⟩ hs v L,?_⟩⟩
   replace hn:=hn.nid (by simp[V9,Bj])
   have hsz:(⟨⟨s⟩⟩:ByteArray).size=s.length:=rfl
   have hcap:s.length<=grownCap w s.length 0 t:=by unfold grownCap;simp[Question.cut]
   rw[hsz]
   obtain⟨J',β',B1,B2⟩:=mQ (d:=d) (n:=s.length) (cap:=grownCap w s.length 0 t) (sz:=1) (ty:=t) (fr:=((bytesRow ⟨⟨s⟩⟩ (grownCap w s.length 0 t)).size,(bytesRow ⟨⟨s⟩⟩ (grownCap w s.length 0 t)).size+1))
    (x:={dead:=false,sealed:=false,pure:=true,taint:=false,sz:=1,cells:=s.map fun b=>.int .u8 (b.toNat:Int)})
    (cs:=bytesRow ⟨⟨s⟩⟩ (grownCap w s.length 0 t)) (Step.drew S).sim hn rfl rfl rfl (FrOk.un (.inr (A86 _))) (by simp) (by simp[bytesRow,hsz];omega) hcap
    ⟨fun _=>by
     show RepCs (J false) w.drew (s.map fun b=>.int .u8 (b.toNat:Int)) _ 0
     rw[Ck]
     intro j q y
     rw[Baw]at y
     cases hb:s[j]? with
     |none=>rw[hb]at y;simp at y
     |some b =>
      rw[hb]at y;simp at y;subst y
      refine⟨.int .u8 (b.toNat:Int),?_,by rw[RepC]⟩
      have hlt:j<s.length:=(A9h.1 hb).1
      simp only[A89,bytesRow]
      rw[Bb3 (by simp;exact hlt)]
      simp[hb],fun hp=>by simp at hp⟩
   exact⟨J',β',(Step.drew S).trans B1 (fun _ k _ _=>by rw[<-VE];exact Uw _ _ k),B2⟩
  ·simp at f
 ·simp at f
def x9{t:TypeId}{n:Nat}(h:B9 P t=some n):∃ j,P.info? t=some j/\j.size=n:=by
 unfold B9 at h
 cases hq:P.info? t with
|none=>rw[hq]at h;cases h
|some j=>rw[hq]at h;simp at h;exact⟨j,rfl,h⟩
def Aia{d:Nat}{src dst:TypeId}{x:AV}{vx:Value}{k:AV->F2->O R}(S:SimH J β h w)(D:Looks g h)(f:qi P g d src dst x k=some r)(hx:Rep J β h w x vx):
  ∃ val ups,k val ups=some r/\(UpsFree d h ups->∃ u w',(convert src dst vx).run P w=.ok u w'/\OpDone J β h w ups val u w'):=by
 unfold qi at f
 split at f
 ·rename_i F
  split at f
  ·rename_i t b off hs
   obtain⟨n,hn,f⟩:=ub f
   obtain⟨y,G,f⟩:=ub f
   obtain⟨A,f⟩:=uc f
   simp at A
   obtain⟨s,l⟩:=Ev D G
   have v:=hx
   rw[Rep]at hx
   obtain⟨x1,I,o1,⟨z,gm⟩,rfl,m⟩:=hx
   rw[s]at z;simp at z;subst z
   rcases m with m|m
   ·rw[m]at l;cases l
   obtain⟨j,L,B⟩:=x9 hn
   rcases S.blk b y s l gm with⟨e1,C⟩|⟨T,o2,cs,ty,fr,e1,C,e3,e4,U⟩
   ·rw[m]at e1;cases e1
   ·rw[m]at e1;simp at e1;obtain⟨rfl,rfl⟩:=e1
    refine⟨_,_,f,fun _=>⟨_,w,Lib.run_to_unsafe w ⟨I,o1+off,none⟩ hs F L (by rw[B];exact fun e=>by rw[e]at A;simp at A) (e:=ty) (cells:=cs.size) (by simp[World.shape?,C]) (by show o1+off<_;omega),J,β,Step.refl S,v⟩⟩
  ·cases f
 ·rename_i u F
  split at f
  ·rename_i b off hs
   obtain⟨n,hn,f⟩:=ub f
   obtain⟨y,G,f⟩:=ub f
   obtain⟨q,hq,f⟩:=ub f
   obtain⟨A,f⟩:=uc f
   simp at A
   obtain⟨s,l⟩:=Ev D G
   have v:=hx
   rw[Rep]at hx
   obtain⟨x1,I,o1,⟨z,gm⟩,rfl,m⟩:=hx
   rw[s]at z;simp at z;subst z
   rcases m with m|m
   ·rw[m]at l;cases l
   obtain⟨j,L,B⟩:=x9 hn
   rcases S.blk b y s l gm with⟨e1,C⟩|⟨T,o2,cs,ty,fr,e1,C,e3,e4,U⟩
   ·rw[m]at e1;cases e1
   ·rw[m]at e1;simp at e1;obtain⟨rfl,rfl⟩:=e1
    obtain⟨rfl,rfl,M⟩:=e3.2 q.1 q.2 hq
    have M:cs.size=q.2:=by omega
    refine⟨_,_,f,fun _=>⟨_,w,Lib.run_from_unsafe w ⟨I,0+off,none⟩ hs F L (e:=q.1) (cells:=cs.size) (by simp[World.shape?,C]) (by show liesAt P P.depth q.1 (cs.size/_) (0+off) u 1=true;rw[M,A89];exact A.2.2),J,β,Step.refl S,v⟩⟩
  ·cases f
 ·exact Al6 S D f hx
def Arh{fn : Func}(d : fn.name = "internal/abi.NoEscape"): Extern.find fn = some Extern.AbiNoEscape.same := by
 have l1 : Extern.allGenericRows.lookup "internal/abi.NoEscape" = none := by kernel_rfl
 have l2 : Extern.allTypedRows.lookup "internal/abi.NoEscape" = none := by kernel_rfl
 have l3 : Extern.allRows.lookup "internal/abi.NoEscape" = some Extern.AbiNoEscape.same := by kernel_rfl
 unfold Extern.find
 simp only[d,l1,l2,l3]
 rfl
def x_{fn : Func}(d : fn.name = "internal/abi.NoEscape")(e : fn.origin = ""): Extern.findNext fn = none := by
 have l1 : Extern.allNextRows.lookup "internal/abi.NoEscape" = none := by kernel_rfl
 have l2 : Extern.allNextRows.lookup "" = none := by kernel_rfl
 unfold Extern.findNext
 simp only[d,e,l1,l2]
 rfl
def Awm{f:Nat}(h:Ay7 P f=true)(x:Value)(w:World):(callFunc f #[x]).run P w=.ok (.value x) w:=by
 unfold Ay7 at h
 split at h
 ·rename_i fn e
  simp only[A81]at h
  obtain⟨j,hn,d⟩:=h
  have hn : fn.name = "internal/abi.NoEscape" := by simpa using hn
  have d : fn.origin = "" := by simpa using d
  rw[run_callFunc_extern e (by rw[hn];decide) j (x_ hn d) (Arh hn)]
  rfl
 ·cases h
def Ari{x:AV}{b:UInt8}(h:Aht x=some b):x=.int .u8 (b.toNat:Int):=by
 unfold Aht at h
 split at h
 ·rename_i n
  obtain⟨e,d⟩:=uc h
  simp at d;subst d
  have:=of_decide_eq_true e
  rw[this]
 ·cases h
def bT:∀{c:LA}{s:Lu},bH c=some s->c=s.map fun b=>.int .u8 (b.toNat:Int)
|[],s,h=>by simp[bH]at h;subst h;rfl
|x::r,s,h=>by
  rw[bH]at h
  obtain⟨b,d,h⟩:=ub h
  obtain⟨l,e,h⟩:=ub h
  simp at h;subst h
  rw[Ari d,bT e];rfl
def qr{d:Nat}{ts:Array TypeId}{ty:TypeId}{x:AV}{vx:Value}{k:AV->F2->O R}(S:SimH J β h w)(q:Looks g h)(e:Yn g x k=some r)(hx:Rep J β h w x vx):
  ∃ val ups,k val ups=some r/\(UpsFree d h ups->∃ u w',(Builtin.unsafeSliceData_ ts ty #[vx]).run P w=.ok u w'/\OpDone J β h w ups val u w'):=by
 unfold Yn at e
 split at e
 ·rw[Rep]at hx;subst hx
  exact⟨_,_,e,fun _=>⟨.pointer none,w,rfl,J,β,Step.refl S,by rw[Rep]⟩⟩
 ·rename_i b off n
  obtain⟨y,s,e⟩:=ub e
  obtain⟨hn,e⟩:=uc e
  have hn:0<n:=by simpa using hn
  obtain⟨j,l⟩:=Ev q s
  rw[Rep]at hx
  obtain⟨z,A,cap,⟨m,gm⟩,rfl,v,f⟩:=hx
  rw[j]at m;simp at m;subst m
  rcases f with f|⟨t,o1,rfl,f⟩
  ·omega
  rcases f with f|⟨f,_⟩
  ·rw[f]at l;cases l
  refine⟨_,_,e,fun _=>⟨_,w,Lib.run_unsafeSliceData_row w ts ty _ n cap (by omega),J,β,Step.refl S,?_⟩⟩
  rw[Rep]
  exact⟨y,t,o1,⟨j,gm⟩,rfl,.inr f⟩
 ·cases e
def qs{d:Nat}{t it ty:TypeId}{x n:AV}{vx vn:Value}{k:AV->F2->O R}(S:SimH J β h w)(hl:Looks g h)(f:Yo P g t x n k=some r)(hx:Rep J β h w x vx)(M:Rep J β h w n vn):
  ∃ val ups,k val ups=some r/\(UpsFree d h ups->∃ u w',(Builtin.unsafeString_ #[t,it] ty #[vx,vn]).run P w=.ok u w'/\OpDone J β h w ups val u w'):=by
 unfold Yo at f
 split at f
 ·rename_i n
  obtain⟨hn,f⟩:=uc f
  have hn:n=0:=by simpa using hn
  subst hn
  simp only[Rep]at hx M;subst hx M
  exact⟨_,_,f,fun _=>⟨_,w,Lib.run_unsafeString_none w t it ty none,J,β,Step.refl S,by rw[Rep];rfl⟩⟩
 ·rename_i b off n
  obtain⟨y,hy,f⟩:=ub f
  obtain⟨q,hq,f⟩:=ub f
  split at f
  ·rename_i e he
   obtain⟨hc,f⟩:=uc f
   obtain⟨s,hs,hk⟩:=ub f
   simp only[A81,Bca,decide_eq_true_eq]at hc
   obtain⟨c1,V,c3,c4,X,c6,c7,c8⟩:=hc
   have c1:=A9d c1
   have V:=A9d V
   have X:=A9d X
   obtain⟨m,v⟩:=Ev hl hy
   simp only[Rep]at hx M;subst M
   obtain⟨z,F,o1,⟨Y,gm⟩,rfl,B⟩:=hx
   rw[m]at Y;simp at Y;subst Y
   rcases B with B|B
   ·rw[B]at v;cases v
   rcases S.blk b y m v gm with⟨e1,D⟩|⟨k2,o2,cs,ty2,fr,e1,D,e3,e4,e5,e6⟩
   ·rw[B]at e1;cases e1
   rw[B]at e1;simp at e1;obtain⟨rfl,rfl⟩:=e1
   obtain⟨rfl,rfl,_⟩:=e3.2 q.1 q.2 hq
   subst X
   have hsl:s.length=n.toNat:=by
    have:=congrArg List.length (bT hs)
    simp at this;omega
   have hsn:(n:Int)=(s.length:Int):=by omega
   subst hsn
   refine⟨_,_,hk,fun _=>⟨.string ⟨s.toArray⟩,w.freeze ⟨F,0,none⟩ s.length,?_,J,β,?_,by rw[Rep]⟩⟩
   ·refine Lib.run_unsafeString_row w t it ty q.1 (by rw[c1];exact he) (by rw[c1];exact V) F cs.size (by simp[World.shape?,D]) s (by intro e;subst e;simp at c6) (by omega) (by omega) fun j x T=>?_
    have hjl:j<s.length:=(A9h.1 T).1
    have C:y.cells[j]?=some (.int .u8 (x.toNat:Int)):=by
     have U:(y.cells.take (s.length:Int).toNat)[j]?=some (.int .u8 (x.toNat:Int)):=by rw[bT hs];simp[T]
     rw[Bay]at U
     split at U
     ·exact U
     ·cases U
    obtain⟨u,A,G⟩:=Ck.1 (e5.1 c3) j _ C
    rw[RepC]at G;subst G
    have A:cs[j]?=some (.int .u8 (x.toNat:Int)):=by simpa using A
    by_cases ej:j=0
    ·subst ej;simp[World.cell?,Addr.add,D,A]
    ·simp[World.cell?,Addr.add,D,ej,A]
   ·have ap:An [(b,none)] h=Ho h b {y with dead:=true,pure:=true,cells:=[]}:=by simp[An,m]
    rw[ap]
    have l:s.length≠0:=by omega
    refine Step.giveUp S m v c4 B gm rfl (fun j T=>?_) (by simp[World.freeze,l]) (by simp[World.freeze,l]) (by simp[World.freeze,l]) (by simp[World.freeze,l]) ?_
    ·simp only[World.freeze]
     rw[if_neg l]
     show(w.heap.modify F _)[j]?=_
     rw[Ba7,if_neg (fun e=>T e.symm)]
    ·obtain⟨lo,hi⟩:=fr
     have I:∃ L,(w.freeze ⟨F,0,none⟩ s.length).heap[F]?=some (.cells cs q.1 L):=⟨_,by simp[World.freeze,l,Ba7,D];rfl⟩
     obtain⟨L,hf⟩:=I
     rw[G2 D,G2 hf];exact A86 _
  ·cases f
 ·cases f
end
end Gx
namespace Gx
open Go
def RE(CR:AV->Value->Prop)(c:LA)(cs:List Value):Prop:=c.length=cs.length/\∀(j:Nat)(x:AV)(u:Value),c[j]?=some x->cs[j]?=some u->CR x u
def PartsRel(CR:AV->Value->Prop):List (Nat×LA)->List (Nat×Value)->Prop
|[],vs=>vs=[]
|(i,c)::r,vs=>∃ v vs',vs=(i,v)::vs'/\RE CR c v.cells.toList/\PartsRel CR r vs'
def Auv:∀(vs:List Value)(n off:Nat)(cells:Array Value)(j:Nat),
  ((vs.zipIdx n).foldl (fun(cs:Array Value)(p:Value×Nat)=>cs.setIfInBounds (off+p.2) p.1) cells)[j]?=if off+n<=j/\j<off+n+vs.length/\j<cells.size then vs[j - (off+n)]? else cells[j]?
|[],n,off,cells,j=>by simp;omega
| v::r,n,off,cells,j=>by
  rw[List.zipIdx_cons,A9u,Auv r (n+1) off]
  simp only[Bcv,A83]
  by_cases e:j=off+n
  ·subst e
   rw[if_neg (by omega)]
   by_cases d:off+n<cells.size
   ·rw[if_pos (by omega)];simp[d]
   ·rw[if_neg (by omega)];simp[d]
  ·by_cases d:off+(n+1)<=j/\j<off+(n+1)+r.length/\j<cells.size
   ·rw[if_pos d,if_pos (by omega),show j - (off+n)=(j - (off+(n+1)))+1 by omega];simp
   ·rw[if_neg d,if_neg (by omega),Bcc (by omega)]
def mR:∀(vs:List Value)(n off:Nat)(cells:Array Value),((vs.zipIdx n).foldl (fun(cs:Array Value)(p:Value×Nat)=>cs.setIfInBounds (off+p.2) p.1) cells).size=cells.size
|[],_,_,_=>rfl
|v::r,n,off,cells=>by rw[List.zipIdx_cons,A9u,mR r];simp
def I_{CR:AV->Value->Prop}{place:Nat->Option (Nat×Nat)}:∀{parts:List (Nat×LA)}{vparts:List (Nat×Value)}{c n:LA}{cs:Array Value},PartsRel CR parts vparts->RE CR c cs.toList ->
  Sw place parts c=some n->∃ d,Instr.fill place cs vparts=some d/\RE CR n d.toList
|[],vparts,c,n,cs,k,s,l=>by
  rw[PartsRel]at k;subst k
  simp[Sw]at l;subst l
  exact⟨cs,rfl,s⟩
| (i,vs)::r,vparts,c,n,cs,k,s,l=>by
  rw[PartsRel]at k
  obtain⟨v,A,rfl,y,hr⟩:=k
  rw[Sw]at l
  obtain⟨p,t,B⟩:=ub l
  obtain⟨z,C⟩:=uc B
  simp at z
  obtain⟨L,M⟩:=z
  have e1:vs.length=v.cells.size:=by have:=y.1;simpa using this
  have D:c.length=cs.size:=by have:=s.1;simpa using this
  have m:p.1+vs.length<=c.length:=by omega
  have key:RE CR (setCells c p.1 vs) (v.cells.zipIdx.foldl (fun(cs:Array Value)(q:Value×Nat)=>cs.setIfInBounds (p.1+q.2) q.1) cs).toList:=by
   have e:v.cells.zipIdx.foldl (fun(cs:Array Value)(q:Value×Nat)=>cs.setIfInBounds (p.1+q.2) q.1) cs=(v.cells.toList.zipIdx 0).foldl (fun(cs:Array Value)(q:Value×Nat)=>cs.setIfInBounds (p.1+q.2) q.1) cs:=by
    rw[<-Array.foldl_toList];simp
   rw[e]
   refine⟨by rw[T4 m,D];exact(mR _ 0 _ _).symm,fun j x u hx f=>?_⟩
   rw[VA m]at hx
   rw[Bde,Auv]at f
   simp only[Ban,Bbw]at f
   split at hx
   ·rename_i F
    rw[if_pos (by omega)]at f
    exact y.2 _ x u hx f
   ·rename_i F
    rw[if_neg (by omega)]at f
    exact s.2 j x u hx (by simpa using f)
  obtain⟨d,G,I⟩:=I_ hr key C
  refine⟨d,?_,I⟩
  rw[Instr.fill,t]
  have:¬ (v.cells.size≠p.2||p.1+v.cells.size>cs.size)=true:=by simp;omega
  simp only[this]
  exact G
section
variable{R:Type}{r:R}{P:Program}{J J':Bool->Nat->Prop}{β:De}{h:A9}{w w':World}{g:Bp}
def RepParts(J:Bool->Nat->Prop)(β:De)(h:A9)(w:World):List (Nat×AV)->List (Nat×Value)->Prop
|[],vs=>vs=[]
|(i,x)::r,vs=>∃ v vs',vs=(i,v)::vs'/\Rep J β h w x v/\RepParts J β h w r vs'
def RepParts.ext{β':De}{h':A9}(E:Ext J β h w J' β' h' w'):∀{ps:List (Nat×AV)}{vs:List (Nat×Value)},RepParts J β h w ps vs->RepParts J' β' h' w' ps vs
|[],_,hr=>hr
|(i,x)::r,vs,hr=>by
  rw[RepParts]at hr ⊢
  obtain⟨v,d,e,f,j⟩:=hr
  exact⟨v,d,e,Rep.ext E f,RepParts.ext E j⟩
def PartsRel.mono{CR CR':AV->Value->Prop}(f:∀ x u,CR x u->CR' x u):∀{ps:List (Nat×LA)}{vs:List (Nat×Value)},PartsRel CR ps vs->PartsRel CR' ps vs
|[],_,hr=>hr
|(i,c)::r,vs,hr=>by
  rw[PartsRel]at hr ⊢
  obtain⟨v,d,e,k,l⟩:=hr
  exact⟨v,d,e,⟨k.1,fun j x u hx m=>f _ _ (k.2 j x u hx m)⟩,PartsRel.mono f l⟩
def AB{J:Nat->Prop}{c:LA}{us:List Value}(e:RepCs J w c (fun j=>us[j]?) 0)(f:c.length=us.length):RE (RepC J w) c us :=
 ⟨f,fun j x u hx k=>by
  obtain⟨l,d,hr⟩:=e.at hx
  rw[k] at d;simp at d;subst d;exact hr⟩
def PO{J:Nat->Prop}{c:LA}{us:List Value}(d:RE (RepC J w) c us):RepCs J w c (fun j=>us[j]?) 0:=by
 rw[Ck]
 intro j x hx
 have:j<us.length:=by rw[<-d.1];exact(A9h.1 hx).1
 exact⟨us[j],by simp[this],d.2 j x _ hx (A84 this)⟩
def DV:∀{ps:List (Nat×AV)}{vs:List (Nat×Value)}{q:List (Nat×LA)}{ups:F2}{org:Bool}{J:Bool->Nat->Prop}{h:A9},SimH J β h w->LooksS g h->II g ps=some (q,ups,org)->RepParts J β h w ps vs ->
  ∃ J',Step J β h w J' β (An ups h) w/\PartsRel (RepC (J' org) w) q vs/\LooksS g (An ups h)/\∀ b,Bj ups b=true->∃ x,g b=some x
|[],vs,q,ups,org,J,h,S,l,d,e=>by
  simp[II]at d;obtain⟨rfl,rfl,rfl⟩:=d
  rw[RepParts]at e
  exact⟨J,Step.refl S,by rw[PartsRel];exact e,l,fun b f=>by simp[Bj]at f⟩
| (i,x)::r,vs,q,ups,org,J,h,S,l,d,e=>by
  rw[II]at d
  obtain⟨⟨c1,u1,o1⟩,D,I⟩:=ub d
  obtain⟨⟨L,u2,o2⟩,hq,F⟩:=ub I
  simp at F
  obtain⟨rfl,rfl,rfl⟩:=F
  rw[RepParts]at e
  obtain⟨v,m,rfl,n,s⟩:=e
  obtain⟨J1,A,hA,j,t⟩:=YR S l D n
  obtain⟨J2,B,hB,y,z⟩:=DV A.sim t hq (RepParts.ext A.ext s)
  refine⟨J2,by rw[Dk];exact A.trans B (fun _ _ _ _=>A86 _),?_,by rw[Dk];exact y,fun b f=>?_⟩
  ·rw[PartsRel]
   refine⟨v,m,rfl,AB (RepCs.keep (J:=J1 o1) (w:=w) (fun k C=>gF B.sim.jft _ _ k (B.ext.jsub _ k C)) (fun _ _=>rfl) (fun _=>rfl) hA) j,?_⟩
   exact PartsRel.mono (fun x u hx=>RepC.keep (J:=J2 o2) (w:=w) (fun k C=>xZ B.sim.jft _ _ k C) (fun _ _=>rfl) hx) hB
  ·rw[Ks]at f
   cases G:Bj u1 b with
   |true=>exact Ada D b G
   |false=>rw[G]at f;exact z b (by simpa using f)
def B_{place:Nat->Option (Nat×Nat)}{k:LA->O R}:∀(ps:List (Nat×LA))(c:LA),sj place ps c k=(Sw place ps c).bind k
|[],c=>rfl
|(i,vs)::r,c=>by
  rw[sj,Sw,A82]
  congr 1;funext p
  rw[B_ r]
  cases (beq vs.length p.2&&ble (p.1+p.2) c.length)<;>rfl
def mS{d len:Nat}{t:TypeId}{ps:List (Nat×AV)}{vs:List (Nat×Value)}{k:AV->F2->O R}(S:SimH J β h w)(T:Looks g h)(y:Vl P g d t len ps k=some r)(hv:RepParts J β h w ps vs):
  ∃ val ups,k val ups=some r/\(UpsFree d h ups->∃ u w',(Instr.buildSlice t len vs.toArray).run P w=.ok u w'/\OpDone J β h w ups val u w'):=by
 unfold Vl at y
 split at y
 ·rename_i el U
  obtain⟨sz,e,h1⟩:=ub y
  obtain⟨zz,hz,h2⟩:=ub h1
  obtain⟨⟨q,u1,o1⟩,hq,h3⟩:=ub h2
  obtain⟨hb,V⟩:=uc h3
  rw[B_]at V
  obtain⟨cells,X,h5⟩:=ub V
  simp at hb
  obtain⟨i,z,hi,C,rfl,D,e1,Y⟩:=Ux hz
  have f:i.size=sz:=by simp[B9,hi]at e;exact e
  refine⟨_,_,h5,fun hn=>?_⟩
  replace hn:=hn.nid (by simp[Ks,V9,Bj])
  obtain⟨J1,A,hA,_,n⟩:=DV S T.s hq hv
  have F:=VD (w:=w) (J:=J1 o1) D len (len*sz) (by rw[e1,f];exact A86 _)
  have G:RE (RepC (J1 o1) w) (G1 len (Oj z.cells.toList)) (madeCells z.cells (len*sz)).toList:=by
   refine AB (RepCs.keep (J:=J1 o1) (w:=w) (fun _ I=>I) (fun _ _=>rfl) (fun j=>by simp) F) ?_
   rw[Ij,Y,f,Bbw,size_madeCells]
  obtain⟨l,f1,f2⟩:=I_ hA G X
  have v:cells.length=len*sz:=by
   have:∀{ps:List (Nat×LA)}{c B:LA},Sw (fun i=>some (i*sz,sz)) ps c=some B->B.length=c.length:=by
    intro ps
    induction ps with
    |nil=>intro c B x;simp[Sw]at x;rw[x]
    |cons p r ih =>
     intro c B x
     obtain⟨i,vs⟩:=p
     rw[Sw]at x
     obtain⟨p,hpl,g1⟩:=ub x
     obtain⟨gb,g2⟩:=uc g1
     simp at gb
     rw[ih g2,T4 (by omega)]
   rw[this X,Ij,Y,f]
  have hcs:l.size=len*sz:=by have:=f2.1;simp at this;omega
  refine⟨.slice (some ⟨w.heap.size,0,none⟩) len len,w.alloc (.cells l el),?_,?_⟩
  ·have m:Instr.fill (fun i=>some (i*sz,sz)) ((Array.range (len*sz)).map (z.cells[·%z.cells.size]!)) vs=some l:=f1
   have L:¬ (16777216<len*sz):=by omega
   by_cases h0:len*sz=0
   ·have M:∀(a:Array Value),(Array.range (len*sz)).map (a[·%a.size]!)=#[]:=fun a=>by rw[h0];simp[Array.range_zero']
    rw[M]at m
    simp[Instr.buildSlice,run_underlying U,Dr e,h0,Array.range_zero',m,newRow]
   ·simp[Instr.buildSlice,run_underlying U,Dr e,L,h0,zeroValue,typeInfo,hi,C,m,newRow]
  ·refine OpDone.after A (mQ (sz:=sz) (fr:=(0,0)) A.sim (Auu T n hn) rfl rfl rfl FrTy.un0 v (by omega) (A86 _) ⟨fun _=>?_,fun D=>by simp at D⟩) (Uw _ _)
   have:=PO f2
   exact RepCs.keep (J:=J1 o1) (w:=w) (fun _ I=>I) (fun _ _=>rfl) (fun j=>by simp) this
 ·simp at y
def kY{t:TypeId}{ps:List (Nat×AV)}{k:AV->O R}:Ahr P t ps k=(Ahq P t ps).bind k:=by
 unfold Ahr Ahq
 rw[A82]
 congr 1;funext place
 cases (ps.all fun p=>bG p.2)with
|false=>rfl
| true =>
  simp only[cond_true]
  cases (ps.any fun p=>UT p.2)with
  | true =>
   simp only[cond_true]
   cases (ps.any fun p=>xP p.2)with
   |true =>
    simp only[cond_true]
    rw[A82]
    congr 1;funext z
    rw[B_]
    cases Sw place (M3 ps) z<;>rfl
   |false =>
    simp only[cond_false]
    rw[A82]
    congr 1;funext z
    rw[B_]
    cases Sw place (Ic ps) z<;>rfl
  |false =>
   simp only[cond_false]
   rw[A82]
   congr 1;funext z
   rw[B_]
   cases Sw place (Ic ps) z<;>rfl
def Aze{x:AV}{u:Value}(hr:RepC (fun _=>False) w x u):Rep J β h w x u:=by
 have d:∀ o:Bool,RepC (J o) w x u:=fun o=>RepC.keep (J:=fun _=>False) (w:=w) (fun _ e=>e.elim) (fun _ _=>rfl) hr
 cases x
 case imm c n sz t org=>rw[Rep];exact d org
 case iptr c org=>rw[Rep];exact d org
 case fn f c =>
  cases c with
  |nil=>rw[RepC]at hr;subst hr;rw[Rep];exact⟨[],by simp,by rw[Reps]⟩
  |cons a l=>simp[RepC]at hr
 all_goals first|(rw[RepC]at hr;rw[Rep];exact hr)|simp[RepC]at hr
def qt{d len:Nat}{t:TypeId}{ps:List (Nat×AV)}{vs:List (Nat×Value)}{k:AV->F2->O R}(S:SimH J β h w)(G:Ym P g d t len ps k=some r)(s:RepParts J β h w ps vs):
  ∃ val ups,k val ups=some r/\(UpsFree d h ups->∃ u w',(Instr.buildSlice t len vs.toArray).run P w=.ok u w'/\OpDone J β h w ups val u w'):=by
 unfold Ym at G
 split at G
 ·rename_i el q
  obtain⟨sz,l,I⟩:=ub G
  obtain⟨zz,hz,M⟩:=ub I
  obtain⟨T,h4⟩:=uc M
  obtain⟨cells,hc,h5⟩:=ub h4
  simp at T
  obtain⟨rfl,T,U⟩:=T
  obtain⟨i,z,hi,V,rfl,X,e1,e2⟩:=Ux hz
  have A:i.size=1:=by simp[B9,hi]at l;exact l
  refine⟨_,_,h5,fun hn=>?_⟩
  replace hn:=hn.nid (by simp[V9,Bj])
  have Y:=VD (w:=w) (J:=fun _=>False) X len (len*1) (by rw[e1,A];exact A86 _)
  have hz1:RE (fun x u=>Rep J β h w x u/\u.oneCell'=true) (G1 len (Oj z.cells.toList)) (madeCells z.cells (len*1)).toList:=by
   have hl:RE (RepC (fun _=>False) w) (G1 len (Oj z.cells.toList)) (madeCells z.cells (len*1)).toList:=by
    refine AB (RepCs.keep (J:=fun _=>False) (w:=w) (fun _ hk=>hk) (fun _ _=>rfl) (fun j=>by simp) Y) ?_
    rw[Ij,e2,A,Bbw,size_madeCells]
   exact⟨hl.1,fun j x u hx q=>⟨Aze (hl.2 j x u hx q),mP (hl.2 j x u hx q)⟩⟩
  have m:∀{ps:List (Nat×AV)}{vs:List (Nat×Value)},Rx g (ps.map (·.2))=true->RepParts J β h w ps vs->PartsRel (fun x u=>Rep J β h w x u/\u.oneCell'=true) (ps.map fun p=>(p.1,[p.2])) vs:=by
   intro ps
   induction ps with
   |nil=>intro vs _ s;rw[RepParts]at s;rw[A9x,PartsRel];exact s
   |cons p r ih =>
    obtain⟨i,x⟩:=p
    intro vs hs s
    rw[RepParts]at s
    obtain⟨v,vs',rfl,I,M⟩:=s
    simp[Rx]at hs
    rw[A9a,PartsRel]
    refine⟨v,vs',rfl,?_,ih (by simpa using hs.2) M⟩
    have ho:=R2 hs.1 I
    have n:v.cells=#[v]:=by cases v<;>simp_all[Value.cells,Value.oneCell']
    rw[n]
    refine⟨rfl,fun j y u hy q=>?_⟩
    cases j with
    |zero=>simp at hy q;subst hy q;exact⟨I,ho⟩
    |succ j=>simp at hy
  obtain⟨e,f1,f2⟩:=I_ (m U s) hz1 hc
  have B:cells.length=len*1:=by
   have:∀{ps:List (Nat×LA)}{c L:LA},Sw (fun i=>some (i*1,1)) ps c=some L->L.length=c.length:=by
    intro ps
    induction ps with
    |nil=>intro c L C;simp[Sw]at C;rw[C]
    |cons p r ih =>
     intro c L C
     obtain⟨i,vs⟩:=p
     rw[Sw]at C
     obtain⟨p,hpl,g1⟩:=ub C
     obtain⟨gb,g2⟩:=uc g1
     simp at gb
     rw[ih g2,T4 (by omega)]
   rw[this hc,Ij,e2,A]
  have hcs:e.size=len*1:=by have:=f2.1;simp at this;omega
  refine⟨.slice (some ⟨w.heap.size,0,none⟩) len len,w.alloc (.cells e el),?_,?_⟩
  ·have f:Instr.fill (fun i=>some (i*1,1)) ((Array.range (len*1)).map (z.cells[·%z.cells.size]!)) vs=some e:=f1
   have D:¬ (16777216<len*1):=by omega
   by_cases h0:len*1=0
   ·have hme:∀(a:Array Value),(Array.range (len*1)).map (a[·%a.size]!)=#[]:=fun a=>by rw[h0];simp[Array.range_zero']
    rw[hme]at f
    simp only[A9j]at h0
    simp[Instr.buildSlice,run_underlying q,Dr l,h0,Array.range_zero',newRow]
    simp at f
    simp[f]
   ·simp only[A9j]at f h0 D
    simp[Instr.buildSlice,run_underlying q,Dr l,D,h0,zeroValue,typeInfo,hi,V,f,newRow]
  ·refine mQ (sz:=1) (fr:=(0,0)) S hn rfl rfl rfl FrTy.un0 B (by omega) (A86 _) ⟨fun X=>by simp at X,fun _ j y hj=>?_⟩
   have F:j<e.size:=by have:=(A9h.1 hj).1;simp at this;omega
   have:=f2.2 j y e[j] hj (by simp[F])
   exact⟨e[j],by simp[F],this.1,this.2⟩
 ·simp at G
def AC{d:Nat}:∀{l:List (Nat×Nat)}{j:Nat}{c:LA}{cs:List Value}{β:De}{h:A9},SimH J β h w->1<=j->j+l.length<=16->(∀ i,j<=i->i<16->Bj (Iv d l j c).2 (nid d+i)=true->Ao h (nid d+i)=none)->Reps J β h w c cs ->
  ∃ β',Step J β h w J β' (An (Iv d l j c).2 h) w/\Reps J β' (An (Iv d l j c).2 h) w (Iv d l j c).1 cs
|[],j,c,cs,β,h,S,_,_,_,hr=>⟨β,Step.refl S,hr⟩
| (o,sz)::l,j,c,cs,β,h,S,I,C,n,hr=>by
  rw[Iv]at n ⊢
  split
  ·rename_i q
   simp only[q]at n
   simp at C
   have G:Ao h (nid d+j)=none:=n j (A86 _) (by omega) (by simp[Bj])
   have A:=Step.newNone S (d:=nid d+j) (x:=Ip sz) G rfl
   have f:=Reps.ext A.ext hr
   rw[Db]at f
   have t:Reps J (fun b=>if b=nid d+j then none else β b) (Ho h (nid d+j) (Ip sz)) w (c.set o (.own (nid d+j) 0 0)) cs:=by
    rw[Db]
    refine⟨by rw[f.1];simp,fun i y u s D=>?_⟩
    by_cases hi:i=o
    ·subst hi
     have v:i<c.length:=(A9h.1 q).1
     rw[List.getElem?_set_self v]at s;simp at s;subst s
     have F:=f.2 i _ u q D
     rw[Rep]at F;subst F
     rw[Rep]
     exact⟨Ip sz,none,0,⟨by simp[Ah],rfl⟩,rfl,A86 _,.inl rfl⟩
    ·rw[List.getElem?_set_ne (by omega)]at s
     exact f.2 i y u s D
   obtain⟨β',B,hB⟩:=AC (d:=d) (l:=l) (j:=j+1) A.sim (by omega) (by omega) (fun i hi k m=>by
    have:=n i (by omega) k (by
     rw[Bj]
     have:beq (nid d+j) (nid d+i)=false:=aH (by omega)
     rw[this];exact m)
    rw[Ah,if_neg (by omega)];exact this) t
   exact⟨β',by simp only[An];exact A.trans B (fun _ _ _ _=>A86 _),by simp only[An];exact hB⟩
  ·rename_i q
   have e:Iv d ((o,sz)::l) j c=Iv d l (j+1) c:=by
    rw[Iv]
    split
    ·rename_i z;exact absurd z (q ·)
    ·rfl
   simp at C
   split at n
   ·rename_i z;exact absurd z (q ·)
   ·exact AC S (by omega) (by omega) (fun i hi k m=>n i (by omega) k m) hr
def Arj{t:TypeId}{co:Bool}{d:Nat}{v:AV}{vc:Value}{k:AV->F2->O R}(S:SimH J β h w)(e:Awg P t co d v k=some r)(f:Rep J β h w v vc):
  ∃ val ups,k val ups=some r/\(UpsFree d h ups->OpDone J β h w ups val vc w):=by
 unfold Awg at e
 split at e
 ·rename_i c
  obtain⟨n,q⟩:=uc e
  refine⟨_,_,q,fun s=>?_⟩
  rw[Rep]at f
  obtain⟨cs,rfl,hr⟩:=f
  obtain⟨β',A,hA⟩:=AC (d:=d) (l:=Wa P t) (j:=1) S (A86 _) (by simp at n;omega) (fun i hi u m=>s _ m (by unfold RA;simp;omega)) hr
  exact⟨J,β',A,by rw[Rep];exact⟨cs,rfl,hA⟩⟩
 ·exact⟨_,_,e,fun _=>⟨J,β,Step.refl S,f⟩⟩
def tE{x:AV}{v:Value}(d:Rep J β h w x v)(m:UT x=false)(f:bG x=true):RE (Rep J β h w) (cellsOf x) v.cells.toList:=by
 have one:v.cells=#[v]->cellsOf x=[x]->RE (Rep J β h w) (cellsOf x) v.cells.toList:=fun n e=>by
  rw[n,e]
  refine⟨rfl,fun j y u k l=>?_⟩
  cases j with
  |zero=>simp at k l;subst k l;exact d
  |succ j=>simp at k
 cases x
 case pagg=>simp[UT]at m
 case agg c =>
  rw[Rep]at d
  obtain⟨cs,rfl,e⟩:=d
  rw[Db]at e
  exact⟨e.1.symm,e.2⟩
 case tup c=>simp[bG]at f
 case undef=>simp[bG]at f
 case omap=>simp[bG]at f
 case own=>rw[Rep]at d;obtain⟨_,A,cap,_,rfl,_⟩:=d;exact one rfl rfl
 case optr=>rw[Rep]at d;obtain⟨_,kk,o,_,rfl,_⟩:=d;exact one rfl rfl
 case fn=>rw[Rep]at d;obtain⟨cs,rfl,_⟩:=d;exact one rfl rfl
 case imm=>rw[Rep,RepC]at d;obtain⟨_,A,cap,rfl,_⟩:=d;exact one rfl rfl
 case iptr=>rw[Rep,RepC]at d;obtain⟨a,rfl,_⟩:=d;exact one rfl rfl
 all_goals (rw[Rep]at d;subst d;exact one rfl rfl)
def Afx{x:AV}{v:Value}(f:∀ k,J false k->J true k)(e:Rep J β h w x v)(hr:kV x=false){o:Bool}(j:Ahp x=true->o=true):RepC (J o) w x v:=by
 cases x<;>simp[kV]at hr
 case imm c n sz t org =>
  rw[Rep]at e
  refine RepC.keep (J:=J org) (w:=w) (fun k d=>?_) (fun _ _=>rfl) e
  cases org
  ·cases o
   ·exact d
   ·exact f k d
  ·rw[j rfl];exact d
 case iptr c org =>
  rw[Rep]at e
  refine RepC.keep (J:=J org) (w:=w) (fun k d=>?_) (fun _ _=>rfl) e
  cases org
  ·cases o
   ·exact d
   ·exact f k d
  ·rw[j rfl];exact d
 all_goals (rw[Rep]at e;rw[RepC];exact e)
def Aib{x:AV}{v:Value}(m:∀ k,J false k->J true k)(f:Rep J β h w x v)(hr:xP x=false){o:Bool}(n:sk x=true->o=true):RE (RepC (J o) w) (cellsOf x) v.cells.toList:=by
 have one:kV x=false->cellsOf x=[x]->sk x=Ahp x->RE (RepC (J o) w) (cellsOf x) v.cells.toList:=fun h0 d q=>by
  have A:=Afx (o:=o) m f h0 (by rw[<-q];exact n)
  have s:v.cells=#[v]:=by have:=mP A;cases v<;>simp_all[Value.cells,Value.oneCell']
  rw[s,d]
  refine⟨rfl,fun j y u e l=>?_⟩
  cases j with
  |zero=>simp at e l;subst e l;exact A
  |succ j=>simp at e
 cases x
 case pagg c org =>
  rw[Rep]at f
  obtain⟨cs,rfl,s,d⟩:=f
  refine AB (RepCs.keep (J:=J org) (w:=w) (fun k t=>?_) (fun _ _=>rfl) (fun j=>by simp[Value.cells]) d) (by simp[Value.cells,cellsOf,s])
  cases org
  ·cases o
   ·exact t
   ·exact m k t
  ·rw[n rfl];exact t
 case agg c =>
  rw[Rep]at f
  obtain⟨cs,rfl,d⟩:=f
  rw[Db]at d
  refine⟨d.1.symm,fun j y u e l=>?_⟩
  simp only[xP,Bbq]at hr
  have B:y∈c:=Bci e
  have z:kV y=false:=by simpa using hr y B
  refine Afx m (d.2 j y u e l) z (fun q=>n ?_)
  rw[sk,List.any_eq_true];exact⟨y,B,q⟩
 all_goals first|exact one hr rfl rfl|simp[xP,kV]at hr
def Awn{o:Bool}{x:AV}{v:Value}(hr:RepC (J o) w x v):Rep J β h w (Alv o x) v:=by
 cases x
 case imm=>rw[Alv,Rep];rw[RepC]at hr ⊢;exact hr
 case iptr=>rw[Alv,Rep];rw[RepC]at hr ⊢;exact hr
 case fn f c =>
  cases c with
  |nil=>rw[RepC]at hr;subst hr;show Rep J β h w (.fn f []) _;rw[Rep];exact⟨[],by simp,by rw[Reps]⟩
  |cons a b=>simp[RepC]at hr
 all_goals first|(rw[RepC]at hr;unfold Alv;rw[Rep];exact hr)|(simp[RepC]at hr)
def Ark{x:AV}{v:Value}(f:Rep J β h w x v)(m:bG x=true):RE (Rep J β h w) (xQ x) v.cells.toList:=by
 cases k:UT x with
|false =>
  have:=tE f k m
  cases x<;>first|exact this|simp[UT]at k
| true =>
  cases x<;>simp[UT]at k
  rename_i c o
  rw[Rep]at f
  obtain⟨cs,rfl,n,q⟩:=f
  refine⟨by simp[xQ,Value.cells,n],fun j y u e l=>?_⟩
  simp only[xQ,Baw]at e
  cases hx:c[j]? with
  |none=>rw[hx]at e;simp at e
  |some x0 =>
   rw[hx]at e;simp at e;subst e
   obtain⟨s,d,hr⟩:=q.at hx
   simp[Value.cells]at l
   rw[l]at d;simp at d;subst d
   exact Awn hr
def bU{CR:AV->Value->Prop}:∀{ps:List (Nat×AV)}{vs:List (Nat×Value)},RepParts J β h w ps vs->(∀ p∈ps,∀ v,Rep J β h w p.2 v->RE CR (xQ p.2) v.cells.toList)->PartsRel CR (M3 ps) vs
|[],vs,hr,_=>by rw[RepParts]at hr;rw[M3,PartsRel];exact hr
|(i,x)::r,vs,hr,e=>by
  rw[RepParts]at hr
  obtain⟨v,d,rfl,f,j⟩:=hr
  rw[M3,PartsRel]
  exact⟨v,d,rfl,e (i,x) (by simp) v f,bU j (fun p k=>e p (by simp[k]))⟩
def PP{CR:AV->Value->Prop}:∀{ps:List (Nat×AV)}{vs:List (Nat×Value)},RepParts J β h w ps vs->(∀ p∈ps,∀ v,Rep J β h w p.2 v->RE CR (cellsOf p.2) v.cells.toList)->PartsRel CR (Ic ps) vs
|[],vs,hr,_=>by rw[RepParts]at hr;rw[Ic,PartsRel];exact hr
|(i,x)::r,vs,hr,e=>by
  rw[RepParts]at hr
  obtain⟨v,d,rfl,f,j⟩:=hr
  rw[Ic,PartsRel]
  exact⟨v,d,rfl,e (i,x) (by simp) v f,PP j (fun p k=>e p (by simp[k]))⟩
def mT{t:TypeId}{place:Nat->Option (Nat×Nat)}{i:TypeInfo}{z:Value}{vs:List (Nat×Value)}{cs:Array Value}(d:bF P t=some place)(hi:P.info? t=some i)(l:i.zero=some z)
  (m:Instr.fill place z.cells vs=some cs):P.built t vs=some cs:=by
 unfold bF at d
 unfold Program.built
 split at d
 ·rename_i n e k
  cases j:P.info? e with
  |none=>simp[j]at d
  |some ie=>simp[j]at d;subst d;simp only[hi,k,l,j];exact m
 ·rename_i fs k
  cases j:fs.toList.mapM fun f=>(P.info? f.type).map fun i=>(f.offset,i.size)with
  |none=>rw[j]at d;simp at d
  |some pl =>
   rw[j]at d;simp at d;subst d
   simp only[hi,k,l,j]
   simpa using m
 ·simp at d
def Adc{t:TypeId}{ps:List (Nat×AV)}{vs:List (Nat×Value)}{k:AV->F2->O R}(S:SimH J β h w)(C:Looks g h)(m:ft P g t ps k=some r)(D:RepParts J β h w ps vs):
  ∃ val ups u,k val ups=some r/\(Instr.build t vs.toArray).run P w=.ok u w/\OpDone J β h w ups val u w:=by
 unfold ft at m
 obtain⟨place,d,F⟩:=ub m
 obtain⟨zz,G,I⟩:=ub F
 obtain⟨⟨q,u1,o1⟩,hq,n⟩:=ub I
 rw[B_]at n
 obtain⟨cells,L,M⟩:=ub n
 obtain⟨i,z,hi,e,rfl,T,e1,Y⟩:=Ux G
 obtain⟨J1,A,hA,_,v⟩:=DV S C.s hq D
 have f:RE (RepC (J1 o1) w) (Oj z.cells.toList) z.cells.toList:=by
  refine⟨BZ _,fun j x u hx U=>?_⟩
  obtain⟨y,l,V⟩:=VC (w:=w) (J:=J1 o1) T j u U
  rw[hx]at l;simp at l;subst l;exact V
 obtain⟨cs,X,B⟩:=I_ hA f L
 refine⟨_,_,.agg cs,M,run_build w t vs.toArray cs (mT d hi e (by simpa using X)),J1,β,A,?_⟩
 rw[Rep]
 exact⟨cs.toList,rfl,B.1.symm,PO B⟩
def Aic{t:TypeId}{ps:List (Nat×AV)}{vs:List (Nat×Value)}{v:AV}(S:SimH J β h w)(M:Ahq P t ps=some v)(I:RepParts J β h w ps vs):
  ∃ u,(Instr.build t vs.toArray).run P w=.ok u w/\Rep J β h w v u:=by
 unfold Ahq at M
 obtain⟨place,q,T⟩:=ub M
 obtain⟨F,s⟩:=uc T
 cases A:ps.any (fun p=>UT p.2)with
| true =>
  rw[A]at s
  cases B:ps.any (fun p=>xP p.2)with
  | true =>
   rw[B]at s
   obtain⟨zz,e,k⟩:=ub s
   unfold Afm at e
   obtain⟨i,hi,e⟩:=ub e
   cases f:i.zero with
   |none=>rw[f]at e;simp at e
   | some z =>
    rw[f]at e;simp at e;subst e
    cases l:Sw place (M3 ps) (Oj z.cells.toList)with
    |none=>rw[l]at k;simp at k
    | some c =>
     rw[l]at k;simp at k;subst k
     have d:PartsRel (Rep J β h w) (M3 ps) vs:=bU I (fun p C u D=>Ark D (A9b.1 F p C))
     have m:RE (Rep J β h w) (Oj z.cells.toList) z.cells.toList:=by
      have:=gA (J:=J) (β:=β) (h:=h) (w:=w) z.cells.toList
      rw[Db]at this
      exact⟨this.1.symm,this.2⟩
     obtain⟨cs,G,n⟩:=I_ d m l
     refine⟨.agg cs,run_build w t vs.toArray cs (mT q hi f (by simpa using G)),?_⟩
     rw[Rep]
     exact⟨cs.toList,rfl,Db.2 ⟨n.1.symm,n.2⟩⟩
  |false =>
  rw[B]at s
  have U:=s
  obtain⟨zz,e,k⟩:=ub U
  obtain⟨i,z,hi,f,rfl,V,e1,e2⟩:=Ux e
  cases l:Sw place (Ic ps) (Oj z.cells.toList)with
  |none=>rw[l]at k;simp at k
  | some c =>
   rw[l]at k;simp at k;subst k
   have d:PartsRel (RepC (J (ps.any fun p=>sk p.2)) w) (Ic ps) vs:=PP I (fun p C u D=>Aib S.jft D (by
     have:=Bbq.1 B p C;simpa using this) (fun X=>by rw[List.any_eq_true];exact⟨p,C,X⟩))
   have m:RE (RepC (J (ps.any fun p=>sk p.2)) w) (Oj z.cells.toList) z.cells.toList:=by
    refine⟨BZ _,fun j x u hx D=>?_⟩
    obtain⟨y,L,Y⟩:=VC (w:=w) (J:=J (ps.any fun p=>sk p.2)) V j u D
    rw[hx]at L;simp at L;subst L;exact Y
   obtain⟨cs,G,n⟩:=I_ d m l
   refine⟨.agg cs,run_build w t vs.toArray cs (mT q hi f (by simpa using G)),?_⟩
   rw[Rep]
   exact⟨cs.toList,rfl,n.1.symm,PO n⟩
| false =>
  rw[A]at s
  obtain⟨zz,e,k⟩:=ub s
  unfold Afm at e
  obtain⟨i,hi,e⟩:=ub e
  cases f:i.zero with
  |none=>rw[f]at e;simp at e
  | some z =>
   rw[f]at e;simp at e;subst e
   cases l:Sw place (Ic ps) (Oj z.cells.toList)with
   |none=>rw[l]at k;simp at k
   | some c =>
    rw[l]at k;simp at k;subst k
    have d:PartsRel (Rep J β h w) (Ic ps) vs:=PP I (fun p C u D=>tE D (by
      have:=Bbq.1 A p C;simpa using this) (A9b.1 F p C))
    have m:RE (Rep J β h w) (Oj z.cells.toList) z.cells.toList:=by
     have:=gA (J:=J) (β:=β) (h:=h) (w:=w) z.cells.toList
     rw[Db]at this
     exact⟨this.1.symm,this.2⟩
    obtain⟨cs,G,n⟩:=I_ d m l
    refine⟨.agg cs,run_build w t vs.toArray cs (mT q hi f (by simpa using G)),?_⟩
    rw[Rep]
    exact⟨cs.toList,rfl,Db.2 ⟨n.1.symm,n.2⟩⟩
end
end Gx
namespace Gx
open Go
section
variable{R:Type}{r:R}{P:Program}{J:Bool->Nat->Prop}{β:De}{h:A9}{w:World}
def PRd(n:Nat)(x:LA)(rd:Nat->Option Value):Prop:=∀ j q,j<n->x[j]?=some q ->
 (∀ k m,q=.int k m->rd j=some (.int k m))/\(∀ b,q=.bool b->rd j=some (.bool b))/\(∀ s,q=.str s->rd j=some (.string ⟨⟨s⟩⟩))
def PRd.drop{n m o:Nat}{x:LA}{xs:Array Value}{ox sz:Nat}(l:PRd sz x (fun j=>xs[ox+j]?))(z:o+m<=sz)(hn:n=m):PRd n (x.drop o) (fun j=>(xs.extract ox (ox+sz))[o+j]?):=by
 subst hn
 intro j q A hq
 rw[Bal]at hq
 have d:=l (o+j) q (by omega) hq
 have e:∀ v,xs[ox+(o+j)]?=some v->(xs.extract ox (ox+sz))[o+j]?=some v:=by
  intro v f
  have t:=(Bap.1 f).1
  rw[Array.getElem?_extract,if_pos (by omega)];exact f
 exact⟨fun k m u=>e _ (d.1 k m u),fun b y=>e _ (d.2.1 b y),fun s hs=>e _ (d.2.2 s hs)⟩
def IK{t:TypeId}{d:TypeDesc}{xs:Array Value}{ox:Nat}{v:Value}(e:P.underlying t=some d)(f:d.isRow=false)(j:xs[ox]?=some v):(part t xs ox).run P w=.ok v w:=by
 unfold part isAgg
 simp only[Sem.run_bind,run_underlying e,Result.andThen_ok]
 cases d<;>simp_all[TypeDesc.isRow]
def RF{t:TypeId}{d:TypeDesc}{xs:Array Value}{ox s:Nat}(e:P.underlying t=some d)(f:d.isRow=true)(hs:B9 P t=some s):(part t xs ox).run P w=.ok (.agg (xs.extract ox (ox+s))) w:=by
 unfold part isAgg
 have:=Dr hs w
 simp only[Sem.run_bind,run_underlying e,Result.andThen_ok]
 cases d<;>simp_all[TypeDesc.isRow]
def Arl(P:Program)(w:World)(D:Nat)(step:TypeId->LA->LA->(Bool->O R)->O R):Prop :=
 ∀(r:R)(t:TypeId)(s:Nat)(x y:LA)(k:Bool->O R)(xs ys:Array Value)(ox oy:Nat),B9 P t=some s->0<s->step t x y k=some r->PRd s x (fun j=>xs[ox+j]?)->PRd s y (fun j=>ys[oy+j]?) ->
  ∃ b a a',k b=some r/\(part t xs ox).run P w=.ok a w/\(part t ys oy).run P w=.ok a' w/\(Op.equalIn D t a a').run P w=.ok b w
def YS{D:Nat}{step:TypeId->LA->LA->(Bool->O R)->O R}(hs:Arl P w D step){x y:LA}{xs ys:Array Value}{ox oy sz:Nat}(hx:PRd sz x (fun j=>xs[ox+j]?))(q:PRd sz y (fun j=>ys[oy+j]?)):
  ∀(fs:List Field){k:Bool->O R},fs.all (Ahm P sz)=true->QY step x y (fs.map fun f=>(f.offset,f.type)) k=some r ->
  ∃ b,k b=some r/\(Op.eqFields D (xs.extract ox (ox+sz)) (ys.extract oy (oy+sz)) fs).run P w=.ok b w
|[],k,_,m=>⟨true,by simpa[QY]using m,by simp[Op.eqFields]⟩
| f::fs,k,n,m=>by
  rw[A9i,A81]at n
  obtain⟨l,n⟩:=n
  unfold Ahm at l
  cases d:B9 P f.type with
  |none=>rw[d]at l;simp at l
  |some s =>
   rw[d]at l
   simp only[A81,Nat.ble_eq]at l
   obtain⟨F,t,u⟩:=l
   have e : f.name≠"_" := by simpa using u
   rw[A9a,QY]at m
   obtain⟨b,a,G,v,z,A,B⟩:=hs r f.type s _ _ _ (xs.extract ox (ox+sz)) (ys.extract oy (oy+sz)) f.offset f.offset d (by omega) m (hx.drop t rfl) (q.drop t rfl)
   obtain⟨c,e1,C⟩:=YS hs hx q fs n v
   refine⟨b&&c,e1,?_⟩
   rw[Op.eqFields,if_pos e]
   simp only[Sem.run_bind,z,A,B,Result.andThen_ok]
   cases b with
   |false=>simp
   |true=>simpa using C
def bV{D:Nat}{step:TypeId->LA->LA->(Bool->O R)->O R}(hs:Arl P w D step){x y:LA}{xs ys:Array Value}{ox oy sz:Nat}{e:TypeId}{s:Nat}(d:B9 P e=some s)(f:0<s)(hx:PRd sz x (fun j=>xs[ox+j]?))(m:PRd sz y (fun j=>ys[oy+j]?)):
  ∀(is:List Nat){k:Bool->O R},(∀ i∈is,i*s+s<=sz)->QY step x y (is.map fun i=>(i*s,e)) k=some r ->
  ∃ b,k b=some r/\(Op.eqItems D e s (xs.extract ox (ox+sz)) (ys.extract oy (oy+sz)) is).run P w=.ok b w
|[],k,_,l=>⟨true,by simpa[QY]using l,by simp[Op.eqItems]⟩
|i::is,k,n,l=>by
  have q:=n i (by simp)
  rw[A9a,QY]at l
  obtain⟨b,a,C,t,u,v,z⟩:=hs r e s _ _ _ (xs.extract ox (ox+sz)) (ys.extract oy (oy+sz)) (i*s) (i*s) d f l (hx.drop q rfl) (m.drop q rfl)
  obtain⟨c,e1,A⟩:=bV hs d f hx m is (fun j B=>n j (by simp[B])) t
  refine⟨b&&c,e1,?_⟩
  rw[Op.eqItems]
  simp only[Sem.run_bind,u,v,z,Result.andThen_ok]
  cases b with
  |false=>simp
  |true=>simpa using A
def kZ:∀(d D:Nat),d<=D->Arl P w D (vF (R:=R) P d)
|0,D,_=>fun r t s x y k xs ys ox oy hs l f=>by simp[vF]at f
| d+1,D,hD=>fun r t s x y k xs ys ox oy hs l f hx L=>by
  obtain⟨D,rfl⟩:∃ D',D=D'+1:=⟨D - 1,by omega⟩
  rw[vF]at f
  split at f
  ·rename_i I j
   obtain⟨u,q,f⟩:=ub f
   obtain⟨a,A,f⟩:=ub f
   obtain⟨v,z,f⟩:=ub f
   obtain⟨b,B,f⟩:=ub f
   have M:u=.int I a:=by
    unfold jN at A;split at A
    ·obtain⟨S,T⟩:=uc A;simp[Qc]at S T;subst S T;rfl
    ·simp at A
   have eb:v=.int I b:=by
    unfold jN at B;split at B
    ·obtain⟨S,U⟩:=uc B;simp[Qc]at S U;subst S U;rfl
    ·simp at B
   have px:=(hx 0 u l (by rw[<-A90];exact q)).1 I a M
   have py:=(L 0 v l (by rw[<-A90];exact z)).1 I b eb
   exact⟨_,_,_,f,IK j rfl (by simpa using px),IK j rfl (by simpa using py),run_equalIn_int w D t I I a b j⟩
  ·rename_i j
   obtain⟨u,q,f⟩:=ub f
   obtain⟨a,A,f⟩:=ub f
   obtain⟨v,z,f⟩:=ub f
   obtain⟨b,B,f⟩:=ub f
   have M:u=.bool a:=by unfold asBool at A;split at A<;>simp_all
   have eb:v=.bool b:=by unfold asBool at B;split at B<;>simp_all
   have px:=(hx 0 u l (by rw[<-A90];exact q)).2.1 a M
   have py:=(L 0 v l (by rw[<-A90];exact z)).2.1 b eb
   exact⟨_,_,_,f,IK j rfl (by simpa using px),IK j rfl (by simpa using py),run_equalIn_bool' w D t a b j⟩
  ·rename_i j
   obtain⟨u,q,f⟩:=ub f
   obtain⟨a,A,f⟩:=ub f
   obtain⟨v,z,f⟩:=ub f
   obtain⟨b,B,f⟩:=ub f
   have M:u=.str a:=by unfold sf at A;split at A<;>simp_all
   have eb:v=.str b:=by unfold sf at B;split at B<;>simp_all
   have px:=(hx 0 u l (by rw[<-A90];exact q)).2.2 a M
   have py:=(L 0 v l (by rw[<-A90];exact z)).2.2 b eb
   refine⟨_,_,_,f,IK j rfl (by simpa using px),IK j rfl (by simpa using py),?_⟩
   have:=run_equalIn_string w D t ⟨⟨a⟩⟩ ⟨⟨b⟩⟩ j
   rw[this]
   simp[ByteArray.toList_eq]
  ·rename_i fs j
   obtain⟨sz,m,f⟩:=ub f
   obtain⟨V,F⟩:=Are f
   simp only[Baj,Bool.not_eq_false']at V
   rw[hs]at m;simp at m;subst m
   obtain⟨b,Y,h2⟩:=YS (kZ d D (by omega)) hx L fs.toList V.2 F
   refine⟨b,_,_,Y,RF j rfl hs,RF j rfl hs,?_⟩
   have X:P.fieldsOf t=fs:=by simp[Program.fieldsOf,j]
   rw[run_equalIn_struct w D t _ _ (by rw[X];exact j) V.1,X]
   exact h2
  ·rename_i n e j
   obtain⟨s',C,f⟩:=ub f
   obtain⟨sz,m,f⟩:=ub f
   obtain⟨V,F⟩:=uc f
   simp only[A81,Nat.ble_eq]at V
   rw[hs]at m;simp at m;subst m
   obtain⟨b,Y,h2⟩:=bV (kZ d D (by omega)) C (by omega) hx L (List.range n) (fun i hi=>by
    have:=List.mem_range.1 hi
    have h3:(i+1)*s'<=n*s':=A9y _ this
    rw[Bdy] at h3;omega) F
   refine⟨b,_,_,Y,RF j rfl hs,RF j rfl hs,?_⟩
   cases hi:P.info? e with
   |none=>simp[B9,hi]at C
   |some i =>
    have G:P.cellsOf e=s':=by simp[B9,hi]at C;simp[Program.cellsOf,hi,C]
    rw[run_equalIn_array w D _ _ j hi,G]
    exact h2
  ·simp at f
def Al7{c:LA}{org:Bool}{v:Value}{a:LA}{x:AV}(hx:Ahn x=some a)(hr:Rep J β h w x v):∃ cs:List Value,v=.agg ⟨cs⟩/\cs.length=a.length/\∀ n,PRd n a (fun j=>(⟨cs⟩:Array Value)[0+j]?):=by
 unfold Ahn at hx
 split at hx
 ·simp at hx;subst hx
  rw[Rep]at hr
  obtain⟨cs,t,f,A⟩:=hr
  refine⟨cs,t,f,fun n j q _ hq=>?_⟩
  rw[Ck]at A
  obtain⟨u,l,d⟩:=A j q hq
  simp only[A89]at l ⊢
  refine⟨fun k m y=>?_,fun b z=>?_,fun s hs=>?_⟩
  ·subst y;rw[RepC]at d;subst d;simpa using l
  ·subst z;rw[RepC]at d;subst d;simpa using l
  ·subst hs;rw[RepC]at d;subst d;simpa using l
 ·simp at hx;subst hx
  rw[Rep]at hr
  obtain⟨cs,t,f⟩:=hr
  rw[Db]at f
  refine⟨cs,t,f.1,fun n j q _ hq=>?_⟩
  have e:j<cs.length:=by rw[f.1];exact(A9h.1 hq).1
  have d:=f.2 j q cs[j] hq (A84 e)
  simp only[A89]
  refine⟨fun k m y=>?_,fun b z=>?_,fun s hs=>?_⟩
  ·subst y;rw[Rep]at d;simp[e,d]
  ·subst z;rw[Rep]at d;simp[e,d]
  ·subst hs;rw[Rep]at d;simp[e,d]
 ·simp at hx
def Al8{op:BinOp}{t:TypeId}{x y:AV}{k:AV->O R}{vx vy:Value}(f:Afl P t op x y k=some r)(hx:Rep J β h w x vx)(B:Rep J β h w y vy)(ox oy:Operand):
  ∃ v vc,k v=some r/\(do eqGuard op t ox oy vx vy;binOp op t vx vy:Sem Value).run P w=.ok vc w/\Rep J β h w v vc:=by
 unfold Afl at f
 split at f
 ·rename_i a b M S
  obtain⟨s,hs,f⟩:=ub f
  obtain⟨C,f⟩:=uc f
  simp only[A81,Nat.ble_eq,Bca]at C
  obtain⟨X,D,F,m,T⟩:=C
  have D:=A9d D
  have F:=A9d F
  obtain⟨cs,rfl,G,px⟩:=Al7 (c:=[]) (org:=false) M hx
  obtain⟨j,rfl,U,py⟩:=Al7 (c:=[]) (org:=false) S B
  have I:=run_eqGuard_agg w op t ox oy ⟨cs⟩ ⟨j⟩ T
  have whole:∀(l:List Value),l.length=s->(⟨l⟩:Array Value).extract 0 (0+s)=⟨l⟩:=by
   intro l G;subst G;simp
  have key:∀{kk:Bool->O R},vF P 8 t a b kk=some r->∃ c,kk c=some r/\(Op.equal t (.agg ⟨cs⟩) (.agg ⟨j⟩)).run P w=.ok c w:=by
   intro kk V
   obtain⟨c,u,Y,e1,q,e3,e4⟩:=kZ 8 10000 (by omega) r t s a b kk ⟨cs⟩ ⟨j⟩ 0 0 hs (by omega) V (px s) (py s)
   refine⟨c,e1,?_⟩
   have A:∃ d,P.underlying t=some d/\d.isRow=true:=by
    unfold Ay1 at m
    split at m
    ·rename_i fs z;exact⟨_,z,rfl⟩
    ·rename_i n e z;exact⟨_,z,rfl⟩
    ·simp at m
   obtain⟨d,z,L⟩:=A
   rw[RF z L hs,whole cs (by omega)]at q
   rw[RF z L hs,whole j (by omega)]at e3
   simp only[Result.ok.injEq,and_true]at q e3
   subst q e3
   exact e4
  split at f
  ·obtain⟨c,e1,q⟩:=key f
   refine⟨_,.bool c,e1,?_,by rw[Rep]⟩
   simp only[Sem.run_bind,I,Result.andThen_ok,binOp,q,Sem.run_pure]
  ·obtain⟨c,e1,q⟩:=key f
   refine⟨_,.bool (!c),e1,?_,by rw[Rep]⟩
   simp only[Sem.run_bind,I,Result.andThen_ok,binOp,q,Sem.run_pure]
  ·simp at f
 ·exact Ard f hx B ox oy
def Al9{t:TypeId}{x y:AV}{b:Bool}{vx vy:Value}{g:Bp}(S:SimH J β h w)(G:Looks g h)(d:Ay6 g x y=some b)(m:Ara P t=true)(hx:Rep J β h w x vx)(f:Rep J β h w y vy):
  ∃ p q,vx=.pointer p/\vy=.pointer q/\(Op.equal t (.pointer p) (.pointer q)).run P w=.ok b w:=by
 unfold Ara at m
 split at m
 ·rename_i e s
  split at m
  ·rename_i n hn
   have A:n≠0:=fun e=>by subst e;simp at m
   have s:=run_underlying (w:=w) s
   have hs:(Go.sizeOf e).run P w=.ok n w:=Dr hn w
   have nn:∀ q:Option Addr,(Op.equal t (.pointer none) (.pointer q)).run P w=.ok q.isNone w:=fun q=>by
    unfold Op.equal Op.maxDepth Op.equalIn;simp[s]
   have u:∀ a:Addr,(Op.equal t (.pointer (some a)) (.pointer none)).run P w=.ok false w:=fun q=>by
    unfold Op.equal Op.maxDepth Op.equalIn;simp[s]
   unfold Ay6 at d
   split at d
   ·simp only[Rep]at hx f;subst hx f;simp at d;subst d;exact⟨_,_,rfl,rfl,nn none⟩
   ·simp only[Rep]at hx f;obtain⟨_,k,o,_,rfl,_⟩:=f;subst hx;simp at d;subst d;exact⟨_,_,rfl,rfl,nn (some _)⟩
   ·simp only[Rep]at hx f;obtain⟨_,k,o,_,rfl,_⟩:=hx;subst f;simp at d;subst d;exact⟨_,_,rfl,rfl,u _⟩
   ·simp only[Rep]at hx f;rw[RepC]at f;obtain⟨a,rfl,_⟩:=f;subst hx;simp at d;subst d;exact⟨_,_,rfl,rfl,nn (some _)⟩
   ·simp only[Rep]at hx f;rw[RepC]at hx;obtain⟨a,rfl,_⟩:=hx;subst f;simp at d;subst d;exact⟨_,_,rfl,rfl,u _⟩
   ·rename_i L o1 M o2
    obtain⟨z,I,d⟩:=ub d
    obtain⟨B,d⟩:=uc d
    have B:=A9d B
    subst B
    obtain⟨C,j⟩:=Ev G I
    rw[Rep]at hx f
    obtain⟨x1,T,U,⟨D,_⟩,rfl,v⟩:=hx
    obtain⟨x2,V,X,⟨F,_⟩,rfl,l⟩:=f
    rw[C]at D F;simp at D F;subst D F
    rcases v with v|v
    ·rw[v]at j;cases j
    ·rcases l with l|l
     ·rw[l]at j;cases j
     ·rw[v]at l;simp at l;obtain⟨rfl,rfl⟩:=l
      refine⟨_,_,rfl,rfl,?_⟩
      simp at d
      unfold Op.equal Op.maxDepth Op.equalIn
      simp[s,hs,A,sameAddr]
      by_cases e:o1=o2
      ·subst e;simp at d;simp[d]
      ·rw[aH e]at d;subst d;simp;exact e
   ·cases d
  ·cases m
 ·cases m
def Ama{g:Bp}{op:BinOp}{t:TypeId}{x y:AV}{k:AV->O R}{vx vy:Value}(S:SimH J β h w)(j:Looks g h)(d:Afs P g t op x y k=some r)(hx:Rep J β h w x vx)(e:Rep J β h w y vy)(ox oy:Operand):
  ∃ v vc,k v=some r/\(do eqGuard op t ox oy vx vy;binOp op t vx vy:Sem Value).run P w=.ok vc w/\Rep J β h w v vc:=by
 unfold Afs at d
 split at d
 ·rename_i b l
  obtain⟨m,d⟩:=uc d
  obtain⟨p,q,rfl,rfl,f⟩:=Al9 S j l m hx e
  split at d
  ·refine⟨_,.bool b,d,?_,by rw[Rep]⟩
   simp[eqGuard,binOp,f]
  ·refine⟨_,.bool (!b),d,?_,by rw[Rep]⟩
   simp[eqGuard,binOp,f]
  ·cases d
 ·exact Al8 d hx e ox oy
end
end Gx
namespace Gx
open Go Go.MapKept
section
variable{R:Type}{r:R}{P:Program}{J:Bool->Nat->Prop}{β:De}{h:A9}{w:World}{g:Bp}
def qu:∀(l:List Int)(n:Int),xR (l.map fun m=>.int .i64 m) n=true↔n∈l
|[],n=>by simp[xR]
|m::r,n=>by
  rw[A9a,xR]
  by_cases e:n=m
  ·simp[e]
  ·simp[e,qu r n]
def Amb{c:LA}{es:Array MapEntry}{l:List Int}(j:es.toList.map (fun e=>(e.key,e.val))=l.map (fun n=>((.int .i64 n:Value),(.bool true:Value)))){x:MapEntry}(hx:x∈es.toList):∃ n,n∈l/\x.key=.int .i64 n/\x.val=.bool true:=by
 have:=A95 (f:=fun e:MapEntry=>(e.key,e.val)) hx
 rw[j]at this
 obtain⟨n,hn,d⟩:=A9p.1 this
 simp at d
 exact⟨n,hn,d.1.symm,d.2.symm⟩
def Azf{es:Array MapEntry}{l:List Int}(j:es.toList.map (fun e=>(e.key,e.val))=l.map (fun n=>((.int .i64 n:Value),(.bool true:Value)))){n:Int}(hn:n∈l):∃ x∈es.toList,x.key=.int .i64 n:=by
 have:=A95 (f:=fun n:Int=>((.int .i64 n:Value),(.bool true:Value))) hn
 rw[<-j]at this
 obtain⟨x,hx,d⟩:=A9p.1 this
 simp at d
 exact⟨x,hx,d.1⟩
def Amc{c:LA}{es:Array MapEntry}(B:A4j c es)(n:Int):
  (xR c n=false/\Instr.findNow (.int .i64) (.int .i64 n) es.toList 0=some none) \/
  (xR c n=true/\∃ j e,Instr.findNow (.int .i64) (.int .i64 n) es.toList 0=some (some (j,.bool true))/\es[j]?=some e/\e.key=.int .i64 n/\e.val=.bool true):=by
 obtain⟨l,rfl,v⟩:=B
 have y:∀ x∈es.toList,IsKey (.int .i64) x.key:=fun x hx=>by
  obtain⟨m,_,q,_⟩:=Amb (c:=[]) v hx
  rw[q];simp[IsKey]
 rcases findNow_spec (d:=.int .i64) (k:=.int .i64 n) (by simp[IsKey]) es.toList 0 y with⟨q,u⟩|⟨j,e,q,u,A⟩
 ·left
  refine⟨?_,q⟩
  cases C:xR (l.map fun m=>.int .i64 m) n with
  |false=>rfl
  |true =>
   obtain⟨x,hx,D⟩:=Azf v ((qu l n).1 C)
   exact absurd D (u x hx)
 ·right
  have s:e∈es.toList:=Bci u
  obtain⟨m,z,f,t⟩:=Amb (c:=[]) v s
  rw[A]at f;simp at f;subst f
  refine⟨(qu l n).2 z,j,e,?_,by simpa using u,A,t⟩
  rw[q,t,A89]
def xa{t:TypeId}(hs:Ahu P t=true):∃ kt et,P.underlying t=some (.map kt et)/\P.underlying kt=some (.int .i64)/\∀ w,(zeroValue et).run P w=.ok (.bool false) w:=by
 unfold Ahu at hs
 split at hs
 ·rename_i kt et k
  simp only[A81]at hs
  obtain⟨f,j⟩:=hs
  refine⟨kt,et,k,?_,fun w=>?_⟩
  ·split at f
   ·assumption
   ·cases f
  ·split at j
   ·rename_i d
    unfold xN at d
    cases hi:P.info? et with
    |none=>rw[hi]at d;simp at d
    | some i =>
     rw[hi]at d
     cases e:i.zero with
     |none=>simp[e]at d
     | some z =>
      simp[e]at d
      have:z=.bool false:=by
       have h0:=UZ (J:=fun _ _=>False) (β:=fun _=>none) (h:=[]) (w:=w) z
       rw[d,Rep]at h0;exact h0
      subst this
      simp[zeroValue,typeInfo,hi,e]
   ·cases j
 ·cases hs
def Azg{b:Nat}{x:Blk}{v:Value}(S:SimH J β h w)(f:Ao h b=some x)(j:x.dead=false)(hr:Rep J β h w (.omap b) v):
  ∃ k ob,x.mp=true/\β b=some (k,0)/\v=A51 x.sz k/\w.heap[k]?=some ob/\ObjIs x ob/\x.sealed=false/\x.pure=true:=by
 rw[Rep]at hr
 obtain⟨y,k,⟨d,l⟩,hr⟩:=hr
 rw[f]at d;simp at d;subst d
 rcases hr with hr|⟨m,n⟩
 ·simp[j]at hr
 ·obtain⟨q,s,z,ob,e,t,u,_⟩:=S.mblk b x f j l
  rw[m]at e;simp at e;subst e
  exact⟨k,ob,l,m,n,t,u,s,q⟩
def Auw{b:Nat}{x:Blk}{v:Value}(S:SimH J β h w)(f:Ao h b=some x)(j:x.dead=false)(l:x.sz=0)(hr:Rep J β h w (.omap b) v):
  ∃ k es clk,x.mp=true/\β b=some (k,0)/\v=.map (some k)/\w.heap[k]?=some (.map es clk)/\A4j x.cells es/\x.sealed=false/\x.pure=true:=by
 obtain⟨k,ob,m,n,e,q,d,s,t⟩:=Azg S f j hr
 rw[l]at e
 rcases d with⟨_,es,clk,rfl,d⟩|⟨d,_⟩
 ·exact⟨k,es,clk,m,n,e,q,d,s,t⟩
 ·omega
def A2i{b:Nat}{x:Blk}{v:Value}(S:SimH J β h w)(f:Ao h b=some x)(j:x.dead=false)(l:x.sz=1)(hr:Rep J β h w (.omap b) v):
  ∃ k s pos,x.mp=true/\β b=some (k,0)/\v=.pointer (some ⟨k,0,none⟩)/\w.heap[k]?=some (.stringIter ⟨⟨s⟩⟩ pos)/\x.cells=[.str s,.int .i64 (pos:Int)]/\x.sealed=false/\x.pure=true:=by
 obtain⟨k,ob,m,n,e,q,d,t,u⟩:=Azg S f j hr
 rw[l]at e
 rcases d with⟨d,_⟩|⟨_,s,pos,rfl,d⟩
 ·omega
 ·exact⟨k,s,pos,m,n,e,q,d,t,u⟩
def YT{k pos:Nat}{s:ByteArray}(d:w.heap[k]?=some (.stringIter s pos)):(getObj k).run P w=.ok (.stringIter s pos) w:=by simp[getObj,Sem.run,d]
def vG{k pos:Nat}{s:ByteArray}(ob:Obj)(d:w.heap[k]?=some (.stringIter s pos)):(setObj k ob).run P w=.ok () {w with heap:=w.heap.setIfInBounds k ob}:=by simp[setObj,Sem.run,d]
def Aid{d:Nat}{t:TypeId}{x:AV}{vx:Value}{k:AV->F2->O R}(S:SimH J β h w)(e:qk P d t x k=some r)(hx:Rep J β h w x vx):
  ∃ val ups,k val ups=some r/\(UpsFree d h ups->∃ vc w',(Instr.range t vx).run P w=.ok vc w'/\OpDone J β h w ups val vc w'):=by
 unfold qk at e
 split at e
 ·rename_i s f
  rw[Rep]at hx;subst hx
  refine⟨_,_,e,fun j=>⟨.pointer (some ⟨w.heap.size,0,none⟩),w.alloc (.stringIter ⟨⟨s⟩⟩ 0),?_,?_⟩⟩
  ·simp only[Instr.range,Sem.run_bind,run_underlying f,Result.andThen_ok,Sem.run_pure];rfl
  have A:=Step.newObj (x:={dead:=false,sealed:=false,pure:=true,taint:=false,sz:=1,cells:=[.str s,.int .i64 0],mp:=true}) (ob:=.stringIter ⟨⟨s⟩⟩ 0) S (j.nid (by simp[Bj])) rfl rfl rfl (.inr ⟨rfl,s,0,rfl,rfl⟩) rfl
  refine⟨_,_,A,?_⟩
  rw[Rep]
  exact⟨{dead:=false,sealed:=false,pure:=true,taint:=false,sz:=1,cells:=[.str s,.int .i64 0],mp:=true},w.heap.size,⟨by simp[An,Ah],rfl⟩,.inr ⟨by simp,rfl⟩⟩
 ·simp at e
def Amd{d:Nat}{t:TypeId}{it:AV}{b:Bool}{vi:Value}{k:AV->F2->O R}(S:SimH J β h w)(F:Looks g h)(q:Afr g it b k=some r)(hi:Rep J β h w it vi):
  ∃ val ups,k val ups=some r/\(UpsFree d h ups->∃ vc w',(Instr.next vi b t).run P w=.ok vc w'/\OpDone J β h w ups val vc w'):=by
 unfold Afr at q
 split at q
 ·rename_i G
  obtain⟨x,hx,I⟩:=ub q
  obtain⟨C,l⟩:=uc I
  simp only[A81]at C
  obtain⟨m,u⟩:=C
  have u:=A9d u
  obtain⟨D,v⟩:=Ev F hx
  obtain⟨kk,s,pos,_,L,rfl,n,y,z,A⟩:=A2i S D v u hi
  rw[y]at l
  simp only at l
  have B:=U' n
  cases e:decide ((pos:Int)<(s.length:Int))with
  | true =>
   rw[e]at l
   have e:pos<s.length:=by have:=of_decide_eq_true e;omega
   have f:pos<(⟨⟨s⟩⟩:ByteArray).size:=e
   refine⟨_,_,l,fun _=>⟨.tuple #[.bool true,goInt pos,.int .i32 ((DR s pos).1:Nat)],{w with heap:=w.heap.setIfInBounds kk (.stringIter ⟨⟨s⟩⟩ (pos+(DR s pos).2))},?_,J,β,?_,?_⟩⟩
   ·simp[Instr.next,YT n,f,vG _ n,DR]
   ·show Step J β h w J β (Ho h G _) _
    refine Step.setObj (ob:=.stringIter ⟨⟨s⟩⟩ pos) S D v m L n (by simp[B]) (fun j M=>by simp[Bck,Ne.symm M]) (by simp) rfl rfl rfl (.inr ⟨u,s,pos+(DR s pos).2,rfl,by simp⟩) v z A rfl m
   ·rw[Rep]
    refine⟨_,rfl,?_⟩
    simp[Reps,Rep,goInt]
  | false =>
   rw[e]at l
   have e:¬ pos<s.length:=by have:=of_decide_eq_false e;omega
   have f:¬ pos<(⟨⟨s⟩⟩:ByteArray).size:=e
   refine⟨_,_,l,fun _=>⟨.tuple #[.bool false],w,?_,J,β,Step.refl S,?_⟩⟩
   ·simp[Instr.next,YT n,f]
   ·rw[Rep]
    refine⟨_,rfl,?_⟩
    simp[Reps,Rep]
 ·simp at q
def xb{d:Nat}{t:TypeId}{k:AV->F2->O R}(S:SimH J β h w)(e:IT d none k=some r):
  ∃ val ups,k val ups=some r/\(UpsFree d h ups->∃ vc w',(Instr.makeMap t none).run P w=.ok vc w'/\OpDone J β h w ups val vc w'):=by
 unfold IT at e
 refine⟨_,_,e,fun f=>⟨.map (some w.heap.size),w.alloc (.map #[] 0),rfl,?_⟩⟩
 have A:=Step.newObj (x:={dead:=false,sealed:=false,pure:=true,taint:=false,sz:=0,cells:=[],mp:=true}) (ob:=.map #[] 0) S (f.nid (by simp[Bj])) rfl rfl rfl (.inl ⟨rfl,#[],0,rfl,[],rfl,by simp⟩) rfl
 refine⟨_,_,A,?_⟩
 rw[Rep]
 exact⟨{dead:=false,sealed:=false,pure:=true,taint:=false,sz:=0,cells:=[],mp:=true},w.heap.size,⟨by simp[An,Ah],rfl⟩,.inr ⟨by simp,rfl⟩⟩
def Ame{t:TypeId}{m key:AV}{c:Bool}{vm vk:Value}{k:AV->O R}(S:SimH J β h w)(z:Looks g h)(q:Afq P g t m key c k=some r)(A:Rep J β h w m vm)(f:Rep J β h w key vk):
  ∃ v vc,k v=some r/\(Instr.lookup t vm vk c).run P w=.ok vc w/\Rep J β h w v vc:=by
 unfold Afq at q
 split at q
 ·rename_i b n
  obtain⟨hs,B⟩:=uc q
  obtain⟨x,hx,C⟩:=ub B
  obtain⟨d,D⟩:=uc C
  simp only[A81]at d
  obtain⟨d,s⟩:=d
  have s:=A9d s
  obtain⟨F,G⟩:=Ev z hx
  rw[Rep]at f;subst f
  obtain⟨kk,es,clk,_,I,rfl,f,hr,_,_⟩:=Auw S F G s A
  obtain⟨kt,et,u1,u2,u3⟩:=xa hs
  refine⟨_,.bool (xR x.cells n),D,?_,by rw[Rep]⟩
  have l:IsKey (.int .i64) (.int .i64 n):=by simp[IsKey]
  rcases Amc hr n with⟨u,y⟩|⟨u,j,e,y,_,_,_⟩
  ·rw[u]
   simp[Instr.lookup,run_underlying u1,run_getObj_map f,run_checkKey u2 l,run_findKey u2 y,u3,Result.andThen]
  ·rw[u]
   simp[Instr.lookup,run_underlying u1,run_getObj_map f,run_checkKey u2 l,run_findKey u2 y,Result.andThen]
 ·simp at q
def Aie{t:TypeId}{m key val:AV}{vm vk vv:Value}{k:AV->F2->O R}(S:SimH J β h w)(X:Looks g h)(B:qj P g t m key val k=some r)(Y:Rep J β h w m vm)(f:Rep J β h w key vk)(L:Rep J β h w val vv):
  ∃ ups,k .undef ups=some r/\∃ J' β' w',(Instr.mapUpdate t vm vk vv).run P w=.ok () w'/\Step J β h w J' β' (An ups h) w':=by
 unfold qj at B
 split at B
 ·rename_i b n
  obtain⟨hs,h1⟩:=uc B
  obtain⟨x,hx,h2⟩:=ub h1
  obtain⟨d,h3⟩:=uc h2
  simp only[A81]at d
  obtain⟨d,v⟩:=d
  have v:=A9d v
  obtain⟨C,y⟩:=Ev X hx
  simp only[Rep]at f L;subst f L
  obtain⟨kk,es,clk,_,M,rfl,f,hr,z,A⟩:=Auw S C y v Y
  obtain⟨kt,et,u1,u2,u3⟩:=xa hs
  have q:IsKey (.int .i64) (.int .i64 n):=by simp[IsKey]
  have hlt:=U' f
  refine⟨_,h3,J,β,?_⟩
  rcases Amc hr n with⟨D,F⟩|⟨D,j,e,F,T,V,g5⟩
  ·refine⟨{w with heap:=w.heap.setIfInBounds kk (.map (es.push {key:=.int .i64 n,val:=.bool true,born:=clk}) (clk+1))},?_,?_⟩
   ·simp[Instr.mapUpdate,run_underlying u1,run_getObj_map f,run_checkKey u2 q,run_findKey u2 F,run_setObj_map _ f,Result.andThen]
   ·refine Step.setObj S C y d M f (heap_set f).1 (fun j G=>(heap_set f).2 j G) (by simp) rfl rfl rfl (.inl ⟨v,_,_,rfl,?_⟩) y z A rfl d
    obtain⟨l,s,u⟩:=hr
    refine⟨l++[n],?_,?_⟩
    ·show Ay5 x.cells n=_
     unfold Ay5;rw[D,s];simp
    ·simp[u]
  ·refine⟨{w with heap:=w.heap.setIfInBounds kk (.map (es.modify j fun e=>{e with key:=.int .i64 n,val:=.bool true}) clk)},?_,?_⟩
   ·simp[Instr.mapUpdate,run_underlying u1,run_getObj_map f,run_checkKey u2 q,run_findKey u2 F,T,V,run_keyThatStays q,run_setObj_map _ f,Result.andThen]
   ·refine Step.setObj S C y d M f (heap_set f).1 (fun j G=>(heap_set f).2 j G) (by simp) rfl rfl rfl (.inl ⟨v,_,_,rfl,?_⟩) y z A rfl d
    obtain⟨l,s,u⟩:=hr
    refine⟨l,?_,?_⟩
    ·show Ay5 x.cells n=_
     unfold Ay5;rw[D,s];rfl
    ·have:es.modify j (fun e=>{e with key:=.int .i64 n,val:=.bool true})=es:=by
      apply Array.ext_getElem?
      intro i
      rw[Ba7]
      split
      ·rename_i I;subst I
       rw[T];simp;rw[<-V,<-g5]
      ·rfl
     rw[this];exact u
 ·simp at B
end
end Gx
namespace Gx
open Go
def k_(E:Env):Prop:=∀(R:Type)(r:R)(k:AV->F2->O R)(J:Bool->Nat->Prop)(β:De)(h:A9)(w:World)(g:Bp)(d f:Nat)(args:LA)(vs:List Value),
 SimH J β h w->Looks g h->Aft E g d f args k=some r->Reps J β h w args vs ->
 ∃ val ups,k val ups=some r/\(UpsFree d h ups->Calls E.P f vs.toArray w fun e w'=>∃ vc,e=.returned vc/\OpDone J β h w ups val vc w')
section
variable{R:Type}{r:R}{P:Program}{J J':Bool->Nat->Prop}{β:De}{h:A9}{w w':World}{g:Bp}{o:Oper}{a:Act}{next:Act->World->Prop}{Q:Exit->Act->World->Prop}
def H1{vc:Value}(d:(execOp a.eval o).run P w=.ok (.value vc) w')(hn:next (a.put o.dst vc) w'):o.wp P a w next Q:=by unfold Oper.wp;rw[d];exact hn
def Amf(d:(execOp a.eval o).run P w=.ok .skip w')(hn:next (a.put o.dst undef) w'):o.wp P a w next Q:=by unfold Oper.wp;rw[d];exact hn
def OpDone.same(S:SimH J β h w){v:AV}{vc:Value}(d:Rep J β h w v vc):OpDone J β h w [] v vc w:=⟨J,β,Step.refl S,d⟩
def xc{s:Ji}(SS:SimS J β h w s a.tmps):∀(xs:List Operand),Reps J β h w (xs.map (ev s)) (xs.map a.eval)
|[]=>by simp[Reps]
|x::r=>by rw[A9a,A9a,Reps];exact⟨_,_,rfl,Bn SS x,xc SS r⟩
def Wc{s:Ji}(SS:SimS J β h w s a.tmps):∀(ps:List (Nat×Operand)),RepParts J β h w (ps.map fun p=>(p.1,ev s p.2)) (ps.map fun p=>(p.1,a.eval p.2))
|[]=>by simp[RepParts]
|p::r=>by rw[A9a,A9a,RepParts];exact⟨_,_,rfl,Bn SS p.2,Wc SS r⟩
def xd{s:Ji}(SS:SimS J β h w s a.tmps)(x:Option Operand):DT J β h w (x.map (ev s)) (x.map a.eval):=by
 cases x with
|none=>simp[DT]
|some x=>simp[DT];exact Bn SS x
def Reps.append:∀{c f:LA}{cs d:List Value},Reps J β h w c cs->Reps J β h w f d->Reps J β h w (c++f) (cs++d)
|[],f,cs,d,e,j=>by rw[Reps]at e;subst e;exact j
|x::r,f,cs,d,e,j=>by
  rw[Reps]at e
  obtain⟨u,us,rfl,k,l⟩:=e
  rw[A9k,A9k,Reps]
  exact⟨u,us++d,rfl,k,Reps.append l j⟩
def Amg{J:Nat->Prop}:∀{c:LA}{cs:List Value},A0 c=true->Reps (fun _ _=>False) (fun _=>none) [] w c cs->RepCs J w c (fun j=>cs[j]?) 0/\cs.length=c.length:=by
 intro c cs l hr
 rw[Db]at hr
 refine⟨?_,hr.1⟩
 rw[Ck]
 intro j x e
 have d:j<cs.length:=by rw[hr.1];exact(A9h.1 e).1
 refine⟨cs[j],by simp[d],?_⟩
 have f:=hr.2 j x cs[j] e (A84 d)
 have m:A0 [x]=true:=by
  clear hr f d
  induction c generalizing j with
  |nil=>simp at e
  |cons y r n =>
   have k:A0 r=true:=by unfold A0 at l;split at l<;>simp_all
   cases j with
   |zero=>simp at e;subst e;cases y<;>simp_all[A0]
   |succ j=>exact n k j (by simpa using e)
 cases x<;>simp[A0]at m<;>(rw[Rep]at f;rw[RepC];exact f)
def Awo{co:Bool}{v:AV}{vv:Value}(h0:∀(J:Bool->Nat->Prop)(β:De)(h:A9),Rep J β h w v vv):Rep J β h w (Ay2 co v) vv:=by
 unfold Ay2
 split
 ·rename_i c
  cases e:A0 c with
  |false=>exact h0 J β h
  |true =>
   have d:=h0 (fun _ _=>False) (fun _=>none) []
   rw[Rep]at d
   obtain⟨cs,rfl,f⟩:=d
   obtain⟨j,k⟩:=Amg (J:=J false) e f
   rw[cond_true,Rep]
   exact⟨cs,rfl,k,j⟩
 ·exact h0 J β h
def kc{d:Nat}:∀{l:List (Nat×Nat)}{j:Nat}{c:LA},1<=j->Bj (Iv d l j c).2 (nid d)=false
|[],_,_,_=>by simp[Iv,Bj]
| (o,sz)::l,j,c,e=>by
  rw[Iv]
  split
  ·simp only[Bj]
   rw[aH (by omega),cond_false]
   exact kc (by omega)
  ·exact kc (by omega)
def Ade{d:Nat}{t:TypeId}{k:AV->F2->O R}(S:SimH J β h w)(q:fu P g d t k=some r):
  ∃ v val ups,(∃ i,P.info? t=some i/\i.zero=some v)/\k val ups=some r/\(UpsFree d h ups->∃ vc w',(Instr.box t v).run P w=.ok vc w'/\OpDone J β h w ups val vc w'):=by
 unfold fu at q
 split at q
 ·rename_i c m
  obtain⟨B,I⟩:=uc q
  simp only[A81]at B
  obtain⟨L,s⟩:=B
  obtain⟨v,M,T⟩:∃ v,(∃ i,P.info? t=some i/\i.zero=some v)/\qZ v=.agg c:=by
   unfold xN at m
   cases hi:P.info? t with
   |none=>simp[hi]at m
   |some i =>
    cases f:i.zero with
    |none=>simp[hi,f]at m
    |some v=>simp[hi,f]at m;exact⟨v,⟨i,rfl,f⟩,m⟩
  have hr:=UZ (J:=J) (β:=β) (h:=h) (w:=w) v
  rw[T,Rep]at hr
  obtain⟨cs,rfl,hr⟩:=hr
  refine⟨_,_,_,M,I,fun C=>⟨_,_,VB,?_⟩⟩
  have hn:=C.nid (by simp[Ks,V9,Bj])
  obtain⟨β',A,hA⟩:=AC (d:=d) (l:=Wa P t) (j:=1) S (A86 _) (by simp at L;omega) (fun i hi U x=>C _ (by rw[Ks,x];rfl) (by unfold RA;simp;omega)) hr
  have z:Ao (An (Iv d (Wa P t) 1 c).2 h) (nid d)=none:=by rw[Dl _ _ _ (kc (A86 _))];exact hn
  have n:∀(j:Nat) u,cs[j]?=some u->u.oneCell'=true:=fun j u D=>by
   rw[Db]at hr
   have e:j<c.length:=by rw[<-hr.1];exact(A9h.1 D).1
   exact R2 (F' s j c[j] (A84 e)) (hr.2 j c[j] u (A84 e) D)
  rw[Db]at hA
  refine OpDone.after A (gE A.sim z rfl rfl (by simp[Value.cells,hA.1]) ⟨fun V=>by simp at V,fun _ j y G=>?_⟩) (Uw _ _)
  have e:j<cs.length:=by rw[hA.1];exact(A9h.1 G).1
  exact⟨cs[j],by simp[Value.cells,e],hA.2 j y _ G (A84 e),n j _ (A84 e)⟩
 ·simp at q
def Aif{co:Bool}{d:Nat}{t:TypeId}{k:AV->F2->O R}(S:SimH J β h w)(F:Looks g h)(l:qe P g co d t k=some r):
  ∃ v val ups,(∃ i,P.info? t=some i/\i.zero=some v)/\k val ups=some r/\(UpsFree d h ups->∃ vc w',(Instr.box t v).run P w=.ok vc w'/\OpDone J β h w ups val vc w'):=by
 have zv:∀{z:AV},xN P t=some z->∃ v,(∃ i,P.info? t=some i/\i.zero=some v)/\qZ v=z:=by
  intro z f
  unfold xN at f
  cases hi:P.info? t with
  |none=>simp[hi]at f
  |some i =>
   cases m:i.zero with
   |none=>simp[hi,m]at f
   |some v=>simp[hi,m]at f;exact⟨v,⟨i,rfl,m⟩,f⟩
 unfold qe at l
 split at l
 ·rename_i L M f
  obtain⟨v,n,q⟩:=zv f
  obtain⟨sz,hs,l⟩:=ub l
  refine⟨v,_,_,n,l,fun D=>⟨_,_,VB,?_⟩⟩
  have hr:=UZ (J:=J) (β:=β) (h:=h) (w:=w) v
  rw[q,Rep]at hr;subst hr
  have s:∀ b,b=nid d+1->RA d b=true:=fun b G=>by subst G;unfold RA nid;simp
  have u:Ao h (nid d+1)=none:=D _ (by simp[Bj]) (s _ rfl)
  have B:Ao h (nid d)=none:=D.nid (by simp[Bj])
  have A:=Step.newNone S (d:=nid d+1) (x:=Ip sz) u rfl
  have e:([(nid d+1,some (Ip sz)),(nid d,some {dead:=false,sealed:=false,pure:=false,taint:=false,sz:=0,cells:=[.own (nid d+1) 0 0]})]:F2)=[(nid d+1,some (Ip sz))]++[(nid d,some {dead:=false,sealed:=false,pure:=false,taint:=false,sz:=0,cells:=[.own (nid d+1) 0 0]})]:=rfl
  rw[e]
  refine OpDone.after A (gE A.sim ?_ rfl rfl (by simp[Value.cells]) ⟨fun I=>by simp at I,fun _ j y C=>?_⟩) (Uw _ _)
  ·simp only[An];rw[Ah,if_neg (by omega)];exact B
  ·cases j with
   |zero =>
    simp at C;subst C
    refine⟨.slice none 0 0,by simp[Value.cells],?_,rfl⟩
    rw[Rep]
    exact⟨Ip sz,none,0,⟨by simp[An,Ah],rfl⟩,rfl,A86 _,.inl rfl⟩
   |succ j=>simp at C
 ·rename_i z f _
  obtain⟨v,n,q⟩:=zv f
  obtain⟨val,ups,u,B⟩:=xX S F l (vv:=v) (Awo fun J β h=>by rw[<-q];exact UZ v)
  exact⟨v,val,ups,n,u,B⟩
 ·simp at l
def Amh{c x y:AV}{vc vx vy:Value}{k:AV->O R}(d:Afu c x y k=some r)(e:Rep J β h w c vc)(hx:Rep J β h w x vx)(f:Rep J β h w y vy):
  ∃ v,k v=some r/\∃ t:Bool,vc=.bool t/\Rep J β h w v (if t then vx else vy):=by
 unfold Afu at d
 split at d
 ·rename_i t a b
  rw[Rep]at e hx f
  subst e hx f
  exact⟨_,d,t,rfl,by cases t<;>simp[Rep]⟩
 ·rename_i t x _
  rw[Rep]at e;subst e
  obtain⟨j,l⟩:=uc d
  subst j
  exact⟨_,l,true,rfl,hx⟩
 ·rename_i t _ _ _
  rw[Rep]at e;subst e
  obtain⟨j,l⟩:=Are d
  subst j
  exact⟨_,l,false,rfl,f⟩
 ·rename_i t _ _ _
  rw[Rep]at e;subst e
  cases t
  ·exact⟨_,d,false,rfl,f⟩
  ·exact⟨_,d,true,rfl,hx⟩
 ·simp at d
def Arm {E:Env} (hC:k_ E) {d:Nat} {s:Ji} {k:AV->F2->O R} (S:SimH J β h w) (SS:SimS J β h w s a.tmps) (U:Looks g h)
  (A:Ac9 E g d (ev s) o.op k=some r) :
  ∃ val ups,k val ups=some r/\(UpsFree d h ups->(∀ vc w',OpDone J β h w ups val vc w'->next (a.put o.dst vc) w')->o.wp E.P a w next Q):=by
 unfold Ac9 at A
 have same:∀{v:AV}{vc:Value},k v []=some r->(execOp a.eval o).run E.P w=.ok (.value vc) w->Rep J β h w v vc ->
   ∃ val ups,k val ups=some r/\(UpsFree d h ups->(∀ vc w',OpDone J β h w ups val vc w'->next (a.put o.dst vc) w')->o.wp E.P a w next Q) :=
  fun hk Y hr=>⟨_,_,hk,fun _ hn=>H1 Y (hn _ _ (OpDone.same S hr))⟩
 split at A
 ·rename_i x F
  exact same A (by simp[execOp,F]) (Bn SS x)
 ·rename_i x F
  exact same A (by simp[execOp,F]) (Bn SS x)
 ·rename_i c x y F
  obtain⟨v,B,C⟩:=Amh A (Bn SS c) (Bn SS x) (Bn SS y)
  obtain⟨t,ht,hr⟩:=C
  refine same B (vc:=if t then a.eval x else a.eval y) ?_ hr
  cases t<;>simp[execOp,F,ht,Go.asBool]
 ·rename_i t F
  obtain⟨v,val,ups,h0,B,C⟩:∃ v val ups,(∃ i,E.P.info? t=some i/\i.zero=some v)/\k val ups=some r/\(UpsFree d h ups->∃ vc w',(Instr.box t v).run E.P w=.ok vc w'/\OpDone J β h w ups val vc w'):=by
   cases hm:Kj E.cob (d+1000000)with
   |true=>rw[hm]at A;exact Ade S A
   |false=>rw[hm]at A;exact Aif S U A
  refine⟨val,ups,B,fun T hn=>?_⟩
  obtain⟨vc,w',D,G⟩:=C T
  refine H1 ?_ (hn vc w' G)
  rw[VB]at D
  simp only[Result.ok.injEq]at D
  obtain⟨rfl,rfl⟩:=D
  obtain⟨i,hi,hiz⟩:=h0
  simp[execOp,F,Instr.alloc,zeroValue,typeInfo,hi,hiz,newVar,newRow]
 ·rename_i t x F
  obtain⟨v',h0,hv'⟩:=Ah5 A (Bn SS x)
  obtain⟨val,ups,B,C⟩:=xX S U h0 hv'
  refine⟨val,ups,B,fun T hn=>?_⟩
  obtain⟨vc,w',D,G⟩:=C T
  exact H1 (by simp[execOp,F,D]) (hn vc w' G)
 ·rename_i t parts F
  have:(parts.map fun p=>(p.1,a.eval p.2))=(parts.toList.map fun p=>(p.1,a.eval p.2)).toArray:=by apply Bao;simp
  cases hco:Kj E.cob (d+4000000)with
  |true =>
   rw[hco]at A
   obtain⟨val,ups,u,B,C,D⟩:=Adc S U A (Wc SS parts.toList)
   exact⟨val,ups,B,fun _ hn=>H1 (by simp[execOp,F,this,C]) (hn _ _ D)⟩
  |false =>
  rw[hco,cond_false,kY]at A
  obtain⟨v,M,A⟩:=ub A
  obtain⟨u,B,C⟩:=Aic (P:=E.P) S M (Wc SS parts.toList)
  obtain⟨val,ups,D,G⟩:=Arj S A C
  refine⟨val,ups,D,fun T hn=>H1 ?_ (hn _ _ (G T))⟩
  simp[execOp,F,this,B]
 ·rename_i t len parts F
  have:(parts.map fun p=>(p.1,a.eval p.2))=(parts.toList.map fun p=>(p.1,a.eval p.2)).toArray:=by apply Bao;simp
  cases hhard:(parts.toList.map fun p=>(p.1,ev s p.2)).any fun p=>Ay3 p.2 with
  |true =>
   rw[hhard]at A
   obtain⟨val,ups,B,C⟩:=qt S A (Wc SS parts.toList)
   refine⟨val,ups,B,fun T hn=>?_⟩
   obtain⟨vc,w',D,G⟩:=C T
   exact H1 (by simp[execOp,F,this,D]) (hn vc w' G)
  |false =>
   rw[hhard]at A
   obtain⟨val,ups,B,C⟩:=mS S U A (Wc SS parts.toList)
   refine⟨val,ups,B,fun T hn=>?_⟩
   obtain⟨vc,w',D,G⟩:=C T
   exact H1 (by simp[execOp,F,this,D]) (hn vc w' G)
 ·rename_i t p F
  obtain⟨v,vc,B,C,D⟩:=tA S U A (Bn SS p)
  exact same B (by simp[execOp,F,C]) D
 ·rename_i t p x F
  obtain⟨val,ups,B,J',β',w',C,D,rfl⟩:=Ah4 S U A (Bn SS p) (Bn SS x)
  exact⟨.undef,ups,B,fun _ hn=>Amf (w':=w') (by simp[execOp,F,C]) (hn undef w' ⟨J',β',D,by simp[Rep]⟩)⟩
 ·rename_i x F
  have B:=Bn SS x
  split at A
  ·rename_i c oo hx
   rw[hx]at B
   refine same A (vc:=a.eval x) ?_ B
   rw[Rep,RepC]at B
   obtain⟨ad,C,_⟩:=B
   simp[execOp,F,C]
  ·rename_i b oo hx
   rw[hx]at B
   refine same A (vc:=a.eval x) ?_ B
   rw[Rep]at B
   obtain⟨_,kk,o',_,C,_⟩:=B
   simp[execOp,F,C]
  ·simp at A
 ·rename_i op t x y t2 F
  obtain⟨v,vc,B,C,D⟩:=Ama S U A (Bn SS x) (Bn SS y) x y
  refine same B ?_ D
  simp only[execOp,F]
  rw[Sem.run_bind,C];simp
 ·rename_i op t x F
  obtain⟨v,M,A⟩:=ub A
  obtain⟨vc,C,D⟩:=Awk (P:=E.P) M (Bn SS x)
  exact same A (by simp[execOp,F,C]) D
 ·rename_i src dst x F
  obtain⟨val,ups,B,C⟩:=Aia S U A (Bn SS x)
  refine⟨val,ups,B,fun T hn=>?_⟩
  obtain⟨vc,w',D,G⟩:=C T
  exact H1 (by simp[execOp,F,D]) (hn vc w' G)
 ·rename_i f first caps F
  obtain⟨T,A⟩:=uc A
  have hf':f<1000000:=by simpa using T
  have key:∀(a n:Nat),a<1000000->(a+1000000*n)%1000000=a/\(a+1000000*n)/1000000=n:=by intro a n h;omega
  have e1:=(key f first.toList.length hf').1
  have e2:=(key f first.toList.length hf').2
  refine same (vc:=.func (.func f) ⟨first.toList.map a.eval⟩ ⟨caps.toList.map a.eval⟩) A ?_ ?_
  ·simp only[execOp,F,Instr.makeFunc]
   simp
   refine⟨?_,?_⟩<;>(apply Bao;simp)
  ·rw[Rep,e1,e2]
   refine⟨(first.toList++caps.toList).map a.eval,?_,xc SS _⟩
   simp
 ·rename_i t l c F
  obtain⟨val,ups,B,C⟩:=Al2 S A (Bn SS l) (Bn SS c)
  refine⟨val,ups,B,fun T hn=>?_⟩
  obtain⟨vc,w',D,G⟩:=C T
  exact H1 (by simp[execOp,F,D]) (hn vc w' G)
 ·rename_i t x lo hi mx F
  obtain⟨v,vc,B,C,D⟩:=Ah3 S U A (Bn SS x) (xd SS lo) (xd SS hi) (xd SS mx)
  exact same B (by simp[execOp,F,C]) D
 ·rename_i t x f F
  obtain⟨v,vc,B,C,D⟩:=qq A (Bn SS x)
  exact same B (by simp[execOp,F,C]) D
 ·rename_i t x f F
  obtain⟨v,vc,B,C,D⟩:=Ah1 A (Bn SS x)
  exact same B (by simp[execOp,F,C]) D
 ·rename_i t x i F
  obtain⟨v,vc,B,C,D⟩:=qp A (Bn SS x) (Bn SS i)
  exact same B (by simp[execOp,F,C]) D
 ·rename_i t x i F
  obtain⟨v,vc,B,C,D⟩:=Ah2 A (Bn SS x) (Bn SS i)
  exact same B (by simp[execOp,F,C]) D
 ·rename_i t rr F
  cases rr with
  |some x=>simp[IT]at A
  |none =>
   obtain⟨val,ups,B,C⟩:=xb (P:=E.P) (t:=t) S A
   refine⟨val,ups,B,fun T hn=>?_⟩
   obtain⟨vc,w',D,G⟩:=C T
   exact H1 (by simp[execOp,F,D]) (hn vc w' G)
 ·rename_i t m x y F
  obtain⟨ups,B,J',β',w',C,D⟩:=Aie S U A (Bn SS m) (Bn SS x) (Bn SS y)
  exact⟨.undef,ups,B,fun _ hn=>Amf (w':=w') (by simp[execOp,F,C]) (hn undef w' ⟨J',β',D,by simp[Rep]⟩)⟩
 ·rename_i t m x c F
  obtain⟨v,vc,B,C,D⟩:=Ame S U A (Bn SS m) (Bn SS x)
  exact same B (by simp[execOp,F,C]) D
 ·rename_i t x F
  obtain⟨val,ups,B,C⟩:=Aid (P:=E.P) S A (Bn SS x)
  refine⟨val,ups,B,fun T hn=>?_⟩
  obtain⟨vc,w',D,G⟩:=C T
  exact H1 (by simp[execOp,F,D]) (hn vc w' G)
 ·rename_i x b F
  obtain⟨val,ups,B,C⟩:=Amd (P:=E.P) (d:=d) (t:=o.type) S U A (Bn SS x)
  refine⟨val,ups,B,fun T hn=>?_⟩
  obtain⟨vc,w',D,G⟩:=C T
  exact H1 (by simp[execOp,F,D]) (hn vc w' G)
 ·rename_i t i F
  split at A
  ·rename_i vs ht
   obtain⟨v,M,A⟩:=ub A
   have B:=Bn SS t
   rw[ht,Rep]at B
   obtain⟨cs,C,D⟩:=B
   rw[Db]at D
   have hlt:i<cs.length:=by rw[D.1];exact(A9h.1 M).1
   refine same A (vc:=cs[i]) ?_ (D.2 i v _ M (A84 hlt))
   simp[execOp,F,Instr.extract,C,hlt]
  ·simp at A
 ·rename_i c F
  split at A
  ·rename_i V
   split at A
   ·rename_i x t B C
    obtain⟨v,M,A⟩:=ub A
    have e1:c.args=#[x]:=by apply Bao;simpa using B
    have e2:c.argTypes=#[t]:=by apply Bao;simpa using C
    obtain⟨vc,D,G⟩:=Arf (P:=E.P) (ty:=o.type) M (Bn SS x)
    refine same A ?_ G
    simp[execOp,F,resolve,V,e1,e2,invoke,builtin,D]
   ·simp at A
  ·rename_i V
   split at A
   ·rename_i x y t tx B C
    have e1:c.args=#[x,y]:=by apply Bao;simpa using B
    have e2:c.argTypes=#[t,tx]:=by apply Bao;simpa using C
    obtain⟨val,ups,D,G⟩:=Adb (ty:=o.type) S U A (Bn SS x) (Bn SS y)
    refine⟨val,ups,D,fun T hn=>?_⟩
    obtain⟨vc,w',h5,h6⟩:=G T
    refine H1 ?_ (hn vc w' h6)
    simp[execOp,F,resolve,V,e1,e2,invoke,builtin,h5]
   ·simp at A
  ·rename_i V
   split at A
   ·rename_i x y t tx B C
    have e1:c.args=#[x,y]:=by apply Bao;simpa using B
    have e2:c.argTypes=#[t,tx]:=by apply Bao;simpa using C
    obtain⟨val,ups,D,vc,w',h5,h6⟩:=Al5 (tx:=tx) (ty:=o.type) S U A (Bn SS x) (Bn SS y)
    refine⟨val,ups,D,fun T hn=>?_⟩
    refine H1 ?_ (hn vc w' h6)
    simp[execOp,F,resolve,V,e1,e2,invoke,builtin,h5]
   ·simp at A
  ·rename_i V
   split at A
   ·rename_i x t B C
    have e1:c.args=#[x]:=by apply Bao;simpa using B
    have e2:c.argTypes=#[t]:=by apply Bao;simpa using C
    obtain⟨val,ups,D,vc,w',h5,h6⟩:=Ah9 (ty:=o.type) S U A (Bn SS x)
    refine⟨val,ups,D,fun T hn=>?_⟩
    refine H1 ?_ (hn vc w' h6)
    simp[execOp,F,resolve,V,e1,e2,invoke,builtin,h5]
   ·simp at A
  ·rename_i V
   split at A
   ·rename_i x y B
    obtain⟨v,M,A⟩:=ub A
    have e1:c.args=#[x,y]:=by apply Bao;simpa using B
    have C:=Bn SS x
    have D:=Bn SS y
    unfold Awi at M
    split at M
    ·rename_i k1 a1 k2 a2 hx hy
     simp at M;subst M
     rw[hx,Rep]at C;rw[hy,Rep]at D
     refine same A (vc:=.int k1 (Ms a1 a2)) ?_ (by rw[Rep])
     simp[execOp,F,resolve,V,e1,invoke,builtin,C,D,Builtin.min_,Builtin.min2,Ms,cond_eq_ite]
    ·simp at M
   ·rename_i x y z B
    obtain⟨q,hq,A⟩:=ub A
    obtain⟨v,M,A⟩:=ub A
    have e1:c.args=#[x,y,z]:=by apply Bao;simpa using B
    have C:=Bn SS x
    have D:=Bn SS y
    have G:=Bn SS z
    unfold Awi at hq
    split at hq
    ·rename_i k1 a1 k2 a2 hx hy
     simp at hq;subst hq
     unfold Awi at M
     split at M
     ·rename_i k3 a3 k4 a4 hx2 hz
      simp at hx2;obtain⟨rfl,rfl⟩:=hx2
      simp at M;subst M
      rw[hx,Rep]at C;rw[hy,Rep]at D;rw[hz,Rep]at G
      refine same A (vc:=.int k1 (Ms (Ms a1 a2) a4)) ?_ (by rw[Rep])
      simp[execOp,F,resolve,V,e1,invoke,builtin,C,D,G,Builtin.min_,Builtin.min2,Ms,cond_eq_ite]
     ·simp at M
    ·simp at hq
   ·simp at A
  ·rename_i V
   split at A
   ·rename_i x y B
    obtain⟨v,M,A⟩:=ub A
    have e1:c.args=#[x,y]:=by apply Bao;simpa using B
    have C:=Bn SS x
    have D:=Bn SS y
    unfold Awj at M
    split at M
    ·rename_i k1 a1 k2 a2 hx hy
     simp at M;subst M
     rw[hx,Rep]at C;rw[hy,Rep]at D
     refine same A (vc:=.int k1 (Awh a1 a2)) ?_ (by rw[Rep])
     simp[execOp,F,resolve,V,e1,invoke,builtin,C,D,Builtin.max_,Builtin.max2,Awh,cond_eq_ite]
    ·simp at M
   ·rename_i x y z B
    obtain⟨q,hq,A⟩:=ub A
    obtain⟨v,M,A⟩:=ub A
    have e1:c.args=#[x,y,z]:=by apply Bao;simpa using B
    have C:=Bn SS x
    have D:=Bn SS y
    have G:=Bn SS z
    unfold Awj at hq
    split at hq
    ·rename_i k1 a1 k2 a2 hx hy
     simp at hq;subst hq
     unfold Awj at M
     split at M
     ·rename_i k3 a3 k4 a4 hx2 hz
      simp at hx2;obtain⟨rfl,rfl⟩:=hx2
      simp at M;subst M
      rw[hx,Rep]at C;rw[hy,Rep]at D;rw[hz,Rep]at G
      refine same A (vc:=.int k1 (Awh (Awh a1 a2) a4)) ?_ (by rw[Rep])
      simp[execOp,F,resolve,V,e1,invoke,builtin,C,D,G,Builtin.max_,Builtin.max2,Awh,cond_eq_ite]
     ·simp at M
    ·simp at hq
   ·simp at A
  ·rename_i V
   split at A
   ·rename_i x B
    have e1:c.args=#[x]:=by apply Bao;simpa using B
    obtain⟨val,ups,D,G⟩:=qr (P:=E.P) (d:=d) (ts:=c.argTypes) (ty:=o.type) S U A (Bn SS x)
    refine⟨val,ups,D,fun T hn=>?_⟩
    obtain⟨vc,w',h5,h6⟩:=G T
    refine H1 ?_ (hn vc w' h6)
    simp[execOp,F,resolve,V,e1,invoke,builtin,h5]
   ·simp at A
  ·rename_i V
   split at A
   ·rename_i x y t tx B C
    have e1:c.args=#[x,y]:=by apply Bao;simpa using B
    have e2:c.argTypes=#[t,tx]:=by apply Bao;simpa using C
    obtain⟨val,ups,D,G⟩:=qs (d:=d) (it:=tx) (ty:=o.type) S U A (Bn SS x) (Bn SS y)
    refine⟨val,ups,D,fun T hn=>?_⟩
    obtain⟨vc,w',h5,h6⟩:=G T
    refine H1 ?_ (hn vc w' h6)
    simp[execOp,F,resolve,V,e1,e2,invoke,builtin,h5]
   ·simp at A
  ·rename_i fo V
   split at A
   ·rename_i f0 caps T
    have B:=Bn SS fo
    rw[T,Rep]at B
    obtain⟨cs0,C,X⟩:=B
    cases I:Ahx E.P (f0%1000000)with
    | false =>
     rw[I,cond_false]at A
     obtain⟨hne,A⟩:=uc A
     split at A
     ·rename_i x L hold
      rw[Reps]at X;subst X
      obtain⟨y,hy,rfl⟩:∃ y,c.args=#[y]/\x=ev s y:=by
       cases U:c.args.toList with
       |nil=>rw[U]at L;cases L
       |cons y l =>
        rw[U]at L;simp at L
        exact⟨y,by apply Bao;rw[U,L.2],L.1.symm⟩
      refine same (vc:=a.eval y) A ?_ (Bn SS y)
      simp only[execOp,F,Sem.run_bind,resolve,V,C,Deferred.ofValue,Sem.run_pure,Result.andThen_ok,invoke,hy]
      simpa using Awm hne (a.eval y) w
     ·simp at A
    |true =>
    rw[I,cond_true]at A
    have htk:Reps J β h w (caps.take (f0/1000000)) (cs0.take (f0/1000000))/\Reps J β h w (caps.drop (f0/1000000)) (cs0.drop (f0/1000000)):=by
     rw[Db]at X
     refine⟨Db.2 ⟨by simp[X.1],fun j x u hx hu=>?_⟩,Db.2 ⟨by simp[X.1],fun j x u hx hu=>?_⟩⟩
     ·rw[Bay]at hx hu
      split at hx
      ·rename_i hj;rw[if_pos hj]at hu;exact X.2 j x u hx hu
      ·simp at hx
     ·rw[Bal]at hx hu;exact X.2 _ x u hx hu
    generalize f0%1000000=f at *
    generalize cs0.take (f0/1000000)=fs at *
    generalize cs0.drop (f0/1000000)=cs at *
    obtain⟨val,ups,G,h5⟩:=hC R r k J β h w g d f _ _ S U A (htk.1.append ((xc SS c.args.toList).append htk.2))
    refine⟨val,ups,G,fun hfr hn=>?_⟩
    have hcall:=h5 hfr
    unfold Ahx at I
    cases hfn:E.P.funcs[f]? with
    |none=>rw[hfn]at I;simp at I
    | some fn =>
     rw[hfn]at I
     simp at I
     obtain⟨hb1,hb2⟩:=I
     have hb3:fn.body.isNone=false:=by cases hq:fn.body<;>simp_all
     have L:(⟨fs⟩:Array Value)++c.args.map a.eval++(⟨cs⟩:Array Value)=(fs++(c.args.toList.map a.eval++cs)).toArray:=by apply Bao;simp
     have Y:(execOp a.eval o).run E.P w=.ok (.enter f (fs++(c.args.toList.map a.eval++cs)).toArray) w:=by
      simp only[execOp,F,Sem.run_bind,resolve,V,C,Deferred.ofValue,Sem.run_pure,Result.andThen_ok,invoke,callFunc,run_program,hfn]
      simp only[hb3,L]
      simp[hb2]
     unfold Oper.wp
     rw[Y]
     refine Calls.mono hcall ?_
     rintro e w' ⟨vc,rfl,hd⟩
     exact hn vc w' hd
   ·simp at A
  ·simp at A
 ·simp at A
end
end Gx
