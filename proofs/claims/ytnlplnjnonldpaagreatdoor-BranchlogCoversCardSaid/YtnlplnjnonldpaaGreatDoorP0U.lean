/- A part of the proof; each theorem says what it holds. -/
import GoSem.Step
import Derived.KernelRfl
import Derived.WalkKit
import Derived.Deep.MidRow
import Derived.Deep.AppendSrc
import Derived.Laws.IdiomStrings
import Derived.Deep.Upon
import Derived.Lib.Builder
import Derived.Laws.BytesString
import Derived.Lib.UnsafeStr
import Derived.Laws.Externs
import Derived.Laws.Tables
import Derived.Laws.StructEq
import Derived.ChangeKeysEq
import Derived.MapKept
set_option linter.unusedVariables false
set_option linter.defProp false
set_option linter.unusedSimpArgs false
open Nat (ble beq)
open List (take drop replicate)
open Go.IntKind (wrap)
namespace Gx
abbrev Lu:=List UInt8
def Akt:=@List.take_of_length_le
def Aku:=@Int.toNat_natCast
def Akv:=@Option.bind_assoc
def Akw:=@Nat.le_refl
def Akx:=@List.length_append
def Aky:=@List.getElem?_eq_getElem
def Akz:=@Nat.zero_add
def Ak0:=@Nat.eq_of_beq_eq_true
def Ak1:=@Bool.and_eq_true
def Ak2:=@List.mem_append
def Ak3:=@List.getElem_mem
def Ak4:=@List.getElem?_eq_some_iff
def Ak5:=@List.getD_eq_getElem?_getD
def Ak6:=@Nat.mul_one
def Ak7:=@List.drop_zero
def Ak8:=@List.length_cons
def Ak9:=@List.map_cons
def Ala:=@List.take_succ_eq_append_getElem
def Alb:=@List.mem_cons
def Alc:=@List.drop_succ_cons
def Ald:=@List.take_left'
def Ale:=@List.all_cons
def Alf:=@List.append_nil
def Alg:=@Nat.mul_le_mul_right
def Alh:=@List.cons_append
def Ali:=@List.head?_eq_getElem?
def Alj:=@Option.bind_some
def Alk:=@Array.getElem?_eq_none
def All:=@List.flatMap_cons
def Alm:=@Bool.and_true
def Aln:=@List.drop_eq_getElem_cons
def Alo:=@List.getElem?_append
def Alp:=@List.nodup_cons
def Alq:=@Bool.not_false
def Alr:=@List.getElem_of_mem
def Als:=@List.mem_map
def Alt:=@Nat.add_zero
def Alu:=@Nat.pow_succ
def Alv:=@Nat.add_assoc
def Alw:=@Int.natCast_zero
def Alx:=@Option.some.injEq
def Aly:=@List.take_zero
def Alz:=@List.length_nil
def Al0:=@List.length_take
def Al1:=@List.nil_append
def Al2:=@Nat.min_eq_left
def Al3:=@List.all_nil
def Al4:=@List.getElem?_take
def Al5:=@List.flatMap_append
def Al6:=@List.map_append
def Al7:=@Array.ext'
def Al8:=@List.getElem?_drop
def Al9:=@Nat.mod_eq_of_lt
def Ama:=@Bool.or_true
def Amb:=@Array.getElem?_eq_some_iff
def Amc:=@List.mem_cons_of_mem
def Amd:=@Nat.eq_zero_or_pos
def Ame:=@Nat.lt_of_lt_of_le
def Amf:=@List.drop_eq_nil_of_le
def Amg:=@List.filter_cons
def Amh:=@Nat.le_of_not_lt
def Ami:=@List.append_assoc
def Amj:=@List.eq_nil_of_length_eq_zero
def Amk:=@Array.getElem?_modify
def Aml:=@List.getElem?_eq_none
def Amm:=@List.length_singleton
def Amn:=@Array.getElem?_setIfInBounds
def Amo:=@Bool.true_or
def Amp:=@Nat.le_trans
def Amq:=@Nat.mul_comm
def Amr:=@Bool.false_eq_true
def Ams:=@List.all_eq_true
def Amt:=@List.take_length
def Amu:=@Array.getD_eq_getD_getElem?
def Amv:=@List.take_succ_cons
def Amw:=@Nat.mul_le_mul_left
def Amx:=@List.foldl_cons
def Amy:=@List.mem_filter
def Amz:=@Nat.add_mul
def Am0:=@List.length_drop
def Am1:=@Bool.false_or
def Am2:=@Nat.mul_add
def Am3:=@List.getElem?_map
def Am4:=@List.length_set
def Am5:=@Nat.div_add_mod
def Am6:=@Int.sign_eq_one_of_pos
def Am7:=@Bool.not_true
def Am8:=@Int.sign_eq_neg_one_of_neg
def Am9:=@List.mem_singleton
def Ana:=@List.length_map
def Anb:=@Bool.true_and
def Anc:=@Int.mul_ediv_cancel_left
def And:=@Nat.mul_assoc
def Ane:=@Array.length_toList
def Anf:=@List.drop_append_of_le_length
def Ang:=@List.map_map
def Anh:=@List.map_nil
def Ani:=@List.drop_nil
def Anj:=@Array.getElem?_append_left
def Ank:=@List.mem_of_mem_take
def Anl:=@Nat.mod_lt
def Anm:=@Nat.pow_le_pow_right
def Ann:=@Nat.div_eq_of_lt
def Ano:=@Nat.gcd_comm
def Anp:=@List.filter_eq_self
def Anq:=@List.map_congr_left
def Anr:=@Nat.div_le_self
def Ans:=@BitVec.toNat_ofNat
def Ant:=@Int.tmod_lt_of_pos
def Anu:=@Nat.lt_of_le_of_lt
def Anv:=@List.getElem_cons_zero
def Anw:=@Nat.succ_mul
def Anx:=@Array.getElem?_setIfInBounds_ne
def Anz:=@List.set_append_right
def An0:=@Option.bind_none
def An1:=@Nat.pow_add
def An2:=@Nat.zero_le
def An3:=@Nat.le_max_left
def An4:=@Int.toNat_of_nonneg
def An5:=@List.replicate_succ
def An6:=@Nat.le_of_lt
def An7:=@Nat.lt_or_ge
def An8:=@Int.natAbs_natCast
def An9:=@List.drop_drop
def Aoa:=@List.getElem?_append_right
def Aob:=@List.pairwise_cons
def Aoc:=@List.set_cons_zero
def Aod:=@Nat.beq_eq
def Aoe:=@List.mem_or_eq_of_mem_set
def Aof:=@Bool.not_eq_true'
def Aog:=@List.any_eq_false
def Aoh:=@List.filter_congr
def Aoi:=@Nat.dvd_mul_right
def Aoj:=@Nat.mul_left_comm
def Aok:=@Array.size_setIfInBounds
def Aol:=@Nat.gcd_pos_of_pos_right
def Aom:=@Option.isSome_iff_exists
def Aon:=@List.getLast_eq_getElem
def Aoo:=@List.length_eq_zero_iff
def Aop:=@List.not_mem_nil
def Aoq:=@Nat.le_max_right
def Aor:=@Nat.mul_div_cancel_left
def Aos:=@Bool.or_comm
def Aot:=@List.getElem_cons_succ
def Aou:=@Nat.add_comm
def Aov:=@Nat.ble_eq
def Aow:=@Nat.div_div_eq_div_mul
def Aox:=@Option.map_eq_some_iff
def Aoy:=@Array.getElem?_toList
def Aoz:=@Classical.choose_spec
def Ao0:=@List.set_getElem_self
def Ao1:=@List.take_append_drop
def Ao2:=@Bool.false_and
def Ao3:=@List.getElem?_zipIdx
def Ao4:=@List.mapM_cons
def Ao5:=@List.mem_of_getElem?
def Ao6:=@List.nodup_nil
def Ao7:=@List.pairwise_append
def Ao8:=@Nat.add_mul_div_left
def Ao9:=@Nat.pow_pos
def Apa:=@List.length_pos_iff
def Apb:=@List.mem_map_of_mem
def Apc:=@Prod.mk.injEq
def Apd:=@Rat.den_mkRat
def Ape:=@Rat.num_mkRat
def Apf:=@Array.ext_getElem?
def Apg:=@Int.lt_tmod_of_pos
def Aph:=@List.contains_cons
def Api:=@List.set_cons_succ
def Apj:=@Nat.add_sub_cancel
def Apk:=@Nat.gcd_zero_right
def Apl:=@Eq.trans
def Apy:=@Nat.pow_mul
end Gx
namespace Gx
open Go
inductive AV where
 | int (k:IntKind) (n:Int)
 | bool (b:Bool)
 | str (s:List UInt8)
 | nsl
 | imm (c:List AV) (len sz:Nat) (tight org:Bool)
 | iptr (c:List AV) (org:Bool)
 | pagg (c:List AV) (org:Bool)
 | own (b off len:Nat)
 | optr (b off:Nat)
 | agg (c:List AV)
 | tup (c:List AV)
 | fn (f:Nat) (caps:List AV)
 | nilptr
 | nilfn
 | undef
 | omap (b:Nat)
structure Blk where
 dead:Bool
 sealed:Bool
 pure:Bool
 taint:Bool
 sz:Nat
 cells:List AV
 mp:Bool:=false
 ty:Option (Nat×Nat):=none
abbrev LA:=List AV
abbrev O (R:Type):=Option R
abbrev Ap:=List (Nat×Blk)
abbrev F8:=List (Nat×AV)
def Ai:Ap→Nat→Option Blk
 | [],_=>none
 | (i,x)::r,b=>cond (beq i b) (some x) (Ai r b)
def Dp:Ap→Nat→Blk→Ap
 | [],b,y=>[(b,y)]
 | (i,x)::r,b,y=>cond (beq i b) ((b,y)::r) (cond (Nat.blt b i) ((b,y)::(i,x)::r) ((i,x)::Dp r b y))
def Fn:F8→Nat→AV
 | [],_=>.undef
 | (i,x)::r,b=>cond (beq i b) x (Fn r b)
def QQ:F8→Nat→AV→F8
 | [],b,y=>[(b,y)]
 | (i,x)::r,b,y=>cond (beq i b) ((b,y)::r) (cond (Nat.blt b i) ((b,y)::(i,x)::r) ((i,x)::QQ r b y))
structure St where
 s:F8
 h:Ap
mutual
def YE:Value→AV
 | .int k n=>.int k n
 | .bool b=>.bool b
 | .string ⟨⟨s⟩⟩=>.str s
 | .slice none 0 0=>.nsl
 | .pointer none=>.nilptr
 | .nilFunc=>.nilfn
 | .agg ⟨cs⟩=>.agg (Kh cs)
 | _=>.undef
def Kh:List Value→List AV
 | []=>[]
 | v::r=>YE v::Kh r
end
def ev (s:F8):Operand→AV
 | .tmp t=>Fn s t
 | .const v=>YE v
 | .func f=>cond (Nat.blt f 1000000) (.fn f []) .undef
 | .global _=>.undef
def Bj (P:Program) (t:TypeId):Option Nat:=(P.info? t).map (·.size)
def pU (P:Program) (t:TypeId):Option Nat:=(P.info? t).map (·.bytes)
def xZ (P:Program) (t:TypeId):Bool:=((P.info? t).map (·.hasPointers)).getD true
def gO (P:Program) (t:TypeId):Option AV:=((P.info? t).bind (·.zero)).map YE
def Ax:LA→Bool
 | []=>true
 | .int ..::r=>Ax r
 | .bool _::r=>Ax r
 | .str _::r=>Ax r
 | .nsl::r=>Ax r
 | .nilptr::r=>Ax r
 | .nilfn::r=>Ax r
 | _=>false
def SL (P:Program) (t:TypeId):Option (LA) :=
 (P.info? t).bind fun i=>(i.zero).bind fun v=>cond (Ax (Kh v.cells.toList)&&beq v.cells.toList.length i.size) (some (Kh v.cells.toList)) none
def YF (op:BinOp) (k:IntKind) (a b:Int):Option AV :=
 match op with
 | .add=>some (.int k (k.wrap (a+b)))
 | .sub=>some (.int k (k.wrap (a - b)))
 | .mul=>some (.int k (k.wrap (a*b)))
 | .and=>some (.int k (k.wrap ((BitVec.ofInt k.bits a &&& BitVec.ofInt k.bits b).toNat:Int)))
 | .or=>some (.int k (k.wrap ((BitVec.ofInt k.bits a ||| BitVec.ofInt k.bits b).toNat:Int)))
 | .xor=>some (.int k (k.wrap ((BitVec.ofInt k.bits a ^^^ BitVec.ofInt k.bits b).toNat:Int)))
 | .andNot=>some (.int k (k.wrap ((BitVec.ofInt k.bits a &&& ~~~ (BitVec.ofInt k.bits b)).toNat:Int)))
 | .eql=>some (.bool (a==b))
 | .neq=>some (.bool (a != b))
 | .lss=>some (.bool (decide (a<b)))
 | .leq=>some (.bool (decide (a≤b)))
 | .gtr=>some (.bool (decide (a>b)))
 | .geq=>some (.bool (decide (a≥b)))
 | _=>none
def Kz (k k':IntKind):Bool:=decide (k=k')
def MK (P:Program) (t:TypeId):Bool:=match P.underlying t with | some .bool=>true | _=>false
def y9 {R:Type} (P:Program) (t:TypeId) (op:BinOp) (x y:AV) (r:AV→O R):O R :=
 match x,y with
 | .int k a,.int k' b =>
  match op with
  | .shl=>cond (decide (b<0)) none (r (.int k (k.wrap (a*2 ^ (min b.toNat k.bits)))))
  | .shr=>cond (decide (b<0)) none (r (.int k (a.fdiv (2 ^ (min b.toNat k.bits)))))
  | .quo=>cond (Kz k k') (cond (b==0) none (r (.int k (k.wrap (a.tdiv b))))) none
  | .rem=>cond (Kz k k') (cond (b==0) none (r (.int k (a.tmod b)))) none
  | op=>cond (Kz k k') ((YF op k a b).bind r) none
 | .bool a,.bool b =>
  match op with
  | .eql=>cond (MK P t) (r (.bool (a==b))) none
  | .neq=>cond (MK P t) (r (.bool (!(a==b)))) none
  | _=>none
 | .str a,.str b =>
  match op with
  | .add=>cond (ble (a.length+b.length) 140737488355328) (r (.str (a++b))) none
  | .eql=>r (.bool (a==b))
  | .neq=>r (.bool (!(a==b)))
  | .lss=>r (.bool (Op.bytesLess a b))
  | .leq=>r (.bool (Op.bytesLess a b||a==b))
  | .gtr=>r (.bool (!(Op.bytesLess a b||a==b)))
  | .geq=>r (.bool (!Op.bytesLess a b))
  | _=>none
 | _,_=>none
def Aib (op:UnOp) (x:AV):Option AV :=
 match op,x with
 | .neg,.int k n=>some (.int k (k.wrap (0 - n)))
 | .xor,.int k n=>YF .xor k (cond k.signed (-1) k.max) n
 | .not,.bool b=>some (.bool (!b))
 | _,_=>none
def IL (k:IntKind):AV→Option Int
 | .int k' n=>cond (Kz k k') (some n) none
 | _=>none
def asBool:AV→Option Bool
 | .bool b=>some b
 | _=>none
def bI:AV→Option Lu
 | .str s=>some s
 | _=>none
def rj (sz:Nat):AV→Option (LA×Nat)
 | .imm c len sz' _ _=>cond (beq sz sz') (some (c,len)) none
 | .nsl=>some ([],0)
 | _=>none
def zt:AV→Option UInt8
 | .int .u8 n=>some (UInt8.ofNat n.toNat)
 | _=>none
def SM:LA→Option Lu
 | []=>some []
 | x::r=>(zt x).bind fun b=>(SM r).bind fun l=>some (b::l)
def AL {R:Type} (step:TypeId→LA→LA→(Bool→O R)→O R) (x y:LA):List (Nat×TypeId)→(Bool→O R)→O R
 | [],k=>k true
 | (off,t)::r,k=>step t (x.drop off) (y.drop off) fun b=>AL step x y r fun c=>k (b&&c)
def pV (P:Program) (sz:Nat) (f:Field):Bool:=match Bj P f.type with
 | some s => ble 1 s && (ble (f.offset + s) sz && !(f.name == "_"))
 | none=>false
def eg {R:Type} (P:Program):Nat→TypeId→LA→LA→(Bool→O R)→O R
 | 0,_,_,_,_=>none
 | d+1,t,x,y,k=>match P.underlying t with
  | some (.int kd)=>(x.head?).bind fun u=>(IL kd u).bind fun a=>(y.head?).bind fun v=>(IL kd v).bind fun b=>k (a==b)
  | some .bool=>(x.head?).bind fun u=>(asBool u).bind fun a=>(y.head?).bind fun v=>(asBool v).bind fun b=>k (a==b)
  | some .string=>(x.head?).bind fun u=>(bI u).bind fun a=>(y.head?).bind fun v=>(bI v).bind fun b=>k (a==b)
  | some (.struct fs)=>(Bj P t).bind fun sz=>cond (P.stoodInHeld t||!(fs.toList.all (pV P sz))) none (AL (eg P d) x y (fs.toList.map fun f=>(f.offset,f.type)) k)
  | some (.array n e)=>(Bj P e).bind fun s=>(Bj P t).bind fun sz=>cond (ble 1 s&&ble (n*s) sz) (AL (eg P d) x y ((List.range n).map fun i=>(i*s,e)) k) none
  | _=>none
def pW:AV→Option (LA)
 | .pagg c _=>some c
 | .agg c=>some c
 | _=>none
def zu (P:Program) (t:TypeId):Bool:=match P.underlying t with | some (.struct _)=>true | some (.array _ _)=>true | _=>false
def na {R:Type} (P:Program) (t:TypeId) (op:BinOp) (x y:AV) (r:AV→O R):O R :=
 match pW x,pW y with
 | some a,some b=>(Bj P t).bind fun s=>cond (ble 1 s&&(beq a.length s&&(beq b.length s&&(zu P t&&!(P.eqGuardType P.depth t)))))
  (match op with
   | .eql=>eg P 8 t a b fun c=>r (.bool c)
   | .neq=>eg P 8 t a b fun c=>r (.bool (!c))
   | _=>none) none
 | _,_=>y9 P t op x y r
def Uq {R:Type} (P:Program) (t:TypeId) (c:LA) (org:Bool) (k:Bool→O R):O R :=
 cond (xZ P t) (k org) (cond (!org||Ax c) (k false) none)
def IM {R:Type} (P:Program) (t:TypeId) (c:LA) (org:Bool) (k:AV→O R):O R :=
 match P.underlying t with
 | some (.int kd)=>(c.head?).bind fun x=>(IL kd x).bind fun n=>k (.int kd n)
 | some .bool=>(c.head?).bind fun x=>(asBool x).bind fun b=>k (.bool b)
 | some .string=>(c.head?).bind fun x=>(bI x).bind fun s=>k (.str s)
 | some (.slice e)=>(Bj P e).bind fun sz=>(c.head?).bind fun x=>(rj sz x).bind fun p=>k (.imm p.1 p.2 sz false org)
 | some (.struct _)=>(Bj P t).bind fun n=>cond (ble n c.length) (Uq P t (c.take n) org fun o=>k (.pagg (c.take n) o)) none
 | some (.array _ _)=>(Bj P t).bind fun n=>cond (ble n c.length) (Uq P t (c.take n) org fun o=>k (.pagg (c.take n) o)) none
 | _=>none
def DH {R:Type} (n:Nat) (k:AV→O R):LA→Nat→O R
 | [],_=>none
 | v::r,i=>cond (beq n i) (k v) (DH n k r (i+1))
def bJ {R:Type} (P:Program) (t:TypeId) (c:LA) (k:AV→O R):O R :=
 match P.underlying t with
 | some (.struct _)=>(Bj P t).bind fun n=>cond (ble n c.length) (k (.agg (c.take n))) none
 | some (.array _ _)=>(Bj P t).bind fun n=>cond (ble n c.length) (k (.agg (c.take n))) none
 | some _=>(c.head?).bind k
 | none=>none
def IN {R:Type} (P:Program) (t:TypeId) (c:LA) (off:Nat) (k:AV→O R):O R :=
 match P.underlying t with
 | some (.struct _)=>(Bj P t).bind fun n=>cond (ble n (c.drop off).length) (k (.agg ((c.drop off).take n))) none
 | some (.array _ _)=>(Bj P t).bind fun n=>cond (ble n (c.drop off).length) (k (.agg ((c.drop off).take n))) none
 | some _=>DH off k c 0
 | none=>none
abbrev A7:=Nat→Option Blk
def Fg (g:A7) (b:Nat):Option Blk:=(g b).bind fun x=>cond x.dead none (some x)
def gP {R:Type} (P:Program) (g:A7) (t:TypeId) (p:AV) (k:AV→O R):O R :=
 match p with
 | .iptr c org=>IM P t c org k
 | .optr b off=>(Fg g b).bind fun x=>cond x.pure (IM P t (x.cells.drop off) x.taint k) (IN P t x.cells off k)
 | _=>none
def Af (i:Int) (n:Nat):Bool:=decide (0≤i)&&decide (i<(n:Int))
def Qo {R:Type} (P:Program) (t:TypeId) (x i:AV) (k:AV→O R):O R :=
 match P.underlying t,x,i with
 | some (.slice el),.imm c len sz _ org,.int _ i=>(Bj P el).bind fun sz'=>cond (beq sz sz') (cond (Af i len) (k (.iptr (c.drop (i.toNat*sz)) org)) none) none
 | some (.slice el),.own b off len,.int _ i=>(Bj P el).bind fun sz=>cond (Af i len) (k (.optr b (off+i.toNat*sz))) none
 | some (.array len el),.iptr c org,.int _ i=>(Bj P el).bind fun sz=>cond (Af i len) (k (.iptr (c.drop (i.toNat*sz)) org)) none
 | some (.array len el),.optr b off,.int _ i=>(Bj P el).bind fun sz=>cond (Af i len) (k (.optr b (off+i.toNat*sz))) none
 | _,_,_=>none
def gC (P:Program) (t:TypeId) (f:Nat):Option (Nat×TypeId) :=
 match P.underlying t with
 | some (.struct fs)=>(fs[f]?).map fun x=>(x.offset,x.type)
 | _=>none
def Qp {R:Type} (P:Program) (t:TypeId) (x:AV) (f:Nat) (k:AV→O R):O R :=
 (gC P t f).bind fun p=>(Bj P p.2).bind fun n=>cond (beq n 0) none
 (match x with
 | .iptr c org=>k (.iptr (c.drop p.1) org)
 | .optr b off=>k (.optr b (off+p.1))
 | _=>none)
def YG {R:Type} (P:Program) (t:TypeId) (x:AV) (f:Nat) (k:AV→O R):O R :=
 (gC P t f).bind fun p =>
 match x with
 | .pagg c org=>IM P p.2 (c.drop p.1) org k
 | .agg c=>bJ P p.2 (c.drop p.1) k
 | _=>none
def YH {R:Type} (P:Program) (t:TypeId) (x i:AV) (k:AV→O R):O R :=
 match P.underlying t,x,i with
 | some .string,.str s,.int _ i=>cond (Af i s.length) (k (.int .u8 ((s.getD i.toNat 0).toNat:Int))) none
 | some (.array len el),.pagg c org,.int _ i=>(Bj P el).bind fun sz=>cond (Af i len) (IM P el (c.drop (i.toNat*sz)) org k) none
 | some (.array len el),.agg c,.int _ i=>(Bj P el).bind fun sz=>cond (Af i len) (IN P el c (i.toNat*sz) k) none
 | _,_,_=>none
def SN (o:Option AV) (d:Nat):Option Int:=match o with | none=>some (d:Int) | some (.int _ i)=>some i | _=>none
def Ur {R:Type} (lo hi mx:Option AV) (n:Nat) (k:Nat→Nat→O R):O R :=
 (SN lo 0).bind fun l=>(SN hi n).bind fun h=>(SN mx n).bind fun m=>cond (mx.isSome&&!hi.isSome) none <|
 cond (decide (0≤l)&&(decide (l≤h)&&(decide (h≤m)&&decide (m≤(n:Int))))) (k l.toNat h.toNat) none
def x5 (tight:Bool) (hi mx:Option AV):Bool:=match hi,mx with | none,none=>tight | some (.int _ a),some (.int _ b)=>a==b | _,_=>false
def YI {R:Type} (P:Program) (g:A7) (t:TypeId) (x:AV) (lo hi mx:Option AV) (k:AV→O R):O R :=
 match P.underlying t,x with
 | some .string,.str s=>cond mx.isSome none (Ur lo hi none s.length fun l h=>k (.str ((s.drop l).take (h - l))))
 | some (.slice el),.nsl=>(Bj P el).bind fun _=>Ur lo hi mx 0 fun _ _=>k .nsl
 | some (.slice el),.imm c n sz tight org=>(Bj P el).bind fun sz'=>cond (beq sz sz') (Ur lo hi mx n fun l h =>
   k (.imm ((c.drop (l*sz)).take ((h - l)*sz)) (h - l) sz (x5 tight hi mx) org)) none
 | some (.slice el),.own b off n=>(Bj P el).bind fun sz=>(Fg g b).bind fun y=>cond (beq sz y.sz) (Ur lo hi mx n fun l h=>k (.own b (off+l*sz) (h - l))) none
 | some (.array n el),.optr b off=>(Bj P el).bind fun _=>(Fg g b).bind fun y=>cond (beq y.sz 0&&(ble (off+n) y.cells.length&&(lo.isNone&&(hi.isNone&&mx.isNone)))) (k (.own b off n)) none
 | _,_=>none
def Ae2 (P:Program) (t:TypeId) (x:AV):Option AV :=
 match P.underlying t,x with
 | some (.slice _),.nsl=>some (.int .i64 0)
 | some (.slice _),.imm _ n _ _ _=>some (.int .i64 n)
 | some (.slice _),.own _ _ n=>some (.int .i64 n)
 | some .string,.str s=>some (.int .i64 s.length)
 | some (.array n _),_=>some (.int .i64 n)
 | _,_=>none
def nc (g:A7) (sz:Nat):AV→Option (LA×Nat×Bool)
 | .nsl=>some ([],0,false)
 | .imm c n sz' _ org=>cond (beq sz sz') (some (c,n,org)) none
 | .own b off n=>(Fg g b).bind fun x=>cond (x.pure&&beq sz x.sz) (some ((x.cells.drop off).take (n*sz),n,x.taint)) none
 | .str s=>cond (beq sz 1) (some (s.map fun b=>.int .u8 (b.toNat:Int),s.length,false)) none
 | _=>none
def QR {R:Type} (P:Program) (el:TypeId) (g:A7) (sz:Nat) (x:AV) (k:LA×Nat×Bool→O R):O R :=
 (nc g sz x).bind fun q=>Uq P el q.1 q.2.2 fun o=>k (q.1,q.2.1,o)
abbrev D3:=List (Nat×Option Blk)
def OS (g:A7):AV→Option (AV×D3×Bool)
 | .own b off n=>(Fg g b).bind fun x=>cond x.pure (some (.imm ((x.cells.drop off).take (n*x.sz)) n x.sz false x.taint,[(b,some { x with sealed:=true })],x.taint)) none
 | .optr .. | .agg _ | .tup _ | .undef | .fn .. | .omap _=>none
 | .imm c n sz t org=>some (.imm c n sz t org,[],org)
 | .iptr c org=>some (.iptr c org,[],org)
 | .pagg _ _=>none
 | v=>some (v,[],false)
def Wg (g:A7):LA→Option (LA×D3×Bool)
 | []=>some ([],[],false)
 | v::r=>(OS g v).bind fun p=>(Wg g r).bind fun q=>some (p.1::q.1,p.2.1++q.2.1,p.2.2||q.2.2)
def V6 (g:A7):AV→Option (LA×D3×Bool)
 | .pagg c org=>some (c,[],org)
 | .agg c=>Wg g c
 | v=>Wg g [v]
def Dd (c:LA) (off:Nat) (vs:LA):LA:=c.take off++vs++c.drop (off+vs.length)
def A3:D3→Nat→Bool
 | [],_=>false
 | (i,_)::r,b=>cond (beq i b) true (A3 r b)
def AM (g:A7):AV→Bool
 | .own b _ _=>(Fg g b).isSome
 | .optr b _=>(Fg g b).isSome
 | .agg _=>false
 | .pagg _ _=>false
 | .tup _=>false
 | .undef=>false
 | .omap _=>false
 | _=>true
def L9 (g:A7):LA→Bool
 | []=>true
 | v::r=>AM g v&&L9 g r
def setCells (c:LA) (off:Nat) (vs:LA):LA:=match vs with | [y]=>c.set off y | ys=>Dd c off ys
def YJ {R:Type} (P:Program) (g:A7) (t:TypeId) (p v:AV) (k:AV→D3→O R):O R :=
  match p with
  | .optr b off=>(Fg g b).bind fun x=>(Bj P t).bind fun n =>
    cond x.sealed none
    (cond x.pure
      ((V6 g v).bind fun q=>cond (beq q.1.length n&&(ble (off+n) x.cells.length&&!A3 q.2.1 b))
        (k .undef (q.2.1++[(b,some { x with cells:=setCells x.cells off q.1,taint:=x.taint||q.2.2 })])) none)
      (match v with
        | .agg c=>cond (L9 g c&&(beq c.length n&&ble (off+n) x.cells.length)) (k .undef [(b,some { x with cells:=Dd x.cells off c })]) none
        | .pagg c org=>cond (beq off 0&&(beq c.length n&&beq x.cells.length n)) (k .undef [(b,some { x with pure:=true,taint:=org,cells:=c })]) none
        | v=>cond (AM g v&&(beq n 1&&Nat.blt off x.cells.length)) (k .undef [(b,some { x with cells:=x.cells.set off v })]) none))
  | _=>none
def Gq:Nat:=1000000
def nid (d:Nat):Nat:=1000000+d*16
def pX (P:Program) (t:TypeId):Option (Nat×Nat) :=
 match P.underlying t with
 | some (.struct fs)=>(fs[0]?).bind fun f=>match P.underlying f.type with
  | some (.pointer u)=>cond (beq u t) ((Bj P t).map fun n=>(t,n)) none
  | some (.struct gs)=>(gs[0]?).bind fun g=>match P.underlying g.type with
   | some (.pointer u)=>cond (beq u f.type) ((Bj P t).map fun n=>(t,n)) none
   | _=>none
  | _=>none
 | _=>none
def O8 (d:Nat) (pure taint:Bool) (sz:Nat) (cells:LA):D3 :=
 [(nid d,some { dead:=false,sealed:=false,pure,taint,sz,cells })]
def rk {R:Type} (P:Program) (g:A7) (d:Nat) (t:TypeId) (v:AV) (k:AV→D3→O R):O R :=
 match v with
 | .pagg c org=>k (.optr (nid d) 0) (O8 d true org 0 c)
 | .agg c =>
  cond (xZ P t) (cond (L9 g c&&beq c.length ((Bj P t).getD 0)) (k (.optr (nid d) 0) [(nid d,some { dead:=false,sealed:=false,pure:=false,taint:=false,sz:=0,cells:=c,ty:=pX P t })]) none)
   ((Wg g c).bind fun q=>k (.optr (nid d) 0) (q.2.1++O8 d true q.2.2 0 q.1))
 | v=>cond (AM g v) (k (.optr (nid d) 0) (O8 d false false 0 [v])) none
def Fo (sz:Nat):Blk:={ dead:=false,sealed:=false,pure:=true,taint:=false,sz,cells:=[] }
def zw (co:Bool) (v:AV):AV:=match co,v with
 | true,.agg c=>cond (Ax c) (.pagg c false) (.agg c)
 | _,v=>v
def YK {R:Type} (P:Program) (g:A7) (co:Bool) (d:Nat) (t:TypeId) (k:AV→D3→O R):O R :=
 match P.underlying t,gO P t with
 | some (.slice el),some .nsl=>(Bj P el).bind fun sz=>k (.optr (nid d) 0) [(nid d+1,some (Fo sz)),(nid d,some { dead:=false,sealed:=false,pure:=false,taint:=false,sz:=0,cells:=[.own (nid d+1) 0 0] })]
 | _,some z=>rk P g d t (zw co z) k
 | _,none=>none
def Mu (place:Nat→Option (Nat×Nat)):List (Nat×LA)→LA→Option (LA)
 | [],c=>some c
 | (i,vs)::r,c=>(place i).bind fun p=>cond (beq vs.length p.2&&ble (p.1+p.2) c.length) (Mu place r (setCells c p.1 vs)) none
def gQ {R:Type} (place:Nat→Option (Nat×Nat)):List (Nat×LA)→LA→(LA→O R)→O R
 | [],c,k=>k c
 | (i,vs)::r,c,k=>(place i).bind fun p=>cond (beq vs.length p.2&&ble (p.1+p.2) c.length) (gQ place r (setCells c p.1 vs) k) none
def Eg (n:Nat) (z:LA):LA:=match z with | [v]=>replicate n v | z=>(replicate n z).flatten
def AN (g:A7):List (Nat×AV)→Option (List (Nat×LA)×D3×Bool)
 | []=>some ([],[],false)
 | (i,v)::r=>(V6 g v).bind fun q=>(AN g r).bind fun q'=>some ((i,q.1)::q'.1,q.2.1++q'.2.1,q.2.2||q'.2.2)
def zx:AV→Bool
 | .optr ..=>true
 | .fn _ (_::_)=>true
 | _=>false
def Qq {R:Type} (P:Program) (g:A7) (d:Nat) (t:TypeId) (len:Nat) (parts:List (Nat×AV)) (k:AV→D3→O R):O R :=
 match P.underlying t with
 | some (.slice el)=>(Bj P el).bind fun sz=>(SL P el).bind fun z =>
  cond (beq sz 1&&(ble len 16777216&&L9 g (parts.map (·.2)))) ((Mu (fun i=>some (i*1,1)) (parts.map fun p=>(p.1,[p.2])) (Eg len z)).bind fun cells =>
   k (.own (nid d) 0 len) (O8 d false false 1 cells)) none
 | _=>none
def Oh {R:Type} (P:Program) (g:A7) (d:Nat) (t:TypeId) (len:Nat) (parts:List (Nat×AV)) (k:AV→D3→O R):O R :=
 match P.underlying t with
 | some (.slice el)=>(Bj P el).bind fun sz=>(SL P el).bind fun z=>(AN g parts).bind fun q =>
  cond (ble (len*sz) 16777216) (gQ (fun i=>some (i*sz,sz)) q.1 (Eg len z) fun cells =>
   k (.own (nid d) 0 len) (q.2.1++O8 d true q.2.2 sz cells)) none
 | _=>none
def QS:AV→Bool
 | .own .. | .optr .. | .fn .. | .undef | .agg _ | .pagg _ _ | .tup _ | .omap _=>true
 | _=>false
def gR:AV→Bool
 | .agg c=>c.any QS
 | .pagg _ _=>false
 | v=>QS v
def cellsOf:AV→LA
 | .agg c=>c
 | .pagg c _=>c
 | v=>[v]
def pY:AV→Bool
 | .imm _ _ _ _ o=>o
 | .iptr _ o=>o
 | _=>false
def bK:AV→Bool
 | .pagg _ o=>o
 | .agg c=>c.any pY
 | v=>pY v
def DI:AV→Bool
 | .pagg _ _=>true
 | _=>false
def SO (P:Program) (t:TypeId):Option (Nat→Option (Nat×Nat)) :=
 match P.underlying t with
 | some (.array _ e)=>(P.info? e).map fun ie=>fun i=>some (i*ie.size,ie.size)
 | some (.struct fs)=>(fs.toList.mapM fun f=>(P.info? f.type).map fun i=>(f.offset,i.size)).map fun pl=>fun i=>pl[i]?
 | _=>none
def nf (P:Program) (t:TypeId):Option (LA):=(P.info? t).bind fun i=>(i.zero).map fun v=>Kh v.cells.toList
def Fc:List (Nat×AV)→List (Nat×LA)
 | []=>[]
 | (i,v)::r=>(i,cellsOf v)::Fc r
def rn (o:Bool):AV→AV
 | .imm c n s t _=>.imm c n s t o
 | .iptr c _=>.iptr c o
 | v=>v
def gS:AV→LA
 | .agg c=>c
 | .pagg c o=>c.map (rn o)
 | v=>[v]
def Iu:List (Nat×AV)→List (Nat×LA)
 | []=>[]
 | (i,v)::r=>(i,gS v)::Iu r
def IP:AV→Bool
 | .undef=>false
 | .tup _=>false
 | .omap _=>false
 | _=>true
def pZ (P:Program) (t:TypeId) (parts:List (Nat×AV)):Option AV :=
 (SO P t).bind fun place=>cond (parts.all fun p=>IP p.2) (
 cond (parts.any fun p=>DI p.2)
  (cond (parts.any fun p=>gR p.2) ((nf P t).bind fun z=>(Mu place (Iu parts) z).map fun c=>.agg c) ((SL P t).bind fun z=>(Mu place (Fc parts) z).map fun c=>.pagg c (parts.any fun p=>bK p.2)))
  ((nf P t).bind fun z=>(Mu place (Fc parts) z).map fun c=>.agg c)) none
def p8 {R:Type} (P:Program) (t:TypeId) (parts:List (Nat×AV)) (k:AV→O R):O R :=
 (SO P t).bind fun place=>cond (parts.all fun p=>IP p.2) (
 cond (parts.any fun p=>DI p.2)
  (cond (parts.any fun p=>gR p.2) ((nf P t).bind fun z=>gQ place (Iu parts) z fun c=>k (.agg c)) ((SL P t).bind fun z=>gQ place (Fc parts) z fun c=>k (.pagg c (parts.any fun p=>bK p.2))))
  ((nf P t).bind fun z=>gQ place (Fc parts) z fun c=>k (.agg c))) none
def y_ (P:Program) (t:TypeId):List (Nat×Nat) :=
 match P.underlying t with
 | some (.struct fs)=>fs.toList.filterMap fun f=>match P.underlying f.type with | some (.slice el)=>(Bj P el).map fun s=>(f.offset,s) | _=>none
 | _=>[]
def O9 (P:Program) (t:TypeId):List (Nat×Nat) :=
 match P.underlying t with
 | some (.struct fs)=>fs.toList.flatMap fun f=>match P.underlying f.type with
  | some (.slice el)=>((Bj P el).map fun s=>(f.offset,s)).toList
  | some (.struct _)=>(y_ P f.type).map fun p=>(f.offset+p.1,p.2)
  | _=>[]
 | _=>[]
def Fs (d:Nat):List (Nat×Nat)→Nat→LA→LA×D3
 | [],_,c=>(c,[])
 | (o,sz)::r,j,c=>match c[o]? with
  | some .nsl=>((Fs d r (j+1) (c.set o (.own (nid d+j) 0 0))).1,(nid d+j,some (Fo sz))::(Fs d r (j+1) (c.set o (.own (nid d+j) 0 0))).2)
  | _=>Fs d r (j+1) c
def ya {R:Type} (P:Program) (t:TypeId) (co:Bool) (d:Nat) (v:AV) (k:AV→D3→O R):O R :=
 match co,v with
 | true,.agg c=>cond (ble (O9 P t).length 14) (k (.agg (Fs d (O9 P t) 1 c).1) (Fs d (O9 P t) 1 c).2) none
 | _,v=>k v []
def ML {R:Type} (P:Program) (g:A7) (d:Nat) (t:TypeId) (k:AV→D3→O R):O R :=
 match gO P t with
 | some (.agg c)=>cond (ble (O9 P t).length 14&&L9 g c) (k (.optr (nid d) 0) ((Fs d (O9 P t) 1 c).2++O8 d false false 0 (Fs d (O9 P t) 1 c).1)) none
 | _=>none
def x6 (P:Program):Nat→TypeId→Nat→List (Nat×TypeId)
 | 0,t,off=>[(off,t)]
 | d+1,t,off=>match P.underlying t with
  | some (.struct fs)=>fs.toList.flatMap fun f=>x6 P d f.type (off+f.offset)
  | _=>[(off,t)]
def zy (P:Program) (t:TypeId):Bool:=match P.underlying t with
 | some (.int _)=>true | some .bool=>true | some .string=>true | some (.slice _)=>true | _=>false
def SP {R:Type} (P:Program) (c:LA) (org:Bool):List (Nat×TypeId)→LA→(LA→O R)→O R
 | [],acc,k=>k acc
 | (off,t)::r,acc,k=>cond (beq off acc.length&&zy P t) (IM P t (c.drop off) org fun v=>SP P c org r (acc++[v]) k) none
def YL {R:Type} (P:Program) (co:Bool) (t:TypeId) (v:AV) (k:AV→O R):O R :=
 match co,v with
 | true,.pagg c org=>SP P c org (x6 P 4 t 0) [] fun l=>cond (beq c.length l.length) (k (.agg l)) none
 | _,v=>k v
def ng {R:Type} (P:Program) (d:Nat) (t:TypeId) (len cap:AV) (k:AV→D3→O R):O R :=
 match P.underlying t,len,cap with
 | some (.slice el),.int .i64 l,.int .i64 c=>(Bj P el).bind fun sz=>(pU P el).bind fun by_=>(SL P el).bind fun z =>
  cond (decide (0≤l)&&(decide (l≤c)&&(decide (c≤140737488355328)&&decide (c*(by_:Int)≤140737488355328)))) (
   k (.own (nid d) 0 l.toNat) (O8 d true false sz (Eg l.toNat z))) none
 | _,_,_=>none
def x8 (g:A7) (sz:Nat) (s:AV):Option (LA×Nat×Bool×D3) :=
 match s with
 | .nsl=>some ([],0,false,[])
 | .imm _ n _ true _=>cond (beq n 0) (some ([],0,false,[])) none
 | .own b off n=>(Fg g b).bind fun x=>cond (x.pure&&(!x.sealed&&beq sz x.sz)) (some ((x.cells.drop off).take (n*sz),n,x.taint,[(b,none)])) none
 | _=>none
def bL (P:Program) (g:A7) (el tx:TypeId) (s:AV):Option (Nat×Nat) :=
 match s with
 | .nsl=>match P.underlying tx with | some .string=>some (el,0) | _=>none
 | .own b off _=>(Fg g b).bind fun x=>(x.ty).bind fun q=>cond (beq q.1 el&&(beq q.2 0&&beq off 0)) (some (el,0)) none
 | _=>none
def p9 (P:Program) (t:TypeId):Bool:=match P.underlying t with | some (.slice _)=>true | some .string=>true | _=>false
def MM {R:Type} (P:Program) (g:A7) (d:Nat) (t tx:TypeId) (s x:AV) (k:AV→D3→O R):O R :=
 match P.underlying t with
 | some (.slice el)=>cond (p9 P tx) ( (Bj P el).bind fun sz=>(pU P el).bind fun by_=>(SL P el).bind fun _ =>
  (x8 g sz s).bind fun old=>QR P el g sz x fun new =>
  cond (ble (old.2.1+new.2.1) 140737488355328&&ble ((old.2.1+new.2.1)*by_) 140737488355328) (
   k (.own (nid d) 0 (old.2.1+new.2.1)) (old.2.2.2++[(nid d,some { dead:=false,sealed:=false,pure:=true,taint:=old.2.2.1||new.2.2,sz,cells:=old.1++new.1,ty:=bL P g el tx s })])) none) none
 | _=>none
def QT {R:Type} (kd:IntKind):Nat→LA→(LA→O R)→O R
 | 0,_,k=>k []
 | n+1,c,k=>(c.head?).bind fun x=>(IL kd x).bind fun v=>QT kd n (c.drop 1) fun l=>k (.int kd v::l)
def YM {R:Type} (P:Program) (el sz b off n:Nat) (y:Blk) (new:LA×Nat×Bool) (k:AV→D3→O R):O R :=
 match P.underlying el with
 | some (.int kd)=>cond (beq sz 1&&(ble 1 n&&(beq y.sz 0&&(!y.sealed&&(!y.pure&&(ble n new.2.1&&ble (off+n) y.cells.length)))))) (
   QT kd n new.1 fun vs=>k (.int .i64 (n:Nat)) [(b,some { y with cells:=Dd y.cells off vs })]) none
 | _=>none
def nh {R:Type} (P:Program) (g:A7) (t:TypeId) (s x:AV) (k:AV→D3→O R):O R :=
 match P.underlying t,s with
 | some (.slice el),.own b off n=>(Bj P el).bind fun sz=>(Fg g b).bind fun y=>QR P el g sz x fun new =>
  cond (y.pure&&(!y.sealed&&beq sz y.sz)) (
   k (.int .i64 (min new.2.1 n:Nat)) [(b,some { y with cells:=Dd y.cells off (new.1.take ((min new.2.1 n)*sz)),taint:=y.taint||new.2.2 })]) (YM P el sz b off n y new k)
 | some (.slice el),.nsl=>(Bj P el).bind fun sz=>QR P el g sz x fun _=>k (.int .i64 0) []
 | _,_=>none
def YN {R:Type} (P:Program) (g:A7) (t:TypeId) (s:AV) (k:AV→D3→O R):O R :=
 match P.underlying t,s with
 | some (.slice el),.own b off n=>(Bj P el).bind fun sz=>(SL P el).bind fun z=>(Fg g b).bind fun y =>
  cond (y.pure&&(!y.sealed&&beq sz y.sz)) (k (.tup []) [(b,some { y with cells:=Dd y.cells off (Eg n z) })]) none
 | _,_=>none
def ni {R:Type} (P:Program) (g:A7) (d:Nat) (src dst:TypeId) (x:AV) (k:AV→D3→O R):O R :=
 match P.underlying dst with
 | some (.int kd)=>match x with | .int _ n=>cond (P.underlying src).isSome (k (.int kd (kd.wrap n)) []) none | _=>none
 | some .string=>match P.underlying src with
  | some .string=>match x with | .str s=>k (.str s) [] | _=>none
  | some (.slice el)=>match P.underlying el with
   | some (.int .u8)=>match x with
    | .str _=>none
    | x=>(nc g 1 x).bind fun q=>(SM q.1).bind fun s=>k (.str s) []
   | _=>none
  | _=>none
 | some (.slice el)=>match P.underlying src,P.underlying el,x with
  | some (.slice _),some (.int .u8),.own b off n=>cond (beq src dst&&ble 1 n) ((Fg g b).bind fun x=>cond x.sealed none (k (.own b off n) [])) none
  | some .string,some (.int .u8),.str s=>k (.own (nid d) 0 s.length) (O8 d true false 1 (s.map fun b=>.int .u8 (b.toNat:Int)))
  | _,_,_=>none
 | _=>none
def YO {R:Type} (P:Program) (g:A7) (d:Nat) (src dst:TypeId) (x:AV) (k:AV→D3→O R):O R :=
 match P.underlying dst with
 | some .unsafePointer=>match P.underlying src,x with
  | some (.pointer t),.optr b off=>(Bj P t).bind fun n=>(Fg g b).bind fun y=>cond (!(beq n 0)&&Nat.blt off y.cells.length) (k (.optr b off) []) none
  | _,_=>none
 | some (.pointer u)=>match P.underlying src,x with
  | some .unsafePointer,.optr b off=>(Bj P u).bind fun _=>(Fg g b).bind fun y=>(y.ty).bind fun q =>
    cond (Nat.blt 0 q.2&&(Nat.blt 0 y.cells.length&&liesAt P P.depth q.1 (q.2/P.cellsOf q.1) off u 1)) (k (.optr b off) []) none
  | _,_=>none
 | _=>ni P g d src dst x k
def p_:AV→Option UInt8
 | .int .u8 n=>cond (decide (((UInt8.ofNat n.toNat).toNat:Int)=n)) (some (UInt8.ofNat n.toNat)) none
 | _=>none
def IQ:LA→Option Lu
 | []=>some []
 | x::r=>(p_ x).bind fun b=>(IQ r).bind fun l=>some (b::l)
def Qr {R:Type} (g:A7) (x:AV) (k:AV→D3→O R):O R :=
 match x with
 | .nsl=>k .nilptr []
 | .own b off n=>(Fg g b).bind fun _=>cond (Nat.blt 0 n) (k (.optr b off) []) none
 | _=>none
def Qs {R:Type} (P:Program) (g:A7) (t:TypeId) (x n:AV) (k:AV→D3→O R):O R :=
 match x,n with
 | .nilptr,.int .i64 n=>cond (n==0) (k (.str []) []) none
 | .optr b off,.int .i64 n=>(Fg g b).bind fun y=>(y.ty).bind fun q=>match P.underlying t with
  | some (.pointer e)=>cond (beq q.1 e&&(beq (P.cellsOf e) 1&&(y.pure&&(!y.sealed&&(beq off 0&&(decide (0<n)&&(decide (n≤(y.cells.length:Int))&&decide (n≤9223372036854775807))))))))
    ((IQ (y.cells.take n.toNat)).bind fun s=>k (.str s) [(b,none)]) none
  | _=>none
 | _,_=>none
def gT:LA→Int→Bool
 | [],_=>false
 | .int _ m::r,n=>cond (n==m) true (gT r n)
 | _::r,n=>gT r n
def Aaa (c:LA) (n:Int):LA:=cond (gT c n) c (c++[.int .i64 n])
def pa (P:Program) (t:TypeId):Bool:=match P.underlying t with
 | some (.map k e)=>(match P.underlying k with | some (.int .i64)=>true | _=>false)&&(match gO P e with | some (.bool false)=>true | _=>false)
 | _=>false
def Wh {R:Type} (d:Nat) (r:Option AV) (k:AV→D3→O R):O R :=
 match r with
 | none=>k (.omap (nid d)) [(nid d,some { dead:=false,sealed:=false,pure:=true,taint:=false,sz:=0,cells:=[],mp:=true })]
 | some _=>none
def YP {R:Type} (P:Program) (g:A7) (t:TypeId) (m key val:AV) (k:AV→D3→O R):O R :=
 match m,key,val with
 | .omap b,.int .i64 n,.bool true=>cond (pa P t) ((Fg g b).bind fun x=>cond (x.mp&&beq x.sz 0) (k .undef [(b,some { x with cells:=Aaa x.cells n })]) none) none
 | _,_,_=>none
def nk {R:Type} (P:Program) (g:A7) (t:TypeId) (m key:AV) (comma:Bool) (k:AV→O R):O R :=
 match m,key,comma with
 | .omap b,.int .i64 n,false=>cond (pa P t) ((Fg g b).bind fun x=>cond (x.mp&&beq x.sz 0) (k (.bool (gT x.cells n))) none) none
 | _,_,_=>none
def yb (s:Lu) (p:Int):Nat×Nat:=Utf8.decode ⟨⟨s⟩⟩ p.toNat
def YQ {R:Type} (P:Program) (d:Nat) (t:TypeId) (x:AV) (k:AV→D3→O R):O R :=
 match P.underlying t,x with
 | some .string,.str s=>k (.omap (nid d)) [(nid d,some { dead:=false,sealed:=false,pure:=true,taint:=false,sz:=1,cells:=[.str s,.int .i64 0],mp:=true })]
 | _,_=>none
def nm {R:Type} (g:A7) (it:AV) (isString:Bool) (k:AV→D3→O R):O R :=
 match it,isString with
 | .omap b,true=>(Fg g b).bind fun x=>cond (x.mp&&beq x.sz 1)
  (match x.cells with
   | [.str s,.int .i64 p]=>cond (decide (p<(s.length:Int)))
     (k (.tup [.bool true,.int .i64 p,.int .i32 ((yb s p).1:Nat)]) [(b,some { x with cells:=[.str s,.int .i64 (p+((yb s p).2:Nat))] })]) (k (.tup [.bool false]) [])
   | _=>none) none
 | _,_=>none
def Aab (g:A7) (x y:AV):Option Bool :=
 match x,y with
 | .nilptr,.nilptr=>some true
 | .nilptr,.optr _ _=>some false
 | .optr _ _,.nilptr=>some false
 | .nilptr,.iptr _ _=>some false
 | .iptr _ _,.nilptr=>some false
 | .optr b o,.optr b' o'=>(Fg g b).bind fun _=>cond (beq b b') (some (beq o o')) none
 | _,_=>none
def ur (P:Program) (t:TypeId):Bool:=match P.underlying t with
 | some (.pointer e)=>match Bj P e with | some n=>!(beq n 0) | none=>false
 | _=>false
def np {R:Type} (P:Program) (g:A7) (t:TypeId) (op:BinOp) (x y:AV) (r:AV→O R):O R :=
 match Aab g x y with
 | some b=>cond (ur P t) (match op with
  | .eql=>r (.bool b)
  | .neq=>r (.bool (!b))
  | _=>none) none
 | none=>na P t op x y r
mutual
def F9:AV→List Nat
 | .own b _ _=>[b]
 | .optr b _=>[b]
 | .omap b=>[b]
 | .agg c=>Hp c
 | .tup c=>Hp c
 | .fn _ c=>Hp c
 | _=>[]
def Hp:List AV→List Nat
 | []=>[]
 | v::r=>F9 v++Hp r
end
mutual
def N_ (ρ:Nat→Nat):AV→AV
 | .own b off n=>.own (ρ b) off n
 | .optr b off=>.optr (ρ b) off
 | .omap b=>.omap (ρ b)
 | .agg c=>.agg (Uf ρ c)
 | .tup c=>.tup (Uf ρ c)
 | .fn f c=>.fn f (Uf ρ c)
 | v=>v
def Uf (ρ:Nat→Nat):List AV→List AV
 | []=>[]
 | v::r=>N_ ρ v::Uf ρ r
end
def DJ (g:A7):AV→Option (AV×Bool)
 | .own b off n=>(Fg g b).bind fun x=>cond x.pure (some (.imm ((x.cells.drop off).take (n*x.sz)) n x.sz false (!x.sealed||x.taint),!x.sealed||x.taint)) none
 | .imm c n sz _ org=>some (.imm c n sz false org,org)
 | .iptr c org=>some (.iptr c org,org)
 | .optr .. | .agg _ | .tup _ | .undef | .fn .. | .pagg .. | .omap _=>none
 | v=>some (v,false)
def IR (g:A7):LA→Option (LA×Bool)
 | []=>some ([],false)
 | v::r=>(DJ g v).bind fun p=>(IR g r).bind fun q=>some (p.1::q.1,p.2||q.2)
def pb (g:A7):AV→Option (AV×Bool)
 | .own b off n=>(Fg g b).bind fun x=>cond x.pure (some (.imm ((x.cells.drop off).take (n*x.sz)) n x.sz false (!x.sealed||x.taint),!x.sealed)) none
 | .imm c n sz _ org=>some (.imm c n sz false org,false)
 | .optr b off=>(Fg g b).bind fun x=>cond x.pure (some (.iptr (x.cells.drop off) (!x.sealed||x.taint),!x.sealed)) none
 | .agg c=>(IR g c).bind fun q=>some (.pagg q.1 q.2,true)
 | .fn f []=>some (.fn f [],false)
 | .fn _ _ | .tup _ | .undef | .omap _=>none
 | v=>some (v,false)
def H4 (d:Nat):List (Nat×Nat)→Nat→Nat
 | [],_=>d
 | (i,x)::r,b=>cond (beq i b) x (H4 d r b)
def Hq:List Nat→Nat→Bool
 | [],_=>false
 | i::r,b=>cond (beq i b) true (Hq r b)
def bM:List Nat→List Nat→List Nat
 | [],acc=>acc.reverse
 | i::r,acc=>cond (Hq acc i) (bM r acc) (bM r (i::acc))
def IS:List Nat→Bool
 | []=>true
 | i::r=>!Hq r i&&IS r
def Au (base:Nat):List Nat→List (Nat×Nat)
 | []=>[]
 | i::r=>(i,base)::Au (base+1) r
def Jy (g:A7):List Nat→List Nat
 | []=>[]
 | b::r=>(match g b with | some x=>cond x.pure [] (Hp x.cells) | none=>[])++Jy g r
def Wi (g:A7) (ids:List Nat):List Nat:=bM (ids++Jy g (ids++Jy g ids)) []
def IT (g:A7):List Nat→Bool
 | []=>true
 | b::r=>(match g b with | some x=>!x.dead | none=>false)&&IT g r
def Xw (ρ:Nat→Nat) (x:Blk):Blk:={ x with cells:=cond x.pure x.cells (Uf ρ x.cells) }
def sub (g:A7) (ρ:Nat→Nat):List Nat→Ap
 | []=>[]
 | b::r=>match g b with
  | some x=>Dp (sub g ρ r) (ρ b) (Xw ρ x)
  | none=>sub g ρ r
structure Tw where
 runK:{R:Type}→List AV→Ap→(AV→Ap→O R)→O R
 eq:∀ {R:Type} (args:List AV) (h:Ap) (k:AV→Ap→O R),runK args h k=(runK args h fun v h'=>some (v,h')).bind fun p=>k p.1 p.2
def SQ {R:Type}:List (Nat×Tw)→Nat→LA→Ap→(AV→Ap→O R)→O R
 | [],_,_,_,_=>none
 | (g,t)::r,f,args,h,k=>cond (beq g f) (t.runK args h k) (SQ r f args h k)
structure Env where
 P:Program
 nt:Nat
 muts:Nat→List Bool
 nils:List (Nat×Nat)
 free:List Nat
 cob:List Nat
 tbl:List (Nat×Tw)
mutual
def Zs:AV→Bool
 | .imm _ _ _ _ o=>o
 | .iptr _ o=>o
 | .pagg _ o=>o
 | .agg c=>Rx c
 | .tup c=>Rx c
 | .fn _ c=>Rx c
 | _=>false
def Rx:List AV→Bool
 | []=>false
 | v::r=>Zs v||Rx r
end
def SR:Ap→Bool
 | []=>false
 | (_,x)::r=>x.taint||(cond x.pure false (Rx x.cells))||SR r
def Iv (g:A7):LA→List Nat
 | []=>[]
 | .own b _ _::r=>match g b with | some x=>cond x.sealed (Iv g r) (b::Iv g r) | none=>Iv g r
 | _::r=>Iv g r
def AO (g:A7):AV→List Nat
 | .own b _ _=>match g b with | some x=>cond x.sealed [] [b] | none=>[]
 | .optr b _=>match g b with | some x=>cond x.sealed [] [b] | none=>[]
 | .agg c=>Iv g c
 | _=>[]
def AP (g:A7):List Bool→LA→Option (LA×List Nat×List Nat)
 | _,[]=>some ([],[],[])
 | ms,v::r =>
  cond (ms.headD false)
   ((AP g ms.tail r).bind fun q=>some (v::q.1,F9 v++q.2.1,q.2.2))
   ((pb g v).bind fun p=>(AP g ms.tail r).bind fun q=>some (p.1::q.1,q.2.1,AO g v++q.2.2))
def GL (ids:List Nat):List Nat→Bool
 | []=>true
 | b::r=>Hq ids b&&GL ids r
def ro:List Nat→List Nat→Bool
 | [],_=>true
 | i::r,l=>!Hq l i&&ro r l
def pc:List Nat→Bool
 | []=>true
 | _=>false
def nq {R:Type} (E:Env) (g:A7) (d:Nat) (f:Nat) (args:LA) (k:AV→D3→O R):O R :=
 (AP g (E.muts f) args).bind fun q =>
 let ids:=Wi g q.2.1
 let tin:=Au 100000 ids
 let outs:=tin.map (·.2)
 cond (IT g ids&&(GL ids q.2.1&&(GL ids (Jy g ids)&&(ro q.2.2 ids&&(IS (ids.map (H4 0 tin))&&ble ids.length 100000))))) (
  SQ E.tbl f (Uf (H4 0 tin) q.1) (sub g (H4 0 tin) ids) fun rv rh =>
  let all:=Wi (Ai rh) (F9 rv++outs)
  let new:=all.filter fun b=>!Hq outs b
  let tnew:=Au (nid d) new
  let σ:=H4 0 ((tin.map fun p=>(p.2,p.1))++tnew)
  cond (!pc q.2.2&&(Zs rv||SR rh)) none
   (cond (IT (Ai rh) new&&(ble new.length 16&&(GL all (F9 rv)&&(GL all outs&&(GL all (Jy (Ai rh) all)&&IS (all.map σ))))))
    (k (N_ σ rv) ((tin.map fun p=>(p.1,(Ai rh p.2).map (Xw σ)))++tnew.map fun p=>(p.2,(Ai rh p.1).map (Xw σ)))) none)) none
def nr {R:Type} (c a b:AV) (k:AV→O R):O R :=
 match c,a,b with
 | .bool t,.bool x,.bool y=>k (.bool (cond t x y))
 | .bool t,x,.tup []=>cond t (k x) none
 | .bool t,.tup [],y=>cond t none (k y)
 | .bool t,x,y=>cond t (k x) (k y)
 | _,_,_=>none
def pd (P : Program) (f : Nat) : Bool := match P.funcs[f]? with | some fn => fn.body.isSome && !(fn.name == "runtime.NumGoroutine") | none => false
def Aac (P : Program) (f : Nat) : Bool := match P.funcs[f]? with | some fn => fn.body.isNone && (fn.name == "internal/abi.NoEscape" && fn.origin == "") | none => false
def Io (a b:Int):Int:=cond (decide (b<a)) b a
def QU (a b:Int):Int:=cond (decide (b>a)) b a
def yc:AV→AV→Option AV
 | .int k a,.int _ b=>some (.int k (Io a b))
 | _,_=>none
def yd:AV→AV→Option AV
 | .int k a,.int _ b=>some (.int k (QU a b))
 | _,_=>none
def ld {R:Type} (E:Env) (g:A7) (d:Nat) (v:Operand→AV) (o:Op) (k:AV→D3→O R):O R :=
 match o with
 | .move x=>k (v x) []
 | .assign x=>k (v x) []
 | .pick c a b=>nr (v c) (v a) (v b) fun r=>k r []
 | .alloc t=>cond (Hq E.cob (d+1000000)) (ML E.P g d t k) (YK E.P g (Hq E.cob d) d t k)
 | .box t x=>YL E.P (Hq E.cob d) t (v x) fun u=>rk E.P g d t u k
 | .build t parts=>p8 E.P t (parts.toList.map fun p=>(p.1,v p.2)) fun r=>ya E.P t (Hq E.cob d) d r k
 | .buildSlice t len parts=>cond ((parts.toList.map fun p=>(p.1,v p.2)).any fun p=>zx p.2) (Qq E.P g d t len (parts.toList.map fun p=>(p.1,v p.2)) k) (Oh E.P g d t len (parts.toList.map fun p=>(p.1,v p.2)) k)
 | .load t a=>gP E.P g t (v a) fun r=>k r []
 | .store t a x=>YJ E.P g t (v a) (v x) k
 | .nilCheck x=>match v x with | .iptr c o=>k (.iptr c o) [] | .optr b o=>k (.optr b o) [] | _=>none
 | .binOp op t x y _=>np E.P g t op (v x) (v y) fun r=>k r []
 | .unOp op _ x=>(Aib op (v x)).bind fun r=>k r []
 | .convert s t x=>YO E.P g d s t (v x) k
 | .makeFunc (.func f) first caps=>cond (Nat.blt f 1000000) (k (.fn (f+1000000*first.toList.length) ((first.toList++caps.toList).map v)) []) none
 | .makeSlice t l c=>ng E.P d t (v l) (v c) k
 | .slice t x lo hi mx=>YI E.P g t (v x) (lo.map v) (hi.map v) (mx.map v) fun r=>k r []
 | .fieldAddr t x f=>Qp E.P t (v x) f fun r=>k r []
 | .field t x f=>YG E.P t (v x) f fun r=>k r []
 | .indexAddr t x i=>Qo E.P t (v x) (v i) fun r=>k r []
 | .index t x i=>YH E.P t (v x) (v i) fun r=>k r []
 | .makeMap _ r=>Wh d (r.map v) k
 | .mapUpdate t m x y=>YP E.P g t (v m) (v x) (v y) k
 | .lookup t m x c=>nk E.P g t (v m) (v x) c fun r=>k r []
 | .range t x=>YQ E.P d t (v x) k
 | .next it s=>nm g (v it) s k
 | .extract t i=>match v t with | .tup vs=>(vs[i]?).bind fun r=>k r [] | _=>none
 | .call c=>match c.callee with
  | .builtin .len=>match c.args.toList,c.argTypes.toList with | [x],[t]=>(Ae2 E.P t (v x)).bind fun r=>k r [] | _,_=>none
  | .builtin .append=>match c.args.toList,c.argTypes.toList with | [s,x],[t,tx]=>MM E.P g d t tx (v s) (v x) k | _,_=>none
  | .builtin .copy=>match c.args.toList,c.argTypes.toList with | [s,x],[t,_]=>nh E.P g t (v s) (v x) k | _,_=>none
  | .builtin .clear=>match c.args.toList,c.argTypes.toList with | [x],[t]=>YN E.P g t (v x) k | _,_=>none
  | .builtin .min=>match c.args.toList with | [x,y]=>(yc (v x) (v y)).bind fun r=>k r [] | [x,y,z]=>(yc (v x) (v y)).bind fun q=>(yc q (v z)).bind fun r=>k r [] | _=>none
  | .builtin .max=>match c.args.toList with | [x,y]=>(yd (v x) (v y)).bind fun r=>k r [] | [x,y,z]=>(yd (v x) (v y)).bind fun q=>(yd q (v z)).bind fun r=>k r [] | _=>none
  | .builtin .unsafeSliceData=>match c.args.toList with | [x]=>Qr g (v x) k | _=>none
  | .builtin .unsafeString=>match c.args.toList,c.argTypes.toList with | [x,y],[t,_]=>Qs E.P g t (v x) (v y) k | _,_=>none
  | .value fo=>match v fo with
   | .fn f caps=>cond (pd E.P (f%1000000)) (nq E g d (f%1000000) (caps.take (f/1000000)++(c.args.toList.map v++caps.drop (f/1000000))) k)
     (cond (Aac E.P (f%1000000)) (match caps,c.args.toList.map v with | [],[x]=>k x [] | _,_=>none) none)
   | _=>none
  | _=>none
 | _=>none
structure Foot where
 r:List Nat
 w:Option Nat
 f:List Nat
 u:List Nat
def QV:List Operand→List Nat
 | []=>[]
 | .tmp t::r=>t::QV r
 | _::r=>QV r
def Aj:D3→Ap→Ap
 | [],h=>h
 | (b,some x)::r,h=>Aj r (Dp h b x)
 | (b,none)::r,h=>Aj r (match Ai h b with | some x=>Dp h b { x with dead:=true,pure:=true,cells:=[] } | none=>h)
def MN (ops:Array Oper) (o:Oper):Option (Nat×Bool) :=
 match o.guard with
 | none=>none
 | some (j,want)=>((ops[j]?).bind (·.dst)).map fun t=>(t,want)
def DK (ops:Array Oper) (s:F8) (o:Oper):Option Bool :=
 match o.guard with
 | none=>some true
 | some (j,want)=>match (ops[j]?).bind (·.dst) with
  | some t=>match Fn s t with
   | .bool b=>some (b==want)
   | .tup []=>some false
   | _=>none
  | none=>some false
def ut (nt:Nat) (s:F8) (d:Option Nat) (v:AV):F8:=match d with | some d=>cond (Nat.blt d nt) (QQ s d v) s | none=>s
def x9:Op→Bool
 | .binOp op ..=>match op with | .eql | .neq=>true | _=>false
 | .move _ | .assign _ | .pick .. | .build .. | .unOp .. | .makeFunc .. | .fieldAddr .. | .field .. | .indexAddr .. | .index .. | .extract .. | .nilCheck _=>false
 | .call c=>match c.callee with
  | .builtin .len | .builtin .min | .builtin .max=>false
  | _=>true
 | _=>true
def x_:Op→Bool
 | .load .. | .binOp ..=>true
 | _=>false
def T6 (h:Ap) (op:Op) (vals:LA):List Nat:=cond (x9 op) (cond (x_ op) (bM (Hp vals) []) (Wi (Ai h) (Hp vals))) []
def AQ (d b:Nat):Bool:=ble (nid d) b&&Nat.blt b (nid d+16)
def OT (d:Nat) (F:List Nat) (h:Ap):D3→Bool
 | []=>true
 | (b,_)::r=>cond (AQ d b) (Ai h b).isNone (Hq F b&&(Ai h b).isSome)&&OT d F h r
def rp {R:Type} (E:Env) (ops:Array Oper) (o:Oper) (st:St) (k:St→Foot→O R):O R :=
 (DK ops st.s o).bind fun wanted=>cond wanted (
  ld E (fun b=>cond (Hq (T6 st.h o.op (o.op.operands.toList.map (ev st.s))) b) (Ai st.h b) none) (o.dst.getD 50000) (ev st.s) o.op fun v ups =>
  cond (OT (o.dst.getD 50000) (T6 st.h o.op (o.op.operands.toList.map (ev st.s))) st.h ups)
   (k { s:=ut E.nt st.s o.dst v,h:=Aj ups st.h } { r:=(match MN ops o with | some p=>[p.1] | none=>[])++QV o.op.operands.toList,w:=o.dst,f:=T6 st.h o.op (o.op.operands.toList.map (ev st.s)),u:=ups.map (·.1) }) none)
  (k { st with s:=ut E.nt st.s o.dst (.tup []) } { r:=(match MN ops o with | some p=>[p.1] | none=>[]),w:=o.dst,f:=[],u:=[] })
def YR {R:Type} (ops:Array Oper) (o:Oper) (st:St) (k:St→O R):O R :=
 match o.guard with
 | none=>k st
 | some (j,want)=>match (ops[j]?).bind (·.dst) with
  | none=>k st
  | some t=>match Fn st.s t with
   | .bool b=>cond (b==want) (k { s:=QQ st.s t (.bool want),h:=st.h }) (k { s:=QQ st.s t (.bool (!want)),h:=st.h })
   | _=>k st
def gU {R:Type} (E:Env) (ops:Array Oper):List Oper→St→List Foot→(St→List Foot→O R)→O R
 | [],st,tr,k=>k st tr
 | o::r,st,tr,k=>YR ops o st fun st=>rp E ops o st fun st f=>gU E ops r st (f::tr) k
def Ah4:Option Nat→List Nat→Bool
 | none,_=>false
 | some d,l=>Hq l d
def bO (a b:Foot):Bool :=
 !Ah4 a.w b.r&&!Ah4 b.w a.r&&(match a.w,b.w with | some x,some y=>!beq x y | _,_=>true)&&ro a.u (b.f++b.u)&&ro b.u a.f
def IU (e:Edge):Bool:=match e.ground with | .textOnly _=>false | .gcOnly _=>false | _=>true
def DL (o:Oper):List Nat:=(o.after.toList.filter IU).map (·.on)
def pe {α:Type}:List Nat→(List Nat→α)→α
 | [],k=>k []
 | i::r,k=>pe r fun s=>k (i::s)
theorem AR {α:Type}:∀ (l:List Nat) (k:List Nat→α),pe l k=k l
 | [],_=>rfl
 | i::r,k=>by rw[pe,AR r]
def F2:List Oper→List (List Nat)→List (List Nat)
 | [],acc=>acc
 | o::r,acc=>pe (bM (DL o++((DL o).flatMap fun i=>(acc[i]?).getD [])) []) fun a=>F2 r (acc++[a])
def V7:Nat→List Oper→Bool
 | _,[]=>true
 | i,o::r=>(o.after.toList.all fun e=>!IU e||Nat.blt e.on i)&&V7 (i+1) r
def ST (f:Foot) (anc:List Nat):Nat→List Foot→Bool
 | _,[]=>true
 | i,g::r=>(Hq anc i||bO g f)&&ST f anc (i+1) r
def MO:List Foot→List (List Nat)→List Foot→Bool
 | [],_,_=>true
 | f::r,a::az9,seen=>ST f a 0 seen&&MO r az9 (seen++[f])
 | _::_,[],_=>false
def Jz (b:Nat):Nat:=cond (ble Gq b) (b - Gq) b
mutual
def Wj (g:A7):AV→AV
 | .own b off n=>match Fg g b with | some _=>.own (Jz b) off n | none=>.undef
 | .optr b off=>match Fg g b with | some _=>.optr (Jz b) off | none=>.undef
 | .omap b=>match Fg g b with | some _=>.omap (Jz b) | none=>.undef
 | .agg c=>.agg (Iw g c)
 | .tup c=>.tup (Iw g c)
 | .fn f c=>.fn f (Iw g c)
 | v=>v
def Iw (g:A7):List AV→List AV
 | []=>[]
 | v::r=>Wj g v::Iw g r
end
def YS (g:A7) (K:List Nat):F8→F8
 | []=>[]
 | (t,v)::r=>cond (Hq K t) ((t,Wj g v)::YS g K r) (YS g K r)
def gV (K:List Nat):F8→List Nat
 | []=>[]
 | (t,v)::r=>cond (Hq K t) (F9 v++gV K r) (gV K r)
def Wk (g:A7):List Nat→Ap
 | []=>[]
 | b::r=>match Fg g b with
  | some x=>Dp (Wk g r) (Jz b) { x with cells:=cond x.pure x.cells (Iw g x.cells) }
  | none=>Wk g r
def X1 (g:A7) (ids:List Nat):List Nat:=ids.filter fun b=>match Fg g b with | some _=>true | none=>false
def gW (g:A7) (ids:List Nat):List Nat→Bool
 | []=>true
 | b::r=>(Hq ids b||(Fg g b).isNone)&&gW g ids r
def xa:List Nat→Bool
 | []=>true
 | b::r=>cond (ble Gq b) (Nat.blt (Jz b) 100000) true&&xa r
def clean (K roots:List Nat) (st:St):Option St :=
 let g:=Ai st.h
 let ids:=X1 g (Wi g (gV K st.s++roots))
 cond (IS (ids.map Jz)&&(gW g ids (gV K st.s)&&(gW g ids (Jy g ids)&&xa ids))) (some { s:=YS g K st.s,h:=Wk g ids }) none
def DM {R:Type} (E:Env) (roots:List Nat) (ops:Array Oper) (draw:Bool) (st:St) (k:St→O R):O R :=
 gU E ops ops.toList st [] fun st tr =>
  cond (!draw||(V7 0 ops.toList&&MO tr.reverse (F2 ops.toList []) [])) ((clean (st.s.map (·.1)) roots st).bind k) none
def gX (b:Nat):Bool:=ble 100000 b&&Nat.blt b 200000
def DN (live:List Nat):List (Nat×Nat)→St→Option St
 | [],st=>some st
 | (t,sz)::r,st=>cond (ble 1000000 sz)
  (match Hq live t,Fn st.s t with
  | true,.nsl=>DN live r { s:=QQ st.s t (.imm [] 0 (sz - 1000000) false false),h:=st.h }
  | true,.own b off n=>(OS (Ai st.h) (.own b off n)).bind fun q=>DN live r { s:=QQ st.s t q.1,h:=Aj q.2.1 st.h }
  | _,_=>DN live r st)
  (match Hq live t,Fn st.s t with
  | true,.nsl=>cond (Ai st.h (nid t+15)).isSome none (DN live r { s:=QQ st.s t (.own (nid t+15) 0 0),h:=Dp st.h (nid t+15) (Fo sz) })
  | _,_=>DN live r st)
def AS (free:List Nat) (b:Nat):Bool:=gX b&&!Hq free b
def Aad (free ids:List Nat):List (Nat×Nat):=Au 300000 (ids.filter fun b=>!AS free b)
def Wl (free ids:List Nat) (b:Nat):Nat:=cond (AS free b) b (H4 0 (Aad free ids) b)
def Aae (ρ:Nat→Nat) (K:List Nat):F8→F8
 | []=>[]
 | (t,v)::r=>cond (Hq K t) ((t,N_ ρ v)::Aae ρ K r) (Aae ρ K r)
def GM (E:Env) (live roots:List Nat) (st:St):Option St :=
 (DN live E.nils st).bind fun st =>
 let g:=Ai st.h
 let ids:=X1 g (Wi g (gV live st.s++roots))
 cond (IS (ids.map (Wl E.free ids))&&(GL ids (gV live st.s)&&(GL ids (Jy g ids)&&ble ids.length 100000))) (some { s:=Aae (Wl E.free ids) live st.s,h:=sub g (Wl E.free ids) ids }) none
inductive Hint where
 | leaf
 | node (live:List Nat) (a b:Hint)
 | join (live:List Nat) (a b:Hint)
def Hint.live:Hint→List Nat
 | .leaf=>[]
 | .node l _ _=>l
 | .join l _ _=>l
def Hint.a:Hint→Hint
 | .leaf=>.leaf
 | .node _ a _=>a
 | .join _ a _=>a
def Hint.b:Hint→Hint
 | .leaf=>.leaf
 | .node _ _ b=>b
 | .join _ _ b=>b
def Hint.isJoin:Hint→Bool
 | .join _ _ _=>true
 | _=>false
noncomputable def Ag {α:Type} (a:α):{ x:α // x=a }:=Classical.choice ⟨⟨a,rfl⟩⟩
noncomputable def Aaf {R:Type} (j:Bool) (f:St→O R):St→O R:=cond j (Ag f).1 f
theorem Ry {R:Type} (j:Bool) (f:St→O R):Aaf j f=f:=by cases j;rfl;exact(Ag f).2
noncomputable def rq {R:Type} (E:Env) (roots:List Nat) (H:Hint) (f:St→O R) (st:St):O R:=cond H.isJoin ((GM E H.live roots st).bind (Aaf true f)) (f st)
def GN {R:Type} (cn:St→Option St) (body:(St→O R)→St→O R):Nat→St→O R
 | 0,_=>none
 | n+1,st=>body (fun st=>(cn st).bind (GN cn body n)) st
noncomputable def Dq {R:Type} (E:Env) (roots:List Nat) (N:Nat):Code→Hint→(St→O R)→(Nat→St→O R)→(St→O R)→St→O R
 | .skip,_,k,_,_,st=>k st
 | .region _ ops draw,_,k,_,_,st=>DM E roots ops draw st k
 | .seq a b,H,k,x,r,st=>Dq E roots N a H.a (rq E roots H fun st=>Dq E roots N b H.b k x r st) x r st
 | .cond c a b,H,k,x,r,st=>match ev st.s c with
  | .bool t=>cond t (Dq E roots N a H.a k x r st) (Dq E roots N b H.b k x r st)
  | _=>none
 | .block id c,H,k,x,r,st=>Dq E roots N c H.a k (fun j st=>cond (beq j id) (k st) (x j st)) r st
 | .loop c,H,_,x,r,st=>(GM E H.live roots st).bind (Aaf true (GN (GM E H.live roots) (fun k st=>Dq E roots N c H.a k x r st) N))
 | .exit id,_,_,x,_,st=>x id st
 | .ret,_,_,_,r,st=>r st
 | _,_,_,_,_,_=>none
def Ma {R:Type} (E:Env) (st:St):List ResultVar→LA→(LA→O R)→O R
 | [],acc,k=>k acc.reverse
 | .tmp t::r,acc,k=>Ma E st r (Fn st.s t::acc) k
 | .cell a t::r,acc,k=>gP E.P (Ai st.h) t (Fn st.s a) fun v=>Ma E st r (v::acc) k
def Ae3 (g:A7) (i:Nat) (m:Nat×Nat) (v:AV):Option (AV×D3) :=
 cond (beq m.1 0) (some (v,[]))
 (cond (beq m.1 1) (match v with
  | .nsl=>some (.imm [] 0 m.2 false false,[])
  | .imm c n sz _ o=>some (.imm c n sz false o,[])
  | .own b off n=>(OS g (.own b off n)).bind fun q=>some (q.1,q.2.1)
  | _=>none)
 (cond (beq m.1 2) (match v with
  | .nsl=>cond (g (nid 90000+i)).isSome none (some (.own (nid 90000+i) 0 0,[(nid 90000+i,some (Fo m.2))]))
  | v=>some (v,[]))
 (match v with
  | .agg c=>(Wg g c).bind fun q=>some (.pagg q.1 q.2.2,q.2.1)
  | .pagg c o=>some (.pagg c o,[])
  | _=>none)))
def rs (h:Ap):Nat→List (Nat×Nat)→LA→Option (LA×Ap)
 | _,_,[]=>some ([],h)
 | i,ms,v::r=>(Ae3 (Ai h) i (ms.headD (0,0)) v).bind fun p=>(rs (Aj p.2 h) (i+1) ms.tail r).bind fun q=>some (p.1::q.1,q.2)
def Ae4 (l:LA):AV:=match l with | [v]=>v | l=>.tup l
def Rz {R:Type} (E:Env) (fn:Func) (modes:List (Nat×Nat)) (outs:List Nat) (k:AV→Ap→O R) (st:St):O R :=
 Ma E st fn.results.toList [] fun l =>
 (rs st.h 0 modes l).bind fun q =>
 let v:=Ae4 q.1
 let g:=Ai q.2
 let ids:=X1 g (Wi g (F9 v++outs))
 cond (IS (ids.map (Wl E.free ids))&&(GL ids (F9 v)&&(GL ids (Jy g ids)&&ble ids.length 100000))) (k (N_ (Wl E.free ids) v) (sub g (Wl E.free ids) ids)) none
def gY:Nat→LA→F8
 | _,[]=>[]
 | i,v::r=>(i,v)::gY (i+1) r
structure Hints where
 H:Hint
 nils:List (Nat×Nat):=[]
 modes:List (Nat×Nat):=[]
 free:List Nat:=[]
 cob:List Nat:=[]
def SU:Ap→Bool
 | []=>true
 | (b,_)::r=>gX b&&SU r
noncomputable def bR {R:Type} (P:Program) (muts:Nat→List Bool) (T:List (Nat×Tw)) (hs:Hints) (N f:Nat) (args:LA) (h:Ap) (k:AV→Ap→O R):O R :=
 match P.funcs[f]? with
 | none=>none
 | some fn=>match fn.body with
  | none=>none
  | some c =>
   let E:Env:={ P,nt:=fn.ntmps,muts,nils:=hs.nils,free:=hs.free,cob:=hs.cob,tbl:=T }
   let outs:=h.map (·.1)
   let fin:=Rz E fn hs.modes outs k
   cond (ble args.length fn.ntmps&&SU h) (Dq E outs N c hs.H fin (fun _ _=>none) fin { s:=gY 0 args,h }) none
end Gx
namespace Gx
open Go
mutual
def RepC (J:Nat→Prop) (w:World):AV→Value→Prop
 | .int k n,v=>v=.int k n
 | .bool b,v=>v=.bool b
 | .str s,v=>v=.string ⟨⟨s⟩⟩
 | .nsl,v=>v=.slice none 0 0
 | .imm c len sz tight _,v=>c.length=len*sz∧∃ A cap,v=.slice A len cap∧len≤cap∧(tight=true→cap=len) ∧
   (len=0∨∃ a,A=some a∧J a.block∧RepCs J w c (fun j=>w.cell? (a.add j)) 0)
 | .iptr c _,v=>∃ a,v=.pointer (some a)∧J a.block∧RepCs J w c (fun j=>w.cell? (a.add j)) 0
 | .nilptr,v=>v=.pointer none
 | .nilfn,v=>v=.nilFunc
 | .fn f [],v=>v=.func (.func (f%1000000)) #[] #[]
 | _,_=>False
def RepCs (J:Nat→Prop) (w:World):List AV→(Nat→Option Value)→Nat→Prop
 | [],_,_=>True
 | x::r,rd,i=>(∃ u,rd i=some u∧RepC J w x u)∧RepCs J w r rd (i+1)
end
theorem By {J:Nat→Prop} {w:World}:∀ {c:LA} {rd:Nat→Option Value} {i:Nat},
  RepCs J w c rd i↔∀ j x,c[j]?=some x→∃ u,rd (i+j)=some u∧RepC J w x u:=by
 intro c
 induction c with
 | nil=>intro rd i;simp[RepCs]
 | cons x r e =>
  intro rd i
  rw[RepCs,e]
  constructor
  ·rintro⟨h0,k⟩ j y b
   cases j with
   | zero=>simp at b;subst b;simpa using h0
   | succ j=>have:=k j y (by simpa using b);rwa [show i+1+j=i+(j+1) by omega] at this
  ·intro h
   refine⟨by simpa using h 0 x (by simp),fun j y b=>?_⟩
   have:=h (j+1) y (by simpa using b)
   rwa [show i+(j+1)=i+1+j by omega] at this
def rt (J:Nat→Prop) (w w':World):Prop:=∀ k,J k→w'.heap[k]?=w.heap[k]?
theorem YT {J:Nat→Prop} {w w':World} (h:rt J w w') {a:Addr} (b:J a.block):w'.cell? a=w.cell? a:=by
 unfold World.cell?;rw[h a.block b]
theorem Qt (a:Addr) (n:Nat):(a.add n).block=a.block:=by unfold Addr.add;split<;>rfl
mutual
theorem RepC.keep {J J':Nat→Prop} {w w':World} (hJ:∀ k,J k→J' k) (hk:rt J w w'):∀ {x:AV} {v:Value},RepC J w x v→RepC J' w' x v
 | .int ..,_,h=>h
 | .bool _,_,h=>h
 | .str _,_,h=>h
 | .nsl,_,h=>h
 | .imm c _ _ _ _,_,h=>by
  rw[RepC] at h ⊢
  obtain⟨h1,A,cap,h2,h3,h4,h5⟩:=h
  refine⟨h1,A,cap,h2,h3,h4,?_⟩
  rcases h5 with h5 | ⟨a,ha,hj,hc⟩
  ·exact .inl h5
  ·refine .inr ⟨a,ha,hJ _ hj,RepCs.keep hJ hk (c:=c) (fun j=>?_) hc⟩
   exact YT hk (by rw[Qt];exact hj)
 | .iptr c _,_,h=>by
  rw[RepC] at h ⊢
  obtain⟨a,ha,hj,hc⟩:=h
  exact⟨a,ha,hJ _ hj,RepCs.keep hJ hk (c:=c) (fun j=>YT hk (by rw[Qt];exact hj)) hc⟩
 | .nilptr,_,h=>h
 | .nilfn,_,h=>h
 | .fn _ [],_,h=>h
 | .fn _ (_::_),_,h=>by simp[RepC] at h
 | .pagg ..,_,h=>by simp[RepC] at h
 | .agg _,_,h=>by simp[RepC] at h
 | .tup _,_,h=>by simp[RepC] at h
 | .own ..,_,h=>by simp[RepC] at h
 | .optr ..,_,h=>by simp[RepC] at h
 | .undef,_,h=>by simp[RepC] at h
 | .omap _,_,h=>by simp[RepC] at h
theorem RepCs.keep {J J':Nat→Prop} {w w':World} (hJ:∀ k,J k→J' k) (hk:rt J w w'):∀ {c:List AV} {rd rd':Nat→Option Value} {i:Nat},(∀ j,rd' j=rd j)→RepCs J w c rd i→RepCs J' w' c rd' i
 | [],_,_,_,_,_=>trivial
 | x::r,rd,rd',i,he,h=>by
  rw[RepCs] at h ⊢
  obtain⟨⟨u,hu,hx⟩,hr⟩:=h
  exact⟨⟨u,by rw[he];exact hu,RepC.keep hJ hk (x:=x) hx⟩,RepCs.keep hJ hk (c:=r) he hr⟩
end
abbrev B5:=Nat→Option (Nat×Nat)
def At (w:World) (k:Nat):Nat:=match w.heap[k]? with | some (.cells cs _ _)=>cs.size | _=>0
def Af5 (sz k:Nat):Value:=match sz with | 0=>.map (some k) | _+1=>.pointer (some ⟨k,0,none⟩)
mutual
def Rep (J:Bool→Nat→Prop) (β:B5) (h:Ap) (w:World):AV→Value→Prop
 | .own b off n,v=>∃ x A cap,(Ai h b=some x∧x.mp=false)∧v=.slice A n cap∧n≤cap∧(cap=0∨∃ k o,A=some ⟨k,o+off,none⟩ ∧
   (x.dead=true∨(β b=some (k,o)∧o+off+cap*x.sz≤At w k∧off+n*x.sz≤x.cells.length)))
 | .omap b,v=>∃ x k,(Ai h b=some x∧x.mp=true)∧(x.dead=true∨(β b=some (k,0)∧v=Af5 x.sz k))
 | .optr b off,v=>∃ x k o,(Ai h b=some x∧x.mp=false)∧v=.pointer (some ⟨k,o+off,none⟩)∧(x.dead=true∨β b=some (k,o))
 | .pagg c org,v=>∃ cs,v=.agg ⟨cs⟩∧cs.length=c.length∧RepCs (J org) w c (fun j=>cs[j]?) 0
 | .agg c,v=>∃ cs,v=.agg ⟨cs⟩∧Reps J β h w c cs
 | .tup c,v=>∃ cs,v=.tuple ⟨cs⟩∧Reps J β h w c cs
 | .fn f c,v=>∃ cs:List Value,v=.func (.func (f%1000000)) ⟨cs.take (f/1000000)⟩ ⟨cs.drop (f/1000000)⟩∧Reps J β h w c cs
 | .undef,_=>True
 | .imm c n sz t org,v=>RepC (J org) w (.imm c n sz t org) v
 | .iptr c org,v=>RepC (J org) w (.iptr c org) v
 | .int k n,v=>v=.int k n
 | .bool b,v=>v=.bool b
 | .str s,v=>v=.string ⟨⟨s⟩⟩
 | .nsl,v=>v=.slice none 0 0
 | .nilptr,v=>v=.pointer none
 | .nilfn,v=>v=.nilFunc
def Reps (J:Bool→Nat→Prop) (β:B5) (h:Ap) (w:World):List AV→List Value→Prop
 | [],cs=>cs=[]
 | x::r,cs=>∃ u us,cs=u::us∧Rep J β h w x u∧Reps J β h w r us
end
structure Ext (J:Bool→Nat→Prop) (β:B5) (h:Ap) (w:World) (J':Bool→Nat→Prop) (β':B5) (h':Ap) (w':World):Prop where
 jsub:∀ o k,J o k→J' o k
 keep:∀ o,rt (J o) w w'
 blk:∀ b x,Ai h b=some x→∃ x',(Ai h' b=some x'∧x'.mp=x.mp)∧(x'.dead=true∨(x.dead=false∧β' b=β b∧x'.sz=x.sz∧(x.mp=false→x'.cells.length=x.cells.length)))
 size:∀ b k o,β b=some (k,o)→At w k≤At w' k
mutual
theorem Rep.ext {J J':Bool→Nat→Prop} {β β':B5} {h h':Ap} {w w':World} (E:Ext J β h w J' β' h' w'):∀ {x:AV} {v:Value},Rep J β h w x v→Rep J' β' h' w' x v
 | .own b off n,v,hr=>by
  rw[Rep] at hr ⊢
  obtain⟨x,A,cap,⟨hx,hm⟩,h1,h2,hr⟩:=hr
  obtain⟨x',⟨hx',hm'⟩,hd⟩:=E.blk b x hx
  refine⟨x',A,cap,⟨hx',by rw[hm',hm]⟩,h1,h2,?_⟩
  rcases hr with hr | ⟨k,o,h3,hr⟩
  ·exact .inl hr
  ·refine .inr ⟨k,o,h3,?_⟩
   rcases hd with hd | ⟨hd,hβ,hs,hl⟩
   ·exact .inl hd
   ·rcases hr with hr | ⟨h4,h5,h6⟩
    ·simp[hd] at hr
    ·exact .inr ⟨by rw[hβ];exact h4,by rw[hs];exact Amp h5 (E.size b k o h4),by rw[hs,hl hm];exact h6⟩
 | .optr b off,v,hr=>by
  rw[Rep] at hr ⊢
  obtain⟨x,k,o,⟨hx,hm⟩,h1,hr⟩:=hr
  obtain⟨x',⟨hx',hm'⟩,hd⟩:=E.blk b x hx
  refine⟨x',k,o,⟨hx',by rw[hm',hm]⟩,h1,?_⟩
  rcases hd with hd | ⟨hd,hβ,hs,hl⟩
  ·exact .inl hd
  ·rcases hr with hr | hr
   ·simp[hd] at hr
   ·exact .inr (by rw[hβ];exact hr)
 | .omap b,v,hr=>by
  rw[Rep] at hr ⊢
  obtain⟨x,k,⟨hx,hm⟩,hr⟩:=hr
  obtain⟨x',⟨hx',hm'⟩,hd⟩:=E.blk b x hx
  refine⟨x',k,⟨hx',by rw[hm',hm]⟩,?_⟩
  rcases hd with hd | ⟨hd,hβ,hs,hl⟩
  ·exact .inl hd
  ·rcases hr with hr | ⟨hr,hv⟩
   ·simp[hd] at hr
   ·exact .inr ⟨by rw[hβ];exact hr,by rw[hs];exact hv⟩
 | .pagg c org,v,hr=>by
  rw[Rep] at hr ⊢
  obtain⟨cs,h1,h2,h3⟩:=hr
  exact⟨cs,h1,h2,RepCs.keep (E.jsub org) (E.keep org) (fun _=>rfl) h3⟩
 | .agg c,v,hr=>by
  rw[Rep] at hr ⊢
  obtain⟨cs,h1,h2⟩:=hr
  exact⟨cs,h1,Reps.ext E (c:=c) h2⟩
 | .tup c,v,hr=>by
  rw[Rep] at hr ⊢
  obtain⟨cs,h1,h2⟩:=hr
  exact⟨cs,h1,Reps.ext E (c:=c) h2⟩
 | .fn f c,v,hr=>by
  rw[Rep] at hr ⊢
  obtain⟨cs,h1,h2⟩:=hr
  exact⟨cs,h1,Reps.ext E (c:=c) h2⟩
 | .undef,_,_=>by rw[Rep];trivial
 | .imm c n sz t org,v,hr=>by rw[Rep] at hr ⊢;exact RepC.keep (E.jsub org) (E.keep org) hr
 | .iptr c org,v,hr=>by rw[Rep] at hr ⊢;exact RepC.keep (E.jsub org) (E.keep org) hr
 | .int ..,_,hr=>hr
 | .bool _,_,hr=>hr
 | .str _,_,hr=>hr
 | .nsl,_,hr=>hr
 | .nilptr,_,hr=>hr
 | .nilfn,_,hr=>hr
theorem Reps.ext {J J':Bool→Nat→Prop} {β β':B5} {h h':Ap} {w w':World} (E:Ext J β h w J' β' h' w'):∀ {c:List AV} {cs:List Value},Reps J β h w c cs→Reps J' β' h' w' c cs
 | [],_,hr=>hr
 | x::r,cs,hr=>by
  rw[Reps] at hr ⊢
  obtain⟨u,us,h1,h2,h3⟩:=hr
  exact⟨u,us,h1,Rep.ext E (x:=x) h2,Reps.ext E (c:=r) h3⟩
end
end Gx
namespace Gx
open Go
def xb:List (Nat×List Value):=[(3,(List.range 20).map fun i=>.int .u64 ((10 ^ i:Nat):Int))]
def uu:List Nat:=[0]
end Gx
namespace Gx
open Go
def CellsRep (J:Bool→Nat→Prop) (β:B5) (h:Ap) (w:World) (x:Blk) (rd:Nat→Option Value):Prop :=
 (x.pure=true→RepCs (J x.taint) w x.cells rd 0) ∧
 (x.pure=false→∀ j c,x.cells[j]?=some c→∃ u,rd j=some u∧Rep J β h w c u∧u.oneCell'=true)
def FrOk (n:Nat) (fr:Nat×Nat):Prop:=fr.1=fr.2∨n≤fr.1
theorem FrOk.at {n:Nat} {fr:Nat×Nat} (h:FrOk n fr) (j:Nat) (b:j<n):¬ (fr.1≤j∧j<fr.2):=by rcases h with h | h<;>omega
def TyOk (X:Option (Nat×Nat)) (ty:TypeId) (o n:Nat):Prop:=∀ t m,X=some (t,m)→ty=t∧o=0∧(m=0∨n=m)
def FrTy (X:Option (Nat×Nat)) (ty:TypeId) (o n:Nat) (fr:Nat×Nat):Prop:=FrOk n fr∧TyOk X ty o n
theorem TyOk.none {ty:TypeId} {o n:Nat}:TyOk .none ty o n:=fun _ _ h=>by cases h
theorem FrOk.un {n:Nat} {fr:Nat×Nat} (h:FrOk n fr) {ty:TypeId} {o:Nat}:FrTy .none ty o n fr:=⟨h,TyOk.none⟩
theorem FrTy.un0 {ty:TypeId} {o n a:Nat}:FrTy .none ty o n (a,a):=⟨.inl rfl,TyOk.none⟩
def Ae5 (J:Bool→Nat→Prop) (β:B5) (h:Ap) (w:World) (b:Nat) (x:Blk):Prop :=
 (β b=none∧x.cells=[])∨∃ k o cs ty fr,β b=some (k,o)∧w.heap[k]?=some (.cells cs ty fr) ∧
  FrTy x.ty ty o cs.size fr∧o+x.cells.length≤cs.size∧CellsRep J β h w x (fun j=>cs[o+j]?) ∧
  (x.sealed=false→∀ g,¬ J g k)∧(x.sealed=true→J x.taint k)
def Ae6 (c:LA) (es:Array MapEntry):Prop:=∃ l:List Int,c=l.map (fun n=>.int .i64 n)∧es.toList.map (fun e=>(e.key,e.val))=l.map (fun n=>(.int .i64 n,.bool true))
def ObjIs (x:Blk) (ob:Obj):Prop:=(x.sz=0∧∃ es clk,ob=.map es clk∧Ae6 x.cells es)∨(x.sz=1∧∃ s pos,ob=.stringIter ⟨⟨s⟩⟩ pos∧x.cells=[.str s,.int .i64 (pos:Int)])
def MapRep (J:Bool→Nat→Prop) (β:B5) (w:World) (b:Nat) (x:Blk):Prop :=
 x.pure=true∧x.sealed=false∧∃ k ob,β b=some (k,0)∧w.heap[k]?=some ob∧ObjIs x ob∧∀ g,¬ J g k
theorem ObjIs.row {x:Blk} {ob:Obj} (h:ObjIs x ob) {cs:Array Value} {ty:TypeId} {fr:Nat×Nat}:ob≠.cells cs ty fr:=by
 rcases h with⟨_,es,clk,rfl,_⟩ | ⟨_,s,pos,rfl,_⟩<;>exact fun h=>by cases h
def GlobOk (J:Bool→Nat→Prop) (w:World):Prop:=(∀ p ∈ xb,J false p.1∧∃ ty fr,w.heap[p.1]?=some (.cells p.2.toArray ty fr))∧∀ g ∈ uu,J false g∧∃ m,w.cell? ⟨g,0,none⟩=some (.int .i64 m)
theorem GlobOk.to {J J':Bool→Nat→Prop} {w w':World} (h:GlobOk J w) (j:∀ k,J false k→J' false k) (q:rt (J false) w w'):GlobOk J' w':=⟨fun p b =>
 ⟨j _ (h.1 p b).1,by rw[q _ (h.1 p b).1];exact(h.1 p b).2⟩,fun g e=>⟨j _ (h.2 g e).1,by rw[YT q (by exact(h.2 g e).1)];exact(h.2 g e).2⟩⟩
theorem GlobOk.ext {J J':Bool→Nat→Prop} {β β':B5} {h h':Ap} {w w':World} (G:GlobOk J w) (E:Ext J β h w J' β' h' w'):GlobOk J' w':=G.to (E.jsub false) (E.keep false)
structure SimH (J:Bool→Nat→Prop) (β:B5) (h:Ap) (w:World):Prop where
 jlt:∀ o k,J o k→k<w.heap.size
 jft:∀ k,J false k→J true k
 gl:GlobOk J w
 blk:∀ b x,Ai h b=some x→x.dead=false→x.mp=false→Ae5 J β h w b x
 mblk:∀ b x,Ai h b=some x→x.dead=false→x.mp=true→MapRep J β w b x
 sep:∀ b b' x x' k o o',Ai h b=some x→Ai h b'=some x'→x.dead=false→x'.dead=false→x.sealed=false→β b=some (k,o)→β b'=some (k,o')→b=b'
mutual
theorem DO {J:Bool→Nat→Prop} {β:B5} {h:Ap} {w:World}:∀ v:Value,Rep J β h w (YE v) v
 | .int ..=>by simp[YE,Rep]
 | .bool _=>by simp[YE,Rep]
 | .string ⟨⟨s⟩⟩=>by simp[YE,Rep]
 | .slice none 0 0=>by simp[YE,Rep]
 | .slice none 0 (_+1)=>by simp[YE,Rep]
 | .slice none (_+1) _=>by simp[YE,Rep]
 | .slice (some _) _ _=>by simp[YE,Rep]
 | .pointer none=>by simp[YE,Rep]
 | .pointer (some _)=>by simp[YE,Rep]
 | .nilFunc=>by simp[YE,Rep]
 | .agg ⟨cs⟩=>by rw[YE,Rep];exact⟨cs,rfl,MP cs⟩
 | .float ..=>by simp[YE,Rep]
 | .complex ..=>by simp[YE,Rep]
 | .map _=>by simp[YE,Rep]
 | .chan _=>by simp[YE,Rep]
 | .func ..=>by simp[YE,Rep]
 | .iface ..=>by simp[YE,Rep]
 | .nilIface=>by simp[YE,Rep]
 | .tuple _=>by simp[YE,Rep]
theorem MP {J:Bool→Nat→Prop} {β:B5} {h:Ap} {w:World}:∀ cs:List Value,Reps J β h w (Kh cs) cs
 | []=>by simp[Kh,Reps]
 | v::r=>by rw[Kh,Reps];exact⟨v,r,rfl,DO v,MP r⟩
end
structure SimS (J:Bool→Nat→Prop) (β:B5) (h:Ap) (w:World) (s:F8) (t:Array Value):Prop where
 slot:∀ i v,t[i]?=some v→Rep J β h w (Fn s i) v
 out:∀ i,t.size≤i→Fn s i=.undef
theorem A5 {J:Bool→Nat→Prop} {β:B5} {h:Ap} {w:World} {s:F8} {a:Act} (H:SimS J β h w s a.tmps) (x:Operand):Rep J β h w (ev s x) (a.eval x):=by
 cases x with
 | tmp t =>
  rw[ev,Act.eval,Amu]
  cases b:a.tmps[t]? with
  | some v=>exact H.slot t v b
  | none =>
   have:a.tmps.size≤t:=by simpa using b
   rw[H.out t this];simp[Rep]
 | const v=>exact DO v
 | global g=>simp[ev,Rep]
 | func f =>
  rw[ev]
  cases e:Nat.blt f 1000000 with
  | false=>simp[Rep]
  | true =>
   have:f<1000000:=by simpa using e
   simp[Rep,Act.eval,Reps,Al9 this]
section
variable {R:Type} {r:R} {P:Program} {J:Bool→Nat→Prop} {β:B5} {h:Ap} {w:World}
theorem pf {t:TypeId} {op:BinOp} {k:IntKind} {a b:Int} {v:AV} (e:YF op k a b=some v) :
  ∃ vc,(binOp op t (.int k a) (.int k b)).run P w=.ok vc w∧Rep J β h w v vc:=by
 cases op<;>simp[YF] at e<;>subst e<;>simp[binOp,Op.intArith,Op.intBits,Op.intCmp,Rep]
theorem uv {op:BinOp} {t:TypeId} {x y:AV} {k:AV→O R} {vx vy:Value} (hh:y9 P t op x y k=some r) (A:Rep J β h w x vx) (C:Rep J β h w y vy) (ox oy:Operand) :
  ∃ v vc,k v=some r∧(do eqGuard op t ox oy vx vy;binOp op t vx vy:Sem Value).run P w=.ok vc w∧Rep J β h w v vc:=by
 unfold y9 at hh
 split at hh
 ·rename_i s a z b
  rw[Rep] at A C;subst A C
  have j:(eqGuard op t ox oy (.int s a) (.int z b)).run P w=.ok () w:=by
   unfold eqGuard;cases op<;>simp
  split at hh
  ·cases e:decide (b<0)<;>rw[e] at hh<;>simp at hh e
   refine⟨_,_,hh,?_,by rw[Rep]⟩
   simp[j,binOp,Op.shift];intro G;omega
  ·cases e:decide (b<0)<;>rw[e] at hh<;>simp at hh e
   refine⟨_,_,hh,?_,by rw[Rep]⟩
   simp[j,binOp,Op.shift];intro G;omega
  ·cases u:Kz s z<;>rw[u] at hh<;>simp at hh
   have q:s=z:=by simpa[Kz] using u
   subst q
   cases e:(b==0)<;>rw[e] at hh<;>simp at hh e
   refine⟨_,_,hh,?_,by rw[Rep]⟩
   simp[j,binOp,Op.intDiv,e]
  ·cases u:Kz s z<;>rw[u] at hh<;>simp at hh
   have q:s=z:=by simpa[Kz] using u
   subst q
   cases e:(b==0)<;>rw[e] at hh<;>simp at hh e
   refine⟨_,_,hh,?_,by rw[Rep]⟩
   simp[j,binOp,Op.intDiv,e]
  ·cases u:Kz s z<;>rw[u] at hh<;>simp at hh
   have q:s=z:=by simpa[Kz] using u
   subst q
   cases hi:YF op s a b with
   | none=>rw[hi] at hh;simp at hh
   | some v =>
    rw[hi] at hh
    obtain⟨vc,I,K⟩:=pf (P:=P) (J:=J) (β:=β) (h:=h) (w:=w) (t:=t) hi
    exact⟨v,vc,by simpa using hh,by simp[j,I],K⟩
 ·rename_i a b
  rw[Rep] at A C;subst A C
  split at hh
  ·cases e:MK P t<;>rw[e] at hh<;>simp at hh
   have D:P.underlying t=some .bool:=by unfold MK at e;split at e<;>simp_all
   refine⟨_,_,hh,?_,by rw[Rep]⟩
   have F:(Op.equal t (.bool a) (.bool b)).run P w=.ok (a==b) w:=by
    have:∀ d,(Op.equalIn (d+1) t (.bool a) (.bool b)).run P w=.ok (a==b) w:=fun d=>by
     unfold Op.equalIn;simp only[Sem.run_bind,run_underlying D,Result.andThen_ok,Sem.run_pure]
    exact this 9999
   have j:∀ op,(eqGuard op t ox oy (.bool a) (.bool b)).run P w=.ok () w:=fun op=>by unfold eqGuard;cases op<;>simp
   simp only[Sem.run_bind,j,Result.andThen_ok,binOp,F,Sem.run_pure]
  ·cases e:MK P t<;>rw[e] at hh<;>simp at hh
   have D:P.underlying t=some .bool:=by unfold MK at e;split at e<;>simp_all
   refine⟨_,_,hh,?_,by rw[Rep]⟩
   have F:(Op.equal t (.bool a) (.bool b)).run P w=.ok (a==b) w:=by
    have:∀ d,(Op.equalIn (d+1) t (.bool a) (.bool b)).run P w=.ok (a==b) w:=fun d=>by
     unfold Op.equalIn;simp only[Sem.run_bind,run_underlying D,Result.andThen_ok,Sem.run_pure]
    exact this 9999
   have j:∀ op,(eqGuard op t ox oy (.bool a) (.bool b)).run P w=.ok () w:=fun op=>by unfold eqGuard;cases op<;>simp
   simp only[Sem.run_bind,j,Result.andThen_ok,binOp,F,Sem.run_pure]
  ·simp at hh
 ·rename_i a b
  rw[Rep] at A C;subst A C
  have L:(⟨⟨a⟩⟩:ByteArray).toList=a:=by simp[ByteArray.toList_eq]
  have eb:(⟨⟨b⟩⟩:ByteArray).toList=b:=by simp[ByteArray.toList_eq]
  have j:∀ op,(eqGuard op t ox oy (.string ⟨⟨a⟩⟩) (.string ⟨⟨b⟩⟩)).run P w=.ok () w:=fun op=>by unfold eqGuard;cases op<;>simp
  split at hh
  ·cases e:ble (a.length+b.length) 140737488355328<;>rw[e] at hh<;>simp at hh e
   refine⟨_,_,hh,?_,by rw[Rep]⟩
   have M:¬ (((⟨⟨a⟩⟩:ByteArray).size+(⟨⟨b⟩⟩:ByteArray).size:Nat):Int)>IntKind.i64.max:=by
    show ¬ ((a.length+b.length:Nat):Int)>9223372036854775807
    omega
   have S:(⟨⟨a⟩⟩:ByteArray)++⟨⟨b⟩⟩=⟨⟨a++b⟩⟩:=by
    apply ByteArray.ext;simp[ByteArray.data_append]
   simp only[Sem.run_bind,j,Result.andThen_ok,binOp,Op.stringOp,if_neg M,Sem.run_pure,S]
  all_goals first
   | (refine⟨_,_,hh,?_,by rw[Rep]⟩;simp only[Sem.run_bind,j,Result.andThen_ok,binOp,Op.stringOp,Sem.run_pure,L,eb];done)
   | simp at hh
 ·simp at hh
end
end Gx
namespace Gx
open Go
section
variable {R:Type} {r:R} {P:Program} {J:Bool→Nat→Prop} {β:B5} {h:Ap} {w:World}
theorem ub {α:Type} {o:Option α} {f:α→O R} (hh:o.bind f=some r):∃ x,o=some x∧f x=some r:=by
 cases o with
 | none=>simp at hh
 | some x=>exact⟨x,rfl,by simpa using hh⟩
theorem uc {b:Bool} {x:O R} (hh:cond b x none=some r):b=true∧x=some r:=by
 cases b<;>simp at hh;exact⟨rfl,hh⟩
theorem uw {b:Bool} {x:O R} (hh:cond b none x=some r):b=false∧x=some r:=by
 cases b<;>simp at hh;exact⟨rfl,hh⟩
theorem ye {op:UnOp} {x v:AV} {vx:Value} (hh:Aib op x=some v) (j:Rep J β h w x vx) :
  ∃ vc,(Op.unary op vx).run P w=.ok vc w∧Rep J β h w v vc:=by
 unfold Aib at hh
 split at hh
 ·rename_i k n
  rw[Rep] at j;subst j;simp at hh;subst hh
  refine⟨.int k (k.wrap (-n)),by simp[Op.unary,Op.intArith],?_⟩
  rw[Rep]
 ·rename_i k n
  rw[Rep] at j;subst j
  have e:=hh
  rw[YF] at e
  simp only[Alx] at e;subst e
  refine⟨_,rfl,?_⟩
  rw[Rep];cases k.signed<;>rfl
 ·rename_i b
  rw[Rep] at j;subst j;simp at hh;subst hh
  exact⟨.bool (!b),by simp[Op.unary],by rw[Rep]⟩
 ·simp at hh
def bS (P:Program) (J:Bool→Nat→Prop) (β:B5) (h:Ap) (w:World) (t:TypeId) (rd:Nat→Option Value) (v:AV):Prop :=
 (∃ d,P.underlying t=some d∧d.isRow=false∧∃ u,rd 0=some u∧Rep J β h w v u) ∨
 (∃ d,P.underlying t=some d∧d.isRow=true∧∃ us:List Value,(P.info? t).map (·.size)=some us.length∧(∀ j u,us[j]?=some u→rd j=some u)∧Rep J β h w v (.agg us.toArray))
theorem RepCs.at {J:Nat→Prop} {c:LA} {rd:Nat→Option Value} (b:RepCs J w c rd 0) {j:Nat} {x:AV} (e:c[j]?=some x):∃ u,rd j=some u∧RepC J w x u:=by
 have:=By.1 b j x e;simpa using this
theorem RepCs.drop {J:Nat→Prop} {c:LA} {rd:Nat→Option Value} (b:RepCs J w c rd 0) (n:Nat):RepCs J w (c.drop n) (fun j=>rd (n+j)) 0:=by
 rw[By] at b ⊢
 intro j x e
 rw[Al8] at e
 simpa using b (n+j) x e
theorem RepCs.take {J:Nat→Prop} {c:LA} {rd:Nat→Option Value} (e:RepCs J w c rd 0) (n:Nat):RepCs J w (c.take n) rd 0:=by
 rw[By] at e ⊢
 intro j x b
 rw[Al4] at b
 split at b
 ·exact e j x b
 ·simp at b
theorem RepCs.list {J:Nat→Prop} {c:LA} {rd:Nat→Option Value} (q:RepCs J w c rd 0) :
  ∃ us:List Value,us.length=c.length∧(∀ j u,us[j]?=some u→rd j=some u)∧RepCs J w c (fun j=>us[j]?) 0:=by
 refine⟨c.zipIdx.map fun p=>(rd p.2).getD undef,by simp,fun j u b=>?_,?_⟩
 ·rw[Am3,Ao3] at b
  cases k:c[j]? with
  | none=>rw[k] at b;simp at b
  | some x =>
   rw[k] at b
   obtain⟨s,e,_⟩:=q.at k
   simp[e] at b
   rw[e,b]
 ·rw[By]
  intro j x b
  obtain⟨u,e,hr⟩:=q.at b
  refine⟨u,?_,hr⟩
  simp[b,e]
theorem bT {J1 J2:Nat→Prop}:∀ {c:LA} {rd:Nat→Option Value} {i:Nat},Ax c=true→RepCs J1 w c rd i→RepCs J2 w c rd i
 | [],_,_,_,_=>trivial
 | x::r,rd,i,b,e=>by
  rw[RepCs] at e ⊢
  obtain⟨⟨u,j,q⟩,k⟩:=e
  have hr:Ax r=true:=by unfold Ax at b;split at b<;>simp_all
  refine⟨⟨u,j,?_⟩,bT hr k⟩
  unfold Ax at b
  split at b<;>simp_all[RepC]
theorem OU {t:TypeId} {c:LA} {org:Bool} {k:Bool→O R} {rd:Nat→Option Value} {i:Nat} (hh:Uq P t c org k=some r) (b:RepCs (J org) w c rd i):∃ o,k o=some r∧RepCs (J o) w c rd i:=by
 unfold Uq at hh
 cases e:xZ P t with
 | true=>rw[e] at hh;exact⟨org,hh,b⟩
 | false =>
  rw[e,cond_false] at hh
  obtain⟨j,q⟩:=uc hh
  refine⟨false,q,?_⟩
  cases org with
  | false=>exact b
  | true=>exact bT (by simpa using j) b
theorem S9 {t:TypeId} {c:LA} {org:Bool} {k:AV→O R} {rd:Nat→Option Value} (hh:IM P t c org k=some r) (z:RepCs (J org) w c rd 0) :
  ∃ v,k v=some r∧bS P J β h w t rd v:=by
 unfold IM at hh
 have agg:∀ {d:TypeDesc},P.underlying t=some d→d.isRow=true→((Bj P t).bind fun n=>cond (ble n c.length) (Uq P t (c.take n) org fun o=>k (.pagg (c.take n) o)) none)=some r →
   ∃ v,k v=some r∧bS P J β h w t rd v:=by
  intro d j M hh
  obtain⟨n,hn,hh⟩:=ub hh
  obtain⟨G,hh⟩:=uc hh
  have L:n≤c.length:=by simpa using G
  obtain⟨us,q,b,I⟩:=(z.take n).list
  have S:us.length=n:=by rw[q];simp;omega
  obtain⟨o,hh,K⟩:=OU hh I
  refine⟨_,hh,.inr ⟨d,j,M,us,?_,b,?_⟩⟩
  ·rw[S];exact hn
  ·rw[Rep];exact⟨us,rfl,by rw[q],K⟩
 split at hh
 ·rename_i X j
  obtain⟨x,s,hh⟩:=ub hh
  obtain⟨n,hn,hh⟩:=ub hh
  obtain⟨u,q,b⟩:=z.at (by rw[←Ali];exact s)
  refine⟨_,hh,.inl ⟨_,j,rfl,u,q,?_⟩⟩
  unfold IL at hn
  split at hn
  ·obtain⟨C,D⟩:=uc hn
   simp[Kz] at C D;subst C;subst D
   rw[RepC] at b;rw[Rep];exact b
  ·simp at hn
 ·rename_i j
  obtain⟨x,s,hh⟩:=ub hh
  obtain⟨n,hn,hh⟩:=ub hh
  obtain⟨u,q,b⟩:=z.at (by rw[←Ali];exact s)
  refine⟨_,hh,.inl ⟨_,j,rfl,u,q,?_⟩⟩
  unfold asBool at hn
  split at hn
  ·simp at hn;subst hn
   rw[RepC] at b;rw[Rep];exact b
  ·simp at hn
 ·rename_i j
  obtain⟨x,s,hh⟩:=ub hh
  obtain⟨n,hn,hh⟩:=ub hh
  obtain⟨u,q,b⟩:=z.at (by rw[←Ali];exact s)
  refine⟨_,hh,.inl ⟨_,j,rfl,u,q,?_⟩⟩
  unfold bI at hn
  split at hn
  ·simp at hn;subst hn
   rw[RepC] at b;rw[Rep];exact b
  ·simp at hn
 ·rename_i e j
  obtain⟨sz,T,hh⟩:=ub hh
  obtain⟨x,s,hh⟩:=ub hh
  obtain⟨p,y,hh⟩:=ub hh
  obtain⟨u,q,b⟩:=z.at (by rw[←Ali];exact s)
  refine⟨_,hh,.inl ⟨_,j,rfl,u,q,?_⟩⟩
  unfold rj at y
  rw[Rep,RepC]
  split at y
  ·obtain⟨C,F⟩:=uc y
   simp at C F;subst C;subst F
   rw[RepC] at b
   obtain⟨I,A,cap,K,U,Y,V⟩:=b
   exact⟨I,A,cap,K,U,by simp,V⟩
  ·simp at y;subst y
   rw[RepC] at b
   exact⟨by simp,none,0,b,by simp,by simp,.inl rfl⟩
  ·simp at y
 ·rename_i j;exact agg j rfl hh
 ·rename_i j;exact agg j rfl hh
 ·simp at hh
theorem B6:∀ {c:LA} {cs:List Value},Reps J β h w c cs↔cs.length=c.length∧∀ (j:Nat) (x:AV) (u:Value),c[j]?=some x→cs[j]?=some u→Rep J β h w x u
 | [],cs=>by rw[Reps];simp
 | x::r,cs=>by
  rw[Reps]
  constructor
  ·rintro⟨u,us,rfl,k,q⟩
   rw[B6] at q
   refine⟨by simp[q.1],fun j y v b e=>?_⟩
   cases j with
   | zero=>simp at b e;subst b e;exact k
   | succ j=>exact q.2 j y v (by simpa using b) (by simpa using e)
  ·rintro⟨s,k⟩
   cases cs with
   | nil=>simp at s
   | cons u us =>
    refine⟨u,us,rfl,k 0 x u (by simp) (by simp),?_⟩
    rw[B6]
    exact⟨by simpa using s,fun j y v b e=>k (j+1) y v (by simpa using b) (by simpa using e)⟩
theorem IV {t:TypeId} {c:LA} {k:AV→O R} {rd:Nat→Option Value} (hh:bJ P t c k=some r)
  (z:∀ j x,c[j]?=some x→∃ u,rd j=some u∧Rep J β h w x u) :
  ∃ v,k v=some r∧bS P J β h w t rd v:=by
 unfold bJ at hh
 have agg:∀ {d:TypeDesc},P.underlying t=some d→d.isRow=true→((Bj P t).bind fun n=>cond (ble n c.length) (k (.agg (c.take n))) none)=some r →
   ∃ v,k v=some r∧bS P J β h w t rd v:=by
  intro d e C hh
  obtain⟨n,hn,hh⟩:=ub hh
  obtain⟨A,hh⟩:=uc hh
  have y:n≤c.length:=by simpa using A
  refine⟨_,hh,.inr ⟨d,e,C,(c.take n).zipIdx.map fun p=>(rd p.2).getD undef,?_,fun j u s=>?_,?_⟩⟩
  ·simp;rw[Al2 y];exact Aox.1 hn
  ·rw[Am3,Ao3] at s
   cases b:(c.take n)[j]? with
   | none=>rw[b] at s;simp at s
   | some x =>
    rw[b] at s
    rw[Al4] at b
    split at b
    ·obtain⟨D,q,_⟩:=z j x b
     simp[q] at s
     rw[q,s]
    ·simp at b
  ·rw[Rep]
   refine⟨_,rfl,B6.2 ⟨by simp,fun j x u b e=>?_⟩⟩
   simp[b] at e
   rw[Al4] at b
   split at b
   ·obtain⟨D,q,hr⟩:=z j x b
    simp[q] at e;subst e;exact hr
   ·simp at b
 split at hh
 ·rename_i e;exact agg e rfl hh
 ·rename_i e;exact agg e rfl hh
 ·rename_i d _ _ e
  obtain⟨x,b,hh⟩:=ub hh
  obtain⟨u,F,G⟩:=z 0 x (by rw[←Ali];exact b)
  refine⟨x,hh,.inl ⟨d,e,?_,u,F,G⟩⟩
  cases d<;>simp_all
 ·simp at hh
theorem nv {n:Nat} {k:AV→O R}:∀ {c:LA} {i:Nat},DH n k c i=some r→i≤n∧∃ x,c[n - i]?=some x∧k x=some r
 | [],i,hh=>by simp[DH] at hh
 | v::c,i,hh=>by
  rw[DH] at hh
  cases b:beq n i with
  | true =>
   rw[b] at hh
   have:n=i:=Ak0 b
   subst this
   exact⟨Akw _,v,by simp,hh⟩
  | false =>
   rw[b] at hh
   obtain⟨q,x,e,j⟩:=nv (c:=c) hh
   refine⟨by omega,x,?_,j⟩
   rw[show n - i=(n - (i+1))+1 by omega];simpa using e
theorem SV {t:TypeId} {c:LA} {off:Nat} {k:AV→O R} (hh:IN P t c off k=some r):bJ P t (c.drop off) k=some r:=by
 unfold IN at hh
 unfold bJ
 split at hh
 ·exact hh
 ·exact hh
 ·rename_i d q s u
  obtain⟨_,x,b,e⟩:=nv hh
  have j:(c.drop off).head?=some x:=by rw[Ali,Al8];simpa using b
  rw[j];exact e
 ·simp at hh
theorem MQ {t:TypeId} {d:TypeDesc} (b:P.underlying t=some d):(isAgg t).run P w=.ok d.isRow w:=by
 unfold isAgg
 rw[Sem.run_bind,run_underlying b w]
 cases d<;>simp
theorem OV {t:TypeId} {a:Addr} {v:AV} (hr:bS P J β h w t (fun j=>w.cell? (a.add j)) v):∃ vc,(loadVar t a).run P w=.ok vc w∧Rep J β h w v vc:=by
 rcases hr with⟨d,e,k,u,b,q⟩ | ⟨d,e,k,us,b,q,y⟩
 ·refine⟨u,?_,q⟩
  have s:w.cell? a=some u:=by simpa[Addr.add] using b
  simp[loadVar,MQ e,k,s]
 ·refine⟨_,?_,y⟩
  have z:=run_loadCells_list (P:=P) w a us q
  cases hq:P.info? t with
  | none=>simp[hq] at b
  | some i =>
   have hs:i.size=us.length:=by simpa[hq] using b
   simp[loadVar,Sem.run_bind,MQ e,k,Go.sizeOf,typeInfo,hq,hs,z]
theorem R2 {t:TypeId} {cs:List Value} {off:Nat} {v:AV} (hr:bS P J β h w t (fun j=>cs[off+j]?) v):∃ vc,(part t ⟨cs⟩ off).run P w=.ok vc w∧Rep J β h w v vc:=by
 rcases hr with⟨d,e,k,u,b,q⟩ | ⟨d,e,k,us,b,q,y⟩
 ·refine⟨u,?_,q⟩
  simp at b
  simp[part,MQ e,k,b]
 ·refine⟨_,?_,y⟩
  cases hq:P.info? t with
  | none=>simp[hq] at b
  | some i =>
   have hs:i.size=us.length:=by simpa[hq] using b
   have:(⟨cs⟩:Array Value).extract off (off+us.length)=us.toArray:=by
    apply Al7
    simp
    apply List.ext_getElem?
    intro j
    rw[Al4,Al8]
    split
    ·rename_i s
     rw[Aky s]
     exact q j _ (Aky s)
    ·rename_i s
     rw[Aml (by omega)]
   simp only[part,Sem.run_bind,MQ e,k,Go.sizeOf,typeInfo,run_program,Result.andThen_ok,hq,Sem.run_pure,hs,if_true,this]
end
end Gx
namespace Gx
open Go
section
variable {R:Type} {r:R} {P:Program} {J:Bool→Nat→Prop} {β:B5} {h:Ap} {w:World} {g:A7}
theorem M6 {k:Nat} {cs:Array Value} {ty:TypeId} {fr:Nat×Nat} (b:w.heap[k]?=some (.cells cs ty fr)) (i:Nat):w.cell? ⟨k,i,none⟩=cs[i]?:=by
 simp[World.cell?,b]
def Looks (g:A7) (h:Ap):Prop:=∀ b x,g b=some x→Ai h b=some x
theorem C1 {b:Nat} {x:Blk} (j:Looks g h) (e:Fg g b=some x):Ai h b=some x∧x.dead=false:=by
 unfold Fg at e
 obtain⟨y,k,e⟩:=ub e
 obtain⟨q,e⟩:=uw e
 simp at e;subst e
 exact⟨j b _ k,q⟩
theorem pg {b off:Nat} {x:Blk} {v:Value} (S:SimH J β h w) (u:Ai h b=some x) (z:x.dead=false) (hr:Rep J β h w (.optr b off) v) :
  ∃ k o cs ty fr,β b=some (k,o)∧v=.pointer (some ⟨k,o+off,none⟩)∧w.heap[k]?=some (.cells cs ty fr) ∧
  FrTy x.ty ty o cs.size fr∧o+x.cells.length≤cs.size∧CellsRep J β h w x (fun j=>cs[o+j]?) ∧
  (x.sealed=false→∀ g,¬ J g k)∧(x.sealed=true→J x.taint k):=by
 rw[Rep] at hr
 obtain⟨y,k,o,⟨q,A⟩,C,hr⟩:=hr
 rw[u] at q;simp at q;subst q
 rcases hr with hr | s
 ·simp[z] at hr
 ·rcases S.blk b x u z A with⟨hn,_⟩ | ⟨M,o',cs,ty,fr,e,D,F,G,I,K,L⟩
  ·rw[s] at hn;simp at hn
  ·rw[s] at e;simp at e;obtain⟨rfl,rfl⟩:=e
   exact⟨k,o,cs,ty,fr,s,C,D,F,G,I,K,L⟩
theorem CellsRep.reads {t:TypeId} {x:Blk} {cs:Array Value} {o off:Nat} {k:AV→O R} (s:CellsRep J β h w x (fun j=>cs[o+j]?))
  (hh:cond x.pure (IM P t (x.cells.drop off) x.taint k) (IN P t x.cells off k)=some r) :
  ∃ v,k v=some r∧bS P J β h w t (fun j=>cs[o+off+j]?) v:=by
 cases b:x.pure with
 | true =>
  rw[b] at hh
  have:=(s.1 b).drop off
  obtain⟨v,e,q⟩:=S9 (β:=β) (h:=h) hh this
  exact⟨v,e,by simpa[Alv] using q⟩
 | false =>
  rw[b] at hh
  obtain⟨v,e,q⟩:=IV (J:=J) (β:=β) (h:=h) (w:=w) (rd:=fun j=>cs[o+(off+j)]?) (SV hh) (fun j y z=>by
   rw[Al8] at z
   obtain⟨u,A,hr,_⟩:=s.2 b _ _ z
   exact⟨u,A,hr⟩)
  exact⟨v,e,by simpa[Alv] using q⟩
theorem bU {t:TypeId} {p:AV} {vp:Value} {k:AV→O R} (S:SimH J β h w) (C:Looks g h) (hh:gP P g t p k=some r) (e:Rep J β h w p vp) :
  ∃ v vc,k v=some r∧(Instr.loadAt t vp).run P w=.ok vc w∧Rep J β h w v vc:=by
 unfold gP at hh
 split at hh
 ·rename_i c org
  rw[Rep,RepC] at e
  obtain⟨a,rfl,_,q⟩:=e
  obtain⟨v,s,u⟩:=S9 (β:=β) (h:=h) hh q
  obtain⟨vc,y,z⟩:=OV u
  exact⟨v,vc,s,by simp[Instr.loadAt,Instr.sureAddr,y],z⟩
 ·rename_i b off
  obtain⟨x,D,hh⟩:=ub hh
  obtain⟨F,G⟩:=C1 C D
  obtain⟨kk,o,cs,ty,fr,K,rfl,I,_,_,q,_⟩:=pg S F G e
  obtain⟨v,s,u⟩:=q.reads hh
  have A:bS P J β h w t (fun j=>w.cell? ((⟨kk,o+off,none⟩:Addr).add j)) v:=by
   simpa only[Addr.add_mid,M6 I] using u
  obtain⟨vc,y,z⟩:=OV A
  exact⟨v,vc,s,by simp[Instr.loadAt,Instr.sureAddr,y],z⟩
 ·simp at hh
theorem Ce {t:TypeId} {n:Nat} (hs:Bj P t=some n) (w:World):(Go.sizeOf t).run P w=.ok n w:=by
 unfold Bj at hs
 cases hq:P.info? t with
 | none=>simp[hq] at hs
 | some i=>simp[hq] at hs;simp[Go.sizeOf,typeInfo,hq,hs]
theorem Qu {i:Int} {n:Nat} (hi:Af i n=true):0≤i∧i<(n:Int):=by simpa[Af] using hi
theorem SW {J:Nat→Prop} {c:LA} {a:Addr} (b:RepCs J w c (fun j=>w.cell? (a.add j)) 0) (n:Nat):RepCs J w (c.drop n) (fun j=>w.cell? ((a.add n).add j)) 0:=by
 have e:∀ j,(a.add n).add j=a.add (n+j):=fun j=>by
  unfold Addr.add
  by_cases k:n=0<;>by_cases q:j=0<;>simp[k,q,Alv]
 simpa[e] using b.drop n
theorem Ac6 {b off n:Nat} {v:Value} (m:Nat) (hr:Rep J β h w (.own b off n) v) (hn:n≠0) :
  ∃ k o cap,v=.slice (some ⟨k,o,none⟩) n cap∧Rep J β h w (.optr b (off+m)) (.pointer (some ⟨k,o+m,none⟩)):=by
 rw[Rep] at hr
 obtain⟨x,A,cap,e,rfl,j,hr⟩:=hr
 rcases hr with hr | ⟨k,o,rfl,hr⟩
 ·omega
 ·refine⟨k,o+off,cap,rfl,?_⟩
  rw[Rep];exact⟨x,k,o,e,by rw[Alv],hr.imp id (·.1)⟩
theorem OW {t b:TypeId} {e:IntKind} {i:Int} {len cap sz:Nat} {a:Addr} (j:P.underlying t=some (.slice b)) (hs:Bj P b=some sz) (k:Af i len=true) :
  (Instr.indexAt t (.slice (some a) len cap) (.int e i)).run P w=.ok (.pointer (some (a.add (i.toNat*sz)))) w:=by
 obtain⟨h0,q⟩:=Qu k
 simp[Instr.indexAt,asIntOf,run_underlying j,h0,q,Ce hs]
theorem OX {t b:TypeId} {e:IntKind} {i:Int} {len sz:Nat} {a:Addr} (j:P.underlying t=some (.array len b)) (hs:Bj P b=some sz) (k:Af i len=true) :
  (Instr.indexAt t (.pointer (some a)) (.int e i)).run P w=.ok (.pointer (some (a.add (i.toNat*sz)))) w:=by
 obtain⟨h0,q⟩:=Qu k
 simp[Instr.indexAt,asIntOf,run_underlying j,h0,q,Ce hs,Instr.sureAddr]
theorem YU {t:TypeId} {x i:AV} {vx vi:Value} {k:AV→O R} (hh:Qo P t x i k=some r) (j:Rep J β h w x vx) (hi:Rep J β h w i vi) :
  ∃ v vc,k v=some r∧(Instr.indexAt t vx vi).run P w=.ok vc w∧Rep J β h w v vc:=by
 unfold Qo at hh
 split at hh
 ·rename_i z c len sz tight org C i q
  obtain⟨D,hs,s⟩:=ub hh
  obtain⟨L,T⟩:=uc s
  obtain⟨e,u⟩:=uc T
  have F:D=sz:=by simp at L;exact L.symm
  subst F
  rw[Rep] at hi;subst hi
  rw[Rep,RepC] at j
  obtain⟨M,A,cap,rfl,S,_,hA⟩:=j
  rcases hA with hA | ⟨a,rfl,G,I⟩
  ·have:=Qu e;omega
  refine⟨_,_,u,OW q hs e,?_⟩
  rw[Rep,RepC]
  exact⟨_,rfl,by rw[Qt];exact G,SW I _⟩
 ·rename_i z b off len C i q
  obtain⟨sz,hs,s⟩:=ub hh
  obtain⟨e,u⟩:=uc s
  rw[Rep] at hi;subst hi
  obtain⟨kk,o,cap,rfl,K⟩:=Ac6 (i.toNat*sz) j (by have:=Qu e;omega)
  exact⟨_,_,u,OW q hs e,by rw[Addr.add_mid];exact K⟩
 ·rename_i len z c org C i q
  obtain⟨sz,hs,s⟩:=ub hh
  obtain⟨e,u⟩:=uc s
  rw[Rep] at hi;subst hi
  rw[Rep,RepC] at j
  obtain⟨a,rfl,G,I⟩:=j
  refine⟨_,_,u,OX q hs e,?_⟩
  rw[Rep,RepC]
  exact⟨_,rfl,by rw[Qt];exact G,SW I _⟩
 ·rename_i len z b off C i q
  obtain⟨sz,hs,s⟩:=ub hh
  obtain⟨e,u⟩:=uc s
  rw[Rep] at hi;subst hi
  rw[Rep] at j
  obtain⟨y,kk,o,U,rfl,K⟩:=j
  refine⟨_,_,u,OX q hs e,?_⟩
  rw[Rep,Addr.add_mid]
  exact⟨y,kk,o,U,by rw[Alv],K⟩
 ·simp at hh
theorem SX {t:TypeId} {f:Nat} {p:Nat×TypeId} (b:gC P t f=some p):∃ fs fd,P.underlying t=some (.struct fs)∧fs[f]?=some fd∧fd.offset=p.1∧fd.type=p.2:=by
 unfold gC at b
 split at b
 ·rename_i fs e
  cases hq:fs[f]? with
  | none=>simp[hq] at b
  | some fd=>simp[hq] at b;subst b;exact⟨fs,fd,e,hq,rfl,rfl⟩
 ·simp at b
theorem YV {t:TypeId} {x:AV} {f:Nat} {vx:Value} {k:AV→O R} (hh:Qp P t x f k=some r) (b:Rep J β h w x vx) :
  ∃ v vc,k v=some r∧(Instr.fieldAt t vx f).run P w=.ok vc w∧Rep J β h w v vc:=by
 unfold Qp at hh
 obtain⟨p,s,u⟩:=ub hh
 obtain⟨n,hn,z⟩:=ub u
 obtain⟨h0,j⟩:=uw z
 obtain⟨fs,fd,A,C,D,F⟩:=SX s
 have q:n≠0:=by intro e;subst e;simp at h0
 have run:∀ a:Addr,(Instr.fieldAt t (.pointer (some a)) f).run P w=.ok (.pointer (some (a.add p.1))) w:=fun a=>by
  simp[Instr.fieldAt,run_underlying A,C,Instr.sureAddr,fieldPlace,F,Ce hn,q,D]
 split at j
 ·rw[Rep,RepC] at b
  obtain⟨a,rfl,G,I⟩:=b
  refine⟨_,_,j,run a,?_⟩
  rw[Rep,RepC]
  exact⟨_,rfl,by rw[Qt];exact G,SW I _⟩
 ·rw[Rep] at b
  obtain⟨y,kk,o,K,rfl,L⟩:=b
  refine⟨_,_,j,run _,?_⟩
  rw[Rep,Addr.add_mid]
  exact⟨y,kk,o,K,by rw[Alv],L⟩
 ·simp at j
theorem ph {t:TypeId} {x:AV} {f:Nat} {vx:Value} {k:AV→O R} (hh:YG P t x f k=some r) (e:Rep J β h w x vx) :
  ∃ v vc,k v=some r∧(Instr.field t vx f).run P w=.ok vc w∧Rep J β h w v vc:=by
 unfold YG at hh
 obtain⟨p,K,q⟩:=ub hh
 obtain⟨fs,fd,D,F,G,I⟩:=SX K
 split at q
 ·rename_i c org
  rw[Rep] at e
  obtain⟨cs,rfl,L,b⟩:=e
  obtain⟨v,s,u⟩:=S9 (β:=β) (h:=h) q (b.drop p.1)
  obtain⟨vc,z,A⟩:=R2 u
  exact⟨v,vc,s,by simp[Instr.field,run_underlying D,F,asAgg,I,G,z],A⟩
 ·rename_i c
  rw[Rep] at e
  obtain⟨cs,rfl,b⟩:=e
  rw[B6] at b
  obtain⟨v,s,u⟩:=IV (J:=J) (β:=β) (h:=h) (w:=w) (rd:=fun j=>cs[p.1+j]?) q (fun j y C=>by
   rw[Al8] at C
   have:p.1+j<cs.length:=by
    rw[b.1];exact(Ak4.1 C).1
   exact⟨cs[p.1+j],Aky this,b.2 _ _ _ C (Aky this)⟩)
  obtain⟨vc,z,A⟩:=R2 u
  exact⟨v,vc,s,by simp[Instr.field,run_underlying D,F,asAgg,I,G,z],A⟩
 ·simp at q
theorem pi {t:TypeId} {x i:AV} {vx vi:Value} {k:AV→O R} (hh:YH P t x i k=some r) (b:Rep J β h w x vx) (hi:Rep J β h w i vi) :
  ∃ v vc,k v=some r∧(Instr.index t vx vi).run P w=.ok vc w∧Rep J β h w v vc:=by
 unfold YH at hh
 split at hh
 ·rename_i s M i e
  obtain⟨q,u⟩:=uc hh
  obtain⟨h0,C⟩:=Qu q
  rw[Rep] at hi;rw[Rep] at b;subst hi b
  have z:i.toNat<s.length:=by omega
  refine⟨_,.int .u8 ((s.getD i.toNat 0).toNat:Int),u,?_,by rw[Rep]⟩
  have S:(⟨⟨s⟩⟩:ByteArray)[i.toNat]?=some s[i.toNat]:=by
   have:i.toNat<(⟨⟨s⟩⟩:ByteArray).size:=z
   rw[getElem?_pos (⟨⟨s⟩⟩:ByteArray) i.toNat this];rfl
  simp only[Instr.index,asIntOf,Sem.run_bind,Sem.run_pure,Result.andThen_ok,run_underlying e,h0,if_true,S,Ak5,Aky z,Option.getD_some]
 ·rename_i len T c org M i e
  obtain⟨sz,hs,u⟩:=ub hh
  obtain⟨q,C⟩:=uc u
  obtain⟨h0,D⟩:=Qu q
  rw[Rep] at hi;rw[Rep] at b;subst hi
  obtain⟨cs,rfl,U,A⟩:=b
  obtain⟨v,F,G⟩:=S9 (β:=β) (h:=h) C (A.drop (i.toNat*sz))
  obtain⟨vc,I,K⟩:=R2 G
  exact⟨v,vc,F,by simp[Instr.index,asIntOf,run_underlying e,h0,D,Ce hs,I],K⟩
 ·rename_i len T c M i e
  obtain⟨sz,hs,u⟩:=ub hh
  obtain⟨q,C⟩:=uc u
  obtain⟨h0,D⟩:=Qu q
  rw[Rep] at hi;rw[Rep] at b;subst hi
  obtain⟨cs,rfl,A⟩:=b
  rw[B6] at A
  obtain⟨v,F,G⟩:=IV (J:=J) (β:=β) (h:=h) (w:=w) (rd:=fun j=>cs[i.toNat*sz+j]?) (SV C) (fun j y L=>by
   rw[Al8] at L
   have:i.toNat*sz+j<cs.length:=by
    rw[A.1];exact(Ak4.1 L).1
   exact⟨cs[i.toNat*sz+j],Aky this,A.2 _ _ _ L (Aky this)⟩)
  obtain⟨vc,I,K⟩:=R2 G
  exact⟨v,vc,F,by simp[Instr.index,asIntOf,run_underlying e,h0,D,Ce hs,I],K⟩
 ·simp at hh
def T7 (J:Bool→Nat→Prop) (β:B5) (h:Ap) (w:World):Option AV→Option Value→Prop
 | none,none=>True
 | some x,some v=>Rep J β h w x v
 | _,_=>False
theorem IW {o:Option AV} {vo:Option Value} {d:Nat} {i:Int} (b:SN o d=some i) (e:T7 J β h w o vo) :
  (o=none∧vo=none∧i=d)∨∃ k,vo=some (.int k i):=by
 unfold SN at b
 split at b
 ·simp at b;subst b
  cases vo with
  | none=>exact .inl ⟨rfl,rfl,rfl⟩
  | some v=>simp[T7] at e
 ·rename_i k j
  simp at b;subst b
  cases vo with
  | none=>simp[T7] at e
  | some v=>rw[T7,Rep] at e;subst e;exact .inr ⟨k,rfl⟩
 ·simp at b
theorem R3 {lo hi mx:Option AV} {vlo vhi vmx:Option Value} {n cap:Nat} {k:Nat→Nat→O R} {isSlice:Bool} (hh:Ur lo hi mx n k=some r)
  (z:T7 J β h w lo vlo)
  (s:T7 J β h w hi vhi)
  (u:T7 J β h w mx vmx) (C:n≤cap) :
  ∃ l j m,k l j=some r∧l≤j∧j≤n∧j≤m∧m≤cap∧(mx=none→m=cap)∧(∀ q i,vmx=some (.int q i)→(m:Int)=i)∧(∀ q i,vhi=some (.int q i)→(j:Int)=i)∧(hi=none→j=n) ∧
   (Instr.sliceBounds isSlice n cap vlo vhi vmx).run P w=.ok (l,j,m) w:=by
 unfold Ur at hh
 obtain⟨l,I,K⟩:=ub hh
 obtain⟨e,L,M⟩:=ub K
 obtain⟨m,S,A⟩:=ub M
 obtain⟨D,A⟩:=uw A
 obtain⟨F,G⟩:=uc A
 simp at F D
 obtain⟨c1,c2,c3,c4⟩:=F
 have run:∀ (q:IntKind) (i:Int) (y:Nat) (code:BoundsCode),0≤i→i≤(y:Int)→(Instr.sliceBound (.int q i) y code).run P w=.ok i.toNat w:=fun q i y code a b=>by
  simp[Instr.sliceBound,asIntOf,a,b]
 have bl:=IW (J:=J) (β:=β) (h:=h) (w:=w) I z
 have bh:=IW (J:=J) (β:=β) (h:=h) (w:=w) L s
 have bm:=IW (J:=J) (β:=β) (h:=h) (w:=w) S u
 rcases bm with⟨rfl,rfl,rfl⟩ | ⟨km,rfl⟩
 ·refine⟨l.toNat,e.toNat,cap,G,by omega,by omega,by omega,by omega,fun _=>rfl,by simp,?_,?_,?_⟩
  ·intro q i v
   rcases bh with⟨_,rfl,_⟩ | ⟨kh,rfl⟩
   ·simp at v
   ·simp at v;omega
  ·intro hn
   rcases bh with⟨_,_,rfl⟩ | ⟨kh,rfl⟩
   ·simp
   ·subst hn;simp[T7] at s
  ·rcases bh with⟨_,rfl,rfl⟩ | ⟨kh,rfl⟩<;>rcases bl with⟨_,rfl,rfl⟩ | ⟨kl,rfl⟩
   ·simp[Instr.sliceBounds]
   ·simp[Instr.sliceBounds,run _ l n _ c1 (by omega)]
   ·simp[Instr.sliceBounds,run _ e cap _ (by omega) (by omega)]
   ·simp[Instr.sliceBounds,run _ e cap _ (by omega) (by omega),run _ l e.toNat _ c1 (by omega)]
 ·rcases bh with⟨rfl,rfl,rfl⟩ | ⟨kh,rfl⟩
  ·have:mx.isSome=true:=by
    cases mx with
    | none=>simp[T7] at u
    | some _=>rfl
   have:=D this;simp at this
  ·refine⟨l.toNat,e.toNat,m.toNat,G,by omega,by omega,by omega,by omega,?_,?_,?_,?_,?_⟩
   ·intro hn;subst hn;simp[T7] at u
   ·intro q i v;simp at v;omega
   ·intro q i v;simp at v;omega
   ·intro hn;subst hn;simp[T7] at s
   ·rcases bl with⟨_,rfl,rfl⟩ | ⟨kl,rfl⟩
    ·simp[Instr.sliceBounds,run _ m cap _ (by omega) (by omega),run _ e m.toNat _ (by omega) (by omega)]
    ·simp[Instr.sliceBounds,run _ m cap _ (by omega) (by omega),run _ e m.toNat _ (by omega) (by omega),run _ l e.toNat _ c1 (by omega)]
theorem pj {t:TypeId} {x:AV} {lo hi mx:Option AV} {vx:Value} {vlo vhi vmx:Option Value} {k:AV→O R} (S:SimH J β h w) (hl:Looks g h) (hh:YI P g t x lo hi mx k=some r)
  (D:Rep J β h w x vx) (F:T7 J β h w lo vlo) (j:T7 J β h w hi vhi) (u:T7 J β h w mx vmx) :
  ∃ v vc,k v=some r∧(Instr.sliceAt t vx vlo vhi vmx).run P w=.ok vc w∧Rep J β h w v vc:=by
 unfold YI at hh
 split at hh
 ·rename_i s G
  obtain⟨hm,T⟩:=uw hh
  have hmn:mx=none:=by cases mx<;>simp_all
  subst hmn
  have hv:vmx=none:=by cases vmx<;>simp_all[T7]
  subst hv
  rw[Rep] at D;subst D
  obtain⟨l,e,m,I,U,h4,_,_,h5,_,_,_,h6⟩:=R3 (P:=P) (isSlice:=false) T F j (vmx:=none) (by simp[T7]) (Akw _)
  refine⟨_,_,I,?_,by rw[Rep]⟩
  have hs:(⟨⟨s⟩⟩:ByteArray).size=s.length:=rfl
  have K:(⟨⟨s⟩⟩:ByteArray).extract l e=⟨⟨(s.drop l).take (e - l)⟩⟩:=by
   apply ByteArray.ext
   rw[ByteArray.data_extract]
   simp
  simp[Instr.sliceAt,Instr.slice,run_underlying G,hs,h6,K]
 ·rename_i el G
  rw[Rep] at D;subst D
  obtain⟨sz,hs,hh⟩:=ub hh
  obtain⟨l,e,m,I,U,h4,h5,h6,_,_,_,_,h7⟩:=R3 (P:=P) (isSlice:=true) hh F j u (Akw _)
  have:l=0:=by omega
  have:e=0:=by omega
  have:m=0:=by omega
  subst l;subst e;subst m
  refine⟨_,.slice none 0 0,I,?_,by rw[Rep]⟩
  simp[Instr.sliceAt,Instr.slice,run_underlying G,h7,Ce hs]
 ·rename_i el c n sz tight org G
  obtain⟨V,hs,T⟩:=ub hh
  obtain⟨K,I⟩:=uc T
  have L:V=sz:=by simp at K;exact K.symm
  subst L
  rw[Rep,RepC] at D
  obtain⟨hlen,A,cap,rfl,z,ht,hA⟩:=D
  obtain⟨l,e,m,U,h4,h5,h6,h7,h8,h9,h10,h11,h12⟩:=R3 (P:=P) (isSlice:=true) I F j u z
  refine⟨_,.slice (if m=l then A else A.map (·.add (l*V))) (e - l) (m - l),U,?_,?_⟩
  ·simp[Instr.sliceAt,Instr.slice,run_underlying G,h12,Ce hs]
  ·rw[Rep,RepC]
   refine⟨?_,_,_,rfl,by omega,?_,?_⟩
   ·simp;rw[hlen,←Nat.sub_mul]
    exact Al2 (Alg _ (by omega))
   ·intro C
    unfold x5 at C
    split at C
    ·have:=ht C
     have:=h8 rfl
     have:=h11 rfl
     omega
    ·rename_i ka a kb b
     cases vhi with
     | none=>simp[T7] at j
     | some u1=>cases vmx with
      | none=>simp[T7] at u
      | some u2 =>
       rw[T7,Rep] at j u;subst j u
       have e1:=h10 _ _ rfl
       have e2:=h9 _ _ rfl
       simp at C
       omega
    ·simp at C
   ·by_cases hz:e - l=0
    ·exact .inl hz
    ·right
     rcases hA with hA | ⟨a,rfl,hj,hc⟩
     ·omega
     ·refine⟨a.add (l*V),by rw[if_neg (by omega)];rfl,by rw[Qt];exact hj,(SW hc _).take _⟩
 ·rename_i el b off n G
  obtain⟨sz,hs,T⟩:=ub hh
  obtain⟨y,hy,I⟩:=ub T
  obtain⟨K,U⟩:=uc I
  obtain⟨Y,hd⟩:=C1 hl hy
  have L:sz=y.sz:=by simpa using K
  rw[Rep] at D
  obtain⟨x,A,cap,⟨q,M⟩,rfl,z,hr⟩:=D
  rw[Y] at q;simp at q;subst q
  obtain⟨l,e,m,h4,h5,h6,h7,h8,_,_,_,_,h9⟩:=R3 (P:=P) (isSlice:=true) U F j u z
  refine⟨_,.slice (if m=l then A else A.map (·.add (l*sz))) (e - l) (m - l),h4,?_,?_⟩
  ·simp[Instr.sliceAt,Instr.slice,run_underlying G,h9,Ce hs]
  ·rw[Rep]
   refine⟨y,_,_,⟨Y,M⟩,rfl,by omega,?_⟩
   by_cases hz:m - l=0
   ·exact .inl hz
   ·right
    rcases hr with hr | ⟨kk,o,rfl,hr⟩
    ·omega
    ·refine⟨kk,o,by rw[if_neg (by omega)];simp[Addr.add_mid,Alv],?_⟩
     rcases hr with hr | ⟨r1,r2,r3⟩
     ·simp[hd] at hr
     ·refine .inr ⟨r1,?_,?_⟩
      ·have:l*sz+(m - l)*y.sz≤cap*y.sz:=by
        rw[L,←Amz];exact Alg _ (by omega)
       omega
      ·have:l*sz+(e - l)*y.sz≤n*y.sz:=by
        rw[L,←Amz];exact Alg _ (by omega)
       omega
 ·rename_i n el b off G
  obtain⟨sz,hs,T⟩:=ub hh
  obtain⟨y,hy,I⟩:=ub T
  obtain⟨K,U⟩:=uc I
  simp at K
  obtain⟨e1,e2,e3,e4,e5⟩:=K
  subst e3;subst e4;subst e5
  obtain⟨Y,hd⟩:=C1 hl hy
  have nlo:vlo=none:=by cases vlo<;>simp_all[T7]
  have nhi:vhi=none:=by cases vhi<;>simp_all[T7]
  have nmx:vmx=none:=by cases vmx<;>simp_all[T7]
  subst nlo;subst nhi;subst nmx
  rw[Rep] at D
  obtain⟨x,kk,o,⟨q,M⟩,rfl,hr⟩:=D
  rw[Y] at q;simp at q;subst q
  refine⟨_,.slice (some ⟨kk,o+off,none⟩) n n,U,?_,?_⟩
  ·have e1:(Addr.add ⟨kk,o+off,none⟩ 0)=⟨kk,o+off,none⟩:=rfl
   simp[Instr.sliceAt,Instr.sureAddr,run_underlying G,Instr.sliceBounds,Ce hs,e1]
  ·rw[Rep]
   refine⟨y,_,_,⟨Y,M⟩,rfl,Akw _,.inr ⟨kk,o,rfl,?_⟩⟩
   rcases hr with hr | hr
   ·exact .inl hr
   ·rcases S.blk b y Y hd M with⟨hn',_⟩ | ⟨k',o',cs,ty',fr,X,g1,g2,g3,_⟩
    ·rw[hr] at hn';simp at hn'
    ·rw[hr] at X;simp at X;obtain⟨rfl,rfl⟩:=X
     refine .inr ⟨hr,?_,?_⟩
     ·rw[e1,show At w kk=cs.size by simp[At,g1]];omega
     ·rw[e1];omega
 ·simp at hh
theorem ux {t:TypeId} {x v:AV} {vx:Value} {ty:TypeId} (hh:Ae2 P t x=some v) (e:Rep J β h w x vx) :
  ∃ vc,(Builtin.len_ #[t] ty #[vx]).run P w=.ok vc w∧Rep J β h w v vc:=by
 unfold Ae2 at hh
 split at hh
 ·rename_i b
  simp at hh;subst hh;rw[Rep] at e;subst e
  exact⟨.int .i64 0,by simp[Builtin.len_,run_underlying b,goInt],by rw[Rep]⟩
 ·rename_i n _ _ _ b
  simp at hh;subst hh;rw[Rep,RepC] at e
  obtain⟨_,A,cap,rfl,_⟩:=e
  exact⟨.int .i64 n,by simp[Builtin.len_,run_underlying b,goInt],by rw[Rep]⟩
 ·rename_i n b
  simp at hh;subst hh;rw[Rep] at e
  obtain⟨_,A,cap,_,rfl,_⟩:=e
  exact⟨.int .i64 n,by simp[Builtin.len_,run_underlying b,goInt],by rw[Rep]⟩
 ·rename_i s b
  simp at hh;subst hh;rw[Rep] at e;subst e
  refine⟨.int .i64 s.length,?_,by rw[Rep]⟩
  have hs:(⟨⟨s⟩⟩:ByteArray).size=s.length:=rfl
  simp[Builtin.len_,run_underlying b,goInt,hs]
 ·rename_i n _ b
  simp at hh;subst hh
  exact⟨.int .i64 n,by simp[Builtin.len_,run_underlying b,goInt],by rw[Rep]⟩
 ·simp at hh
theorem SY {J:Nat→Prop}:∀ {x:AV} {u:Value},RepC J w x u→u.oneCell'=true
 | .int ..,_,hr=>by rw[RepC] at hr;subst hr;rfl
 | .bool _,_,hr=>by rw[RepC] at hr;subst hr;rfl
 | .str _,_,hr=>by rw[RepC] at hr;subst hr;rfl
 | .nsl,_,hr=>by rw[RepC] at hr;subst hr;rfl
 | .imm ..,_,hr=>by rw[RepC] at hr;obtain⟨_,A,cap,rfl,_⟩:=hr;rfl
 | .iptr ..,_,hr=>by rw[RepC] at hr;obtain⟨a,rfl,_⟩:=hr;rfl
 | .nilptr,_,hr=>by rw[RepC] at hr;subst hr;rfl
 | .nilfn,_,hr=>by rw[RepC] at hr;subst hr;rfl
 | .fn _ [],_,hr=>by rw[RepC] at hr;subst hr;rfl
 | .fn _ (_::_),_,hr=>by simp[RepC] at hr
 | .pagg ..,_,hr=>by simp[RepC] at hr
 | .agg _,_,hr=>by simp[RepC] at hr
 | .tup _,_,hr=>by simp[RepC] at hr
 | .own ..,_,hr=>by simp[RepC] at hr
 | .optr ..,_,hr=>by simp[RepC] at hr
 | .undef,_,hr=>by simp[RepC] at hr
 | .omap _,_,hr=>by simp[RepC] at hr
theorem RepCs.one {J:Nat→Prop} {c:LA} {us:List Value} (k:RepCs J w c (fun j=>us[j]?) 0) (v:us.length=c.length):∀ u ∈ us,u.oneCell'=true:=by
 intro u q
 obtain⟨j,s,rfl⟩:=Alr q
 have e:j<c.length:=by omega
 obtain⟨y,b,hr⟩:=k.at (Aky e)
 simp[Aky s] at b
 rw[b];exact SY hr
structure Yield (P:Program) (w:World) (sz:Nat) (vx:Value) (n:Nat) (us:List Value):Prop where
 len:∀ w':World,(Builtin.lenOf vx).run P w'=.ok n w'
 cells:∀ (w':World) (m:Nat),(∀ a,w'.cell? a=w.cell? a)→m≤n→(Builtin.firstCells sz m vx).run P w'=.ok (us.take (m*sz)).toArray w'
 length:us.length=n*sz
theorem bV {sz:Nat} {x:AV} {vx:Value} {q:LA×Nat×Bool} (S:SimH J β h w) (hl:Looks g h) (hh:nc g sz x=some q) (C:Rep J β h w x vx) :
  ∃ us:List Value,Yield P w sz vx q.2.1 us∧q.1.length=us.length∧RepCs (J q.2.2) w q.1 (fun j=>us[j]?) 0:=by
 have ofSlice:∀ (a:Addr) (n cap:Nat) (us:List Value),us.length=n*sz→(∀ j u,us[j]?=some u→w.cell? (a.add j)=some u)→Yield P w sz (.slice (some a) n cap) n us:=fun a n cap us e hu =>
  ⟨fun _=>rfl,fun w' m z T=>by
   have hle:m*sz≤n*sz:=Alg _ T
   refine run_firstCells_some (P:=P) w' sz m a n cap (us.take (m*sz)) (by simp;omega) (fun j v K=>?_)
   rw[z]
   rw[Al4] at K
   split at K
   ·exact hu j v K
   ·simp at K,e⟩
 have ofEmpty:∀ (A:Option Addr) (cap:Nat),Yield P w sz (.slice A 0 cap) 0 []:=fun A cap =>
  ⟨fun _=>rfl,fun w' m z T=>by
   have:m=0:=by omega
   subst this
   cases A with
   | none=>simp[run_firstCells_none]
   | some a=>have:=run_firstCells_some (P:=P) w' sz 0 a 0 cap [] (by simp) (fun j v K=>by simp at K);simpa using this,by simp⟩
 unfold nc at hh
 split at hh
 ·simp at hh;subst hh;rw[Rep] at C;subst C
  exact⟨[],ofEmpty _ _,rfl,by simp[RepCs]⟩
 ·rename_i c n U tight org
  obtain⟨z,F⟩:=uc hh
  have V:U=sz:=by simp at z;exact z.symm
  subst V
  simp at F;subst F
  rw[Rep,RepC] at C
  obtain⟨e,A,cap,rfl,L,ht,hA⟩:=C
  rcases hA with rfl | ⟨a,rfl,M,hc⟩
  ·have:c=[]:=by simpa using e
   subst this
   exact⟨[],ofEmpty _ _,rfl,by simp[RepCs]⟩
  ·obtain⟨us,D,X,Y⟩:=hc.list
   exact⟨us,ofSlice a n cap us (by rw[D,e]) X,D.symm,Y⟩
 ·rename_i b off n
  obtain⟨y,hy,F⟩:=ub hh
  obtain⟨z,D⟩:=uc F
  obtain⟨O,hd⟩:=C1 hl hy
  simp at z D
  obtain⟨hp,z⟩:=z
  subst D;subst z
  rw[Rep] at C
  obtain⟨x,A,cap,⟨G,hmp⟩,rfl,L,hr⟩:=C
  rw[O] at G;simp at G;subst G
  rcases hr with hr | ⟨kk,o,rfl,hr⟩
  ·have:n=0:=by omega
   subst this
   exact⟨[],ofEmpty _ _,by simp,by simp[RepCs]⟩
  ·rcases hr with hr | ⟨r1,r2,r3⟩
   ·simp[hd] at hr
   ·rcases S.blk b y O hd hmp with⟨hn,_⟩ | ⟨k',o',cs,ty,fr,I,g1,g2,g3,g4,g5,g6⟩
    ·rw[r1] at hn;simp at hn
    ·rw[r1] at I;simp at I;obtain⟨rfl,rfl⟩:=I
     obtain⟨us,D,X,Y⟩:=(((g4.1 hp).drop off).take (n*y.sz)).list
     have e:us.length=n*y.sz:=by rw[D];simp;omega
     refine⟨us,ofSlice _ n cap us e (fun j u M=>?_),D.symm,Y⟩
     have:=X j u M
     rw[Addr.add_mid,M6 g1,Alv];exact this
 ·rename_i s
  obtain⟨z,F⟩:=uc hh
  simp at z F
  subst z;subst F
  rw[Rep] at C;subst C
  refine⟨s.map fun b=>.int .u8 (b.toNat:Int),⟨fun _=>rfl,fun w' m _ T=>?_,by simp⟩,by simp,?_⟩
  ·simp[Builtin.firstCells]
  ·rw[By]
   intro j x M
   simp at M
   obtain⟨b,O,rfl⟩:=M
   exact⟨_,by simp[O];rfl,by rw[RepC]⟩
 ·simp at hh
theorem DP {s:TypeId} {sz:Nat} {x:AV} {vx:Value} {k:LA×Nat×Bool→O R} (S:SimH J β h w) (u:Looks g h) (hh:QR P s g sz x k=some r) (v:Rep J β h w x vx) :
  ∃ (q:LA×Nat×Bool) (us:List Value),k q=some r∧Yield P w sz vx q.2.1 us∧q.1.length=us.length∧RepCs (J q.2.2) w q.1 (fun j=>us[j]?) 0:=by
 unfold QR at hh
 obtain⟨q,hq,y⟩:=ub hh
 obtain⟨us,Y,b,e⟩:=bV (P:=P) S u hq v
 obtain⟨o,z,A⟩:=OU y e
 exact⟨_,us,z,Y,b,A⟩
end
end Gx
namespace Gx
open Go
theorem IE {a b:Nat} (h:a≠b):beq a b=false:=by
 cases e:beq a b with
 | false=>rfl
 | true=>exact absurd (Ak0 e) h
theorem Ug {a b:Nat} (h:beq a b=false):a≠b:=fun e=>by subst e;rw[Nat.beq_refl] at h;cases h
theorem Ad:∀ (h:Ap) (b:Nat) (y:Blk) (c:Nat),Ai (Dp h b y) c=if c=b then some y else Ai h c
 | [],b,y,c=>by
  by_cases e:c=b
  ·subst e;simp[Dp,Ai]
  ·have:beq b c=false:=IE (fun k=>e k.symm)
   simp[Dp,Ai,e,this]
 | (i,x)::r,b,y,c=>by
  rw[Dp]
  cases s:beq i b with
  | true =>
   have j:i=b:=by simpa using s
   subst j
   by_cases e:c=i
   ·subst e;simp[Ai]
   ·have:beq i c=false:=IE (fun k=>e k.symm)
    simp[Ai,e,this]
  | false =>
   have j:i≠b:=Ug s
   cases v:Nat.blt b i with
   | true =>
    by_cases e:c=b
    ·subst e;simp[Ai]
    ·have:beq b c=false:=IE (fun k=>e k.symm)
     simp[Ai,e,this]
   | false =>
    simp only[cond_false]
    rw[Ai]
    cases u:beq i c with
    | true =>
     have q:i=c:=by simpa using u
     subst q
     simp[Ai,j]
    | false=>simp[Ai,u,Ad r b y c]
theorem Mb:∀ (h:F8) (b:Nat) (y:AV) (c:Nat),Fn (QQ h b y) c=if c=b then y else Fn h c
 | [],b,y,c=>by
  by_cases e:c=b
  ·subst e;simp[QQ,Fn]
  ·have:beq b c=false:=IE (fun k=>e k.symm)
   simp[QQ,Fn,e,this]
 | (i,x)::r,b,y,c=>by
  rw[QQ]
  cases s:beq i b with
  | true =>
   have j:i=b:=by simpa using s
   subst j
   by_cases e:c=i
   ·subst e;simp[Fn]
   ·have:beq i c=false:=IE (fun k=>e k.symm)
    simp[Fn,e,this]
  | false =>
   have j:i≠b:=Ug s
   cases v:Nat.blt b i with
   | true =>
    by_cases e:c=b
    ·subst e;simp[Fn]
    ·have:beq b c=false:=IE (fun k=>e k.symm)
     simp[Fn,e,this]
   | false =>
    simp only[cond_false]
    rw[Fn]
    cases u:beq i c with
    | true =>
     have q:i=c:=by simpa using u
     subst q
     simp[Fn,j]
    | false=>simp[Fn,u,Mb r b y c]
def rx (β:B5) (h:Ap) (k:Nat):Prop:=∃ b x o,Ai h b=some x∧x.dead=false∧x.sealed=false∧β b=some (k,o)
structure Step (J:Bool→Nat→Prop) (β:B5) (h:Ap) (w:World) (J':Bool→Nat→Prop) (β':B5) (h':Ap) (w':World):Prop where
 ext:Ext J β h w J' β' h' w'
 sim:SimH J' β' h' w'
 os:w'.os=w.os
 tape:w'.tape=w.tape
 output:w'.output=w.output
 size:w.heap.size≤w'.heap.size
 frame:∀ k,k<w.heap.size→¬ rx β h k→w'.heap[k]?=w.heap[k]?
 wr:∀ k,rx β' h' k→k<w.heap.size→rx β h k
 jup:∀ o k,J' o k→J o k∨rx β h k∨w.heap.size≤k
section
variable {J J' J'':Bool→Nat→Prop} {β β' β'':B5} {h h' h'':Ap} {w w' w'':World}
theorem Ext.refl:Ext J β h w J β h w:=⟨fun _ _ e=>e,fun _ _ _=>rfl,fun b x j=>⟨x,⟨j,rfl⟩,by cases k:x.dead<;>simp⟩,fun _ _ _ _=>Akw _⟩
theorem Ext.trans (A:Ext J β h w J' β' h' w') (B:Ext J' β' h' w' J'' β'' h'' w'') (hs:∀ b k o,β b=some (k,o)→At w k≤At w'' k):Ext J β h w J'' β'' h'' w'' where
 jsub o k j:=B.jsub o k (A.jsub o k j)
 keep o k j:=(B.keep o k (A.jsub o k j)).trans (A.keep o k j)
 blk b x u:=by
  obtain⟨x',⟨v,m1⟩,q⟩:=A.blk b x u
  obtain⟨x'',⟨y,m3⟩,e⟩:=B.blk b x' v
  refine⟨x'',⟨y,m3.trans m1⟩,?_⟩
  rcases e with e | ⟨e,z,C,D⟩
  ·exact .inl e
  ·rcases q with q | ⟨F,G,I,K⟩
   ·simp[e] at q
   ·exact .inr ⟨F,z.trans G,C.trans I,fun s=>(D (m1.trans s)).trans (K s)⟩
 size:=hs
theorem Step.refl (S:SimH J β h w):Step J β h w J β h w:=⟨Ext.refl,S,rfl,rfl,rfl,Akw _,fun _ _ _=>rfl,fun _ b _=>b,fun _ _ e=>.inl e⟩
theorem Step.trans (A:Step J β h w J' β' h' w') (B:Step J' β' h' w' J'' β'' h'' w'') (hs:∀ b k o,β b=some (k,o)→At w k≤At w'' k):Step J β h w J'' β'' h'' w'' where
 ext:=A.ext.trans B.ext hs
 sim:=B.sim
 os:=B.os.trans A.os
 tape:=B.tape.trans A.tape
 output:=B.output.trans A.output
 size:=Amp A.size B.size
 frame k e q:=(B.frame k (Ame e A.size) (fun s=>q (A.wr k s e))).trans (A.frame k e q)
 wr k q e:=A.wr k (B.wr k q (Ame e A.size)) e
 jup o k u:=by
  rcases B.jup o k u with j | j | j
  ·exact A.jup o k j
  ·by_cases e:k<w.heap.size
   ·exact .inr (.inl (A.wr k j e))
   ·exact .inr (.inr (by omega))
  ·exact .inr (.inr (Amp A.size j))
theorem CellsRep.ext (E:Ext J β h w J' β' h' w') {x:Blk} {rd:Nat→Option Value} (e:CellsRep J β h w x rd):CellsRep J' β' h' w' x rd :=
 ⟨fun b=>RepCs.keep (E.jsub _) (E.keep _) (fun _=>rfl) (e.1 b),fun b j c k=>by
  obtain⟨u,q,s,v⟩:=e.2 b j c k
  exact⟨u,q,Rep.ext E s,v⟩⟩
theorem Co {k:Nat} {cs:Array Value} {ty:TypeId} {fr:Nat×Nat} (b:w.heap[k]?=some (.cells cs ty fr)):At w k=cs.size:=by simp[At,b]
theorem Pa {k:Nat} {o:Obj} (j:w.heap[k]?=some o):k<w.heap.size:=by
 rcases An7 k w.heap.size with b | e
 ·exact b
 ·rw[Alk e] at j;cases j
theorem MapRep.keep {b:Nat} {x:Blk} (M:MapRep J β w b x) (j:β' b=β b) (q:∀ k o,β b=some (k,o)→w'.heap[k]?=w.heap[k]?) (s:∀ g k o,β b=some (k,o)→J' g k→J g k):MapRep J' β' w' b x:=by
 obtain⟨u,v,k,ob,e,y,z,A⟩:=M
 exact⟨u,v,k,ob,by rw[j];exact e,by rw[q k 0 e];exact y,z,fun g C=>A g (s g k 0 e C)⟩
theorem Step.drew (S:SimH J β h w):Step J β h w J β h w.drew where
 ext:=⟨fun _ _ e=>e,fun _ _ _=>rfl,fun b x j=>⟨x,⟨j,rfl⟩,by cases q:x.dead<;>simp⟩,fun _ _ _ _=>Akw _⟩
 sim:=by
  have E:Ext J β h w J β h w.drew:=⟨fun _ _ e=>e,fun _ _ _=>rfl,fun b x j=>⟨x,⟨j,rfl⟩,by cases q:x.dead<;>simp⟩,fun _ _ _ _=>Akw _⟩
  refine⟨S.jlt,S.jft,S.gl.ext E,fun b x j q s=>?_,fun b x j q s=>(S.mblk b x j q s).keep rfl (fun _ _ _=>rfl) (fun _ _ _ _ e=>e),S.sep⟩
  rcases S.blk b x j q s with u | ⟨k,o,cs,ty,fr,u,v,y,z,A,C⟩
  ·exact .inl u
  ·exact .inr ⟨k,o,cs,ty,fr,u,v,y,z,A.ext E,C⟩
 os:=rfl
 tape:=rfl
 output:=rfl
 size:=Akw _
 frame _ _ _:=rfl
 wr _ s _:=s
 jup _ _ e:=.inl e
theorem Cr (w:World) (o:Obj) {k:Nat} (b:k<w.heap.size):(w.alloc o).heap[k]?=w.heap[k]?:=by
 show(w.heap.push o)[k]?=_
 rw[Array.getElem?_push,if_neg (by omega)]
theorem My (S:SimH J β h w) {b:Nat} {x:Blk} {k o:Nat} (s:Ai h b=some x) (u:x.dead=false) (j:β b=some (k,o)):k<w.heap.size:=by
 cases v:x.mp with
 | false =>
  rcases S.blk b x s u v with⟨hn,_⟩ | ⟨y,o',cs,ty,fr,e,q,_⟩
  ·rw[j] at hn;simp at hn
  ·rw[j] at e;simp at e;obtain⟨rfl,rfl⟩:=e;exact Pa q
 | true =>
  obtain⟨_,_,y,ob,e,q,_⟩:=S.mblk b x s u v
  rw[j] at e;simp at e;obtain⟨rfl,_⟩:=e;exact Pa q
theorem Step.new (S:SimH J β h w) {d:Nat} {x:Blk} {cs:Array Value} {ty:TypeId} {fr:Nat×Nat} (hn:Ai h d=none) (hxd:x.dead=false) (L:x.sealed=false)
  (M:FrTy x.ty ty 0 cs.size fr) (X:x.cells.length≤cs.size) (hc:CellsRep J β h w x (fun j=>cs[j]?)) (O:x.mp=false:=by rfl) :
  Step J β h w J (fun b=>if b=d then some (w.heap.size,0) else β b) (Dp h d x) (w.alloc (.cells cs ty fr)):=by
 have ne:∀ {b y},Ai h b=some y→b≠d:=fun q e=>by subst e;rw[hn] at q;cases q
 have E:Ext J β h w J (fun b=>if b=d then some (w.heap.size,0) else β b) (Dp h d x) (w.alloc (.cells cs ty fr)):=by
  refine⟨fun _ _ u=>u,fun o k u=>Cr w _ (S.jlt o k u),fun b y q=>⟨y,⟨by rw[Ad,if_neg (ne q)];exact q,rfl⟩,?_⟩,fun b k o s=>?_⟩
  ·cases A:y.dead
   ·exact .inr ⟨rfl,by simp[ne q],rfl,fun _=>rfl⟩
   ·exact .inl rfl
  ·by_cases D:k<w.heap.size
   ·simp[At,Cr w _ D]
   ·simp[At,Alk (Amh D)]
 have F:(w.alloc (.cells cs ty fr)).heap[w.heap.size]?=some (.cells cs ty fr):=by
  show(w.heap.push _)[_]?=_;simp
 have hsz:(w.alloc (.cells cs ty fr)).heap.size=w.heap.size+1:=by show(w.heap.push _).size=_;simp
 refine⟨E,⟨fun o k u=>by have:=S.jlt o k u;omega,S.jft,S.gl.ext E,fun b y q A I=>?_,fun b y q A I=>by
   rw[Ad] at q
   by_cases e:b=d
   ·rw[if_pos e] at q;simp at q;subst q;simp[O] at I
   ·rw[if_neg e] at q
    exact(S.mblk b y q A I).keep (by simp[e]) (fun k o s=>Cr w _ (My S q A s)) (fun _ _ _ _ u=>u),?_⟩,rfl,rfl,rfl,by omega,fun k D _=>Cr w _ D,?_,fun _ _ u=>.inl u⟩
 ·rw[Ad] at q
  by_cases e:b=d
  ·subst e;simp at q;subst q
   exact .inr ⟨w.heap.size,0,cs,ty,fr,by simp,F,M,by omega,by simpa using hc.ext E,fun _ g u=>by have:=S.jlt g _ u;omega,fun hs=>by simp[L] at hs⟩
  ·rw[if_neg e] at q
   rcases S.blk b y q A I with K | ⟨k,o,T,U,V,K,Y,h3,h4,h5,h6⟩
   ·exact .inl ⟨by simp[e,K.1],K.2⟩
   ·exact .inr ⟨k,o,T,U,V,by simp[e,K],by rw[Cr w _ (Pa Y)];exact Y,h3,h4,h5.ext E,h6⟩
 ·intro b b' y y' k o o' q v A G hs s z
  rw[Ad] at q v
  by_cases e:b=d<;>by_cases C:b'=d
  ·rw[e,C]
  ·rw[if_neg C] at v
   simp[e] at s;simp[C] at z
   have:=My S v G z;omega
  ·rw[if_neg e] at q
   simp[C] at z;simp[e] at s
   have:=My S q A s;omega
  ·rw[if_neg e] at q;rw[if_neg C] at v
   simp[e] at s;simp[C] at z
   exact S.sep b b' y y' k o o' q v A G hs s z
 ·rintro k ⟨b,y,o,q,A,hs,s⟩ D
  rw[Ad] at q
  by_cases e:b=d
  ·simp[e] at s;omega
  ·rw[if_neg e] at q;simp[e] at s
   exact⟨b,y,o,q,A,hs,s⟩
theorem Step.newNone (S:SimH J β h w) {d:Nat} {x:Blk} (hn:Ai h d=none) (O:x.cells=[]) (D:x.mp=false:=by rfl) :
  Step J β h w J (fun b=>if b=d then none else β b) (Dp h d x) w:=by
 have ne:∀ {b y},Ai h b=some y→b≠d:=fun j e=>by subst e;rw[hn] at j;cases j
 have E:Ext J β h w J (fun b=>if b=d then none else β b) (Dp h d x) w:=by
  refine⟨fun _ _ z=>z,fun o k z=>rfl,fun b y j=>⟨y,⟨by rw[Ad,if_neg (ne j)];exact j,rfl⟩,?_⟩,fun b k o q=>Akw _⟩
  cases s:y.dead
  ·exact .inr ⟨rfl,by simp[ne j],rfl,fun _=>rfl⟩
  ·exact .inl rfl
 refine⟨E,⟨S.jlt,S.jft,S.gl.ext E,fun b y j s A=>?_,fun b y j s A=>by
   rw[Ad] at j
   by_cases e:b=d
   ·rw[if_pos e] at j;simp at j;subst j;simp[D] at A
   ·rw[if_neg e] at j
    exact(S.mblk b y j s A).keep (by simp[e]) (fun k o q=>rfl) (fun _ _ _ _ z=>z),?_⟩,rfl,rfl,rfl,Akw _,fun k T _=>rfl,?_,fun _ _ z=>.inl z⟩
 ·rw[Ad] at j
  by_cases e:b=d
  ·subst e;simp at j;subst j
   exact .inl ⟨by simp,O⟩
  ·rw[if_neg e] at j
   rcases S.blk b y j s A with C | ⟨k,o,F,G,I,C,U,V,X,Y,h6⟩
   ·exact .inl ⟨by simp[e,C.1],C.2⟩
   ·exact .inr ⟨k,o,F,G,I,by simp[e,C],U,V,X,Y.ext E,h6⟩
 ·intro b M y y' k o o' j u s K hs q v
  rw[Ad] at j u
  by_cases e:b=d
  ·simp[e] at q
  ·by_cases L:M=d
   ·simp[L] at v
   ·rw[if_neg e] at j;rw[if_neg L] at u
    simp[e] at q;simp[L] at v
    exact S.sep b M y y' k o o' j u s K hs q v
 ·rintro k ⟨b,y,o,j,s,hs,q⟩ T
  rw[Ad] at j
  by_cases e:b=d
  ·simp[e] at q
  ·rw[if_neg e] at j;simp[e] at q
   exact⟨b,y,o,j,s,hs,q⟩
theorem Step.newObj (S:SimH J β h w) {d:Nat} {x:Blk} {ob:Obj} (hn:Ai h d=none) (hxd:x.dead=false) (K:x.sealed=false) (L:x.pure=true) (M:ObjIs x ob) (O:x.mp=true) :
  Step J β h w J (fun b=>if b=d then some (w.heap.size,0) else β b) (Dp h d x) (w.alloc ob):=by
 have ne:∀ {b y},Ai h b=some y→b≠d:=fun j e=>by subst e;rw[hn] at j;cases j
 have E:Ext J β h w J (fun b=>if b=d then some (w.heap.size,0) else β b) (Dp h d x) (w.alloc ob):=by
  refine⟨fun _ _ s=>s,fun o k s=>Cr w _ (S.jlt o k s),fun b y j=>⟨y,⟨by rw[Ad,if_neg (ne j)];exact j,rfl⟩,?_⟩,fun b k o q=>?_⟩
  ·cases z:y.dead
   ·exact .inr ⟨rfl,by simp[ne j],rfl,fun _=>rfl⟩
   ·exact .inl rfl
  ·by_cases C:k<w.heap.size
   ·simp[At,Cr w _ C]
   ·simp[At,Alk (Amh C)]
 have D:(w.alloc ob).heap[w.heap.size]?=some ob:=by
  show(w.heap.push _)[_]?=_;simp
 have hsz:(w.alloc ob).heap.size=w.heap.size+1:=by show(w.heap.push _).size=_;simp
 refine⟨E,⟨fun o k s=>by have:=S.jlt o k s;omega,S.jft,S.gl.ext E,fun b y j z G=>?_,fun b y j z G=>?_,?_⟩,rfl,rfl,rfl,by omega,fun k C _=>Cr w _ C,?_,fun _ _ s=>.inl s⟩
 ·rw[Ad] at j
  by_cases e:b=d
  ·rw[if_pos e] at j;simp at j;subst j;simp[O] at G
  ·rw[if_neg e] at j
   rcases S.blk b y j z G with I | ⟨k,o,T,U,V,I,X,h3,h4,h5,h6⟩
   ·exact .inl ⟨by simp[e,I.1],I.2⟩
   ·exact .inr ⟨k,o,T,U,V,by simp[e,I],by rw[Cr w _ (Pa X)];exact X,h3,h4,h5.ext E,h6⟩
 ·rw[Ad] at j
  by_cases e:b=d
  ·rw[if_pos e] at j;simp at j;subst j
   exact⟨L,K,w.heap.size,ob,by simp[e],D,M,fun g s=>by have:=S.jlt g _ s;omega⟩
  ·rw[if_neg e] at j
   exact(S.mblk b y j z G).keep (by simp[e]) (fun k o q=>Cr w _ (My S j z q)) (fun _ _ _ _ s=>s)
 ·intro b Y y y' k o o' j u z F hs q v
  rw[Ad] at j u
  by_cases e:b=d<;>by_cases A:Y=d
  ·rw[e,A]
  ·rw[if_neg A] at u
   simp[e] at q;simp[A] at v
   have:=My S u F v;omega
  ·rw[if_neg e] at j
   simp[A] at v;simp[e] at q
   have:=My S j z q;omega
  ·rw[if_neg e] at j;rw[if_neg A] at u
   simp[e] at q;simp[A] at v
   exact S.sep b Y y y' k o o' j u z F hs q v
 ·rintro k ⟨b,y,o,j,z,hs,q⟩ C
  rw[Ad] at j
  by_cases e:b=d
  ·simp[e] at q;omega
  ·rw[if_neg e] at j;simp[e] at q
   exact⟨b,y,o,j,z,hs,q⟩
theorem Step.kill (S:SimH J β h w) {d:Nat} {x y:Blk} (U:Ai h d=some x) (u:y.dead=true) (D:y.mp=x.mp:=by rfl):Step J β h w J β (Dp h d y) w:=by
 have E:Ext J β h w J β (Dp h d y) w:=by
  refine⟨fun _ _ v=>v,fun o k v=>rfl,fun b z j=>?_,fun b k o A=>Akw _⟩
  by_cases e:b=d
  ·subst e;rw[U] at j;simp at j;subst j;exact⟨y,⟨by rw[Ad,if_pos rfl],D⟩,.inl u⟩
  ·refine⟨z,⟨by rw[Ad,if_neg e];exact j,rfl⟩,?_⟩
   cases s:z.dead
   ·exact .inr ⟨rfl,rfl,rfl,fun _=>rfl⟩
   ·exact .inl rfl
 refine⟨E,⟨S.jlt,S.jft,S.gl.ext E,fun b z j s F=>?_,fun b z j s F=>by
   rw[Ad] at j
   by_cases e:b=d
   ·rw[if_pos e] at j;simp at j;subst j;simp[u] at s
   ·rw[if_neg e] at j
    exact(S.mblk b z j s F).keep rfl (fun k o A=>rfl) (fun _ _ _ _ v=>v),?_⟩,rfl,rfl,rfl,Akw _,fun k V _=>rfl,?_,fun _ _ v=>.inl v⟩
 ·rw[Ad] at j
  by_cases e:b=d
  ·rw[if_pos e] at j;simp at j;subst j;simp[u] at s
  ·rw[if_neg e] at j
   rcases S.blk b z j s F with G | ⟨k,o,I,K,L,G,X,Y,h4,h5,h6⟩
   ·exact .inl G
   ·exact .inr ⟨k,o,I,K,L,G,X,Y,h4,h5.ext E,h6⟩
 ·intro b O z z' k o o' j q s C hs A M
  rw[Ad] at j q
  by_cases e:b=d
  ·rw[if_pos e] at j;simp at j;subst j;simp[u] at s
  ·by_cases T:O=d
   ·rw[if_pos T] at q;simp at q;subst q;simp[u] at C
   ·rw[if_neg e] at j;rw[if_neg T] at q
    exact S.sep b O z z' k o o' j q s C hs A M
 ·rintro k ⟨b,z,o,j,s,hs,A⟩ V
  rw[Ad] at j
  by_cases e:b=d
  ·rw[if_pos e] at j;simp at j;subst j;simp[u] at s
  ·rw[if_neg e] at j
   exact⟨b,z,o,j,s,hs,A⟩
theorem Step.giveUp (S:SimH J β h w) {d k o:Nat} {x y:Blk} (L:Ai h d=some x) (M:x.dead=false) (hs:x.sealed=false) (O:β d=some (k,o)) (T:x.mp=false) (hy:y.dead=true)
  (other:∀ j,j≠k→w'.heap[j]?=w.heap[j]?) (size:w'.heap.size=w.heap.size) (os:w'.os=w.os) (tape:w'.tape=w.tape) (output:w'.output=w.output) (U:At w k≤At w' k) (V:y.mp=x.mp:=by rfl) :
  Step J β h w J β (Dp h d y) w':=by
 have nj:∀ g j,J g j→j≠k:=fun g j v e=>by
  subst e
  rcases S.blk d x L M T with⟨A,_⟩ | ⟨k',o',cs0,ty0,fr0,C,h2,F,h4,h5,h6,h7⟩
  ·rw[O] at A;simp at A
  ·rw[O] at C;simp at C;obtain⟨rfl,rfl⟩:=C
   exact h6 hs g v
 have E:Ext J β h w J β (Dp h d y) w':=by
  refine⟨fun _ _ v=>v,fun o j v=>other j (nj o j v),fun b z q=>?_,fun b j oo q=>?_⟩
  ·by_cases e:b=d
   ·subst e;rw[L] at q;simp at q;subst q;exact⟨y,⟨by rw[Ad,if_pos rfl],V⟩,.inl hy⟩
   ·refine⟨z,⟨by rw[Ad,if_neg e];exact q,rfl⟩,?_⟩
    cases M:z.dead
    ·exact .inr ⟨rfl,rfl,rfl,fun _=>rfl⟩
    ·exact .inl rfl
  ·by_cases e:j=k
   ·subst e;exact U
   ·simp[At,other j e]
 have live:∀ {b z},Ai (Dp h d y) b=some z→z.dead=false→b≠d∧Ai h b=some z:=fun {b z} q s=>by
  rw[Ad] at q
  by_cases e:b=d
  ·rw[if_pos e] at q;simp at q;subst q;simp[hy] at s
  ·rw[if_neg e] at q;exact⟨e,q⟩
 have apart:∀ {b z j oo},b≠d→Ai h b=some z→z.dead=false→β b=some (j,oo)→j≠k:=fun {b z j oo} e q s u ej=>by
  subst ej;exact e (S.sep d b x z j o oo L q M s hs O u).symm
 refine⟨E,⟨fun g j v=>by rw[size];exact S.jlt g j v,S.jft,S.gl.ext E,fun b z q s G=>?_,fun b z q s G=>by
   obtain⟨e,q⟩:=live q s
   exact(S.mblk b z q s G).keep rfl (fun j oo u=>other j (apart e q s u)) (fun _ _ _ _ v=>v),fun b b' z z' j oo X q Y s I D u K=>?_⟩,os,tape,output,by rw[size];exact Akw _,fun j v G=>other j (fun e=>by subst e;exact G ⟨d,x,o,L,M,hs,O⟩),?_,fun _ _ v=>.inl v⟩
 ·obtain⟨e,q⟩:=live q s
  rcases S.blk b z q s G with A | ⟨j,oo,cs,ty,fr,A,h2,F⟩
  ·exact .inl A
  ·exact .inr ⟨j,oo,cs,ty,fr,A,by rw[other j (apart e q s A)];exact h2,F.1,F.2.1,F.2.2.1.ext E,F.2.2.2⟩
 ·exact S.sep b b' z z' j oo X (live q s).2 (live Y I).2 s I D u K
 ·rintro j ⟨b,z,oo,q,s,D,u⟩ _
  exact⟨b,z,oo,(live q s).2,s,D,u⟩
end
end Gx
namespace Gx
open Go
section
variable {J J' J'':Bool→Nat→Prop} {β β' β'':B5} {h h' h'':Ap} {w w' w'':World}
theorem Step.shutB (S:SimH J β h w) {d:Nat} {x:Blk} (G:Ai h d=some x) (A:x.dead=false) (I:x.mp=false) :
  Step J β h w (fun o k=>J o k∨∃ o',β d=some (k,o')∧(x.taint=true→o=true)) β (Dp h d { x with sealed:=true }) w:=by
 have E:Ext J β h w (fun o k=>J o k∨∃ o',β d=some (k,o')∧(x.taint=true→o=true)) β (Dp h d { x with sealed:=true }) w:=by
  refine⟨fun _ _ s=>.inl s,fun o k s=>rfl,fun b z j=>?_,fun b k o q=>Akw _⟩
  by_cases e:b=d
  ·subst e;rw[G] at j;simp at j;subst j
   exact⟨{ x with sealed:=true },⟨by rw[Ad,if_pos rfl],rfl⟩,.inr ⟨A,rfl,rfl,fun _=>rfl⟩⟩
  ·refine⟨z,⟨by rw[Ad,if_neg e];exact j,rfl⟩,?_⟩
   cases A:z.dead
   ·exact .inr ⟨rfl,rfl,rfl,fun _=>rfl⟩
   ·exact .inl rfl
 refine⟨E,⟨?_,?_,S.gl.ext E,fun b z j v T=>?_,fun b z j v T=>by
   rw[Ad] at j
   by_cases e:b=d
   ·rw[if_pos e] at j;simp at j;subst j;simp[I] at T
   ·rw[if_neg e] at j
    have M:=S.mblk b z j v T
    refine M.keep rfl (fun k o q=>rfl) (fun g k o q s=>?_)
    rcases s with s | ⟨o',K,_⟩
    ·exact s
    ·exact absurd (S.sep b d z x k o o' j G v A M.2.1 q K) e,?_⟩,rfl,rfl,rfl,Akw _,fun k hk _=>rfl,?_,?_⟩
 ·rintro o k (s | ⟨o',q,_⟩)
  ·exact S.jlt o k s
  ·exact My S G A q
 ·rintro k (s | ⟨o',q,ht⟩)
  ·exact .inl (S.jft k s)
  ·exact .inr ⟨o',q,fun _=>rfl⟩
 ·rw[Ad] at j
  by_cases e:b=d
  ·rw[if_pos e] at j;simp at j;subst j;subst e
   rcases S.blk b x G A I with u | ⟨k,o,C,D,F,u,U,V,X,Y,h6,h7⟩
   ·exact .inl u
   ·exact .inr ⟨k,o,C,D,F,u,U,V,X,Y.ext E,fun hs=>by simp at hs,fun _=>.inr ⟨o,u,id⟩⟩
  ·rw[if_neg e] at j
   rcases S.blk b z j v T with u | ⟨k,o,C,D,F,u,U,V,X,Y,h6,h7⟩
   ·exact .inl u
   ·refine .inr ⟨k,o,C,D,F,u,U,V,X,Y.ext E,fun hs g s=>?_,fun hs=>.inl (h7 hs)⟩
    rcases s with s | ⟨o',q,_⟩
    ·exact h6 hs g s
    ·exact e (S.sep b d z x k o o' j G v A hs u q)
 ·intro b b' z z' k o o' j hb' hd1 hd2 hs q K
  have get:∀ {c y},Ai (Dp h d { x with sealed:=true }) c=some y→y.dead=false→∃ y',Ai h c=some y'∧y'.dead=false∧(y.sealed=false→y'.sealed=false):=by
   intro c y O hyd
   rw[Ad] at O
   by_cases e:c=d
   ·subst e;exact⟨x,G,A,fun hs=>by simp at O;subst O;simp at hs⟩
   ·rw[if_neg e] at O;exact⟨y,O,hyd,id⟩
  obtain⟨y1,g1,g2,g3⟩:=get j hd1
  obtain⟨y2,g4,g5,g6⟩:=get hb' hd2
  exact S.sep b b' y1 y2 k o o' g1 g4 g2 g5 (g3 hs) q K
 ·rintro k ⟨b,z,o,j,v,hs,q⟩ hk
  rw[Ad] at j
  by_cases e:b=d
  ·rw[if_pos e] at j;simp at j;subst j;simp at hs
  ·rw[if_neg e] at j
   exact⟨b,z,o,j,v,hs,q⟩
 ·rintro o k (s | ⟨o',q,ht⟩)
  ·exact .inl s
  ·cases hs:x.sealed with
   | false=>exact .inr (.inl ⟨d,x,o',G,A,hs,q⟩)
   | true =>
    left
    rcases S.blk d x G A I with⟨u,_⟩ | ⟨k',o1,C,D,F,u,U,V,X,Y,h6,h7⟩
    ·rw[q] at u;simp at u
    ·rw[q] at u;simp at u;obtain⟨rfl,rfl⟩:=u
     have:=h7 hs
     cases L:x.taint with
     | true=>rw[L] at this;rw[ht L];exact this
     | false =>
      rw[L] at this
      cases o
      ·exact this
      ·exact S.jft _ this
structure OnlyBlk (w w':World) (k:Nat) (cs cs':Array Value) (ty:TypeId) (fr:Nat×Nat):Prop where
 old:w.heap[k]?=some (.cells cs ty fr)
 new:w'.heap[k]?=some (.cells cs' ty fr)
 sz:cs'.size=cs.size
 other:∀ j,j≠k→w'.heap[j]?=w.heap[j]?
 size:w'.heap.size=w.heap.size
 os:w'.os=w.os
 tape:w'.tape=w.tape
 output:w'.output=w.output
theorem OnlyBlk.setCell {k i:Nat} {cs:Array Value} {ty:TypeId} {fr:Nat×Nat} (b:w.heap[k]?=some (.cells cs ty fr)) (u:Value) :
  OnlyBlk w (w.setCell ⟨k,i,none⟩ u) k cs (cs.setIfInBounds i u) ty fr:=by
 refine⟨b,?_,by simp,fun j q=>?_,by simp[World.setCell],rfl,rfl,rfl⟩
 ·simp[World.setCell,Amk,b]
 ·simp only[World.setCell,Amk];rw[if_neg (fun e=>q e.symm)]
theorem OnlyBlk.setCells {k:Nat} {ty:TypeId} {fr:Nat×Nat}:∀ (us:List Value) (i:Nat) (w:World) (cs:Array Value),w.heap[k]?=some (.cells cs ty fr) →
  ∃ b,OnlyBlk w (w.setCells k i us) k cs b ty fr∧∀ j,b[j]?=if i≤j∧j<i+us.length∧j<cs.size then us[j - i]? else cs[j]?
 | [],i,w,cs,e=>⟨cs,⟨e,e,rfl,fun _ _=>rfl,rfl,rfl,rfl,rfl⟩,fun j=>by rw[if_neg (by simp;omega)]⟩
 | u::us,i,w,cs,e=>by
  have A:=OnlyBlk.setCell (i:=i) e u
  obtain⟨b,B,hB⟩:=OnlyBlk.setCells us (i+1) (w.setCell ⟨k,i,none⟩ u) _ A.new
  refine⟨b,⟨e,B.new,B.sz.trans A.sz,fun j q=>(B.other j q).trans (A.other j q),B.size.trans A.size,B.os.trans A.os,B.tape.trans A.tape,B.output.trans A.output⟩,fun j=>?_⟩
  rw[hB j]
  simp only[Aok,Ak8]
  by_cases q:j=i
  ·subst q
   rw[if_neg (by omega)]
   by_cases hs:j<cs.size
   ·rw[if_pos (by omega)];simp[hs]
   ·rw[if_neg (by omega)];simp[hs]
  ·by_cases s:i+1≤j∧j<i+1+us.length∧j<cs.size
   ·rw[if_pos s,if_pos (by omega),show j - i=(j - (i+1))+1 by omega];simp
   ·rw[if_neg s,if_neg (by omega),Anx (by omega)]
theorem Step.set (S:SimH J β h w) {d k o:Nat} {x x':Blk} {cs C:Array Value} {ty:TypeId} {fr:Nat×Nat} (D:Ai h d=some x) (v:x.dead=false) (hs:x.sealed=false) (K:β d=some (k,o))
  (O:OnlyBlk w w' k cs C ty fr) (hd':x'.dead=false) (hs':x'.sealed=false) (hz:x'.sz=x.sz) (hl:x'.cells.length=x.cells.length) (T:CellsRep J β h w x' (fun j=>C[o+j]?)) (U:x.mp=false) (A:x'.mp=x.mp:=by rfl) (hty:x'.ty=x.ty:=by rfl) :
  Step J β h w J β (Dp h d x') w':=by
 obtain⟨V,o',cs0,ty0,fr0,F,h2,h3,h4,h5,h6,h7⟩:∃ V o' cs0 ty0 fr0,β d=some (V,o')∧w.heap[V]?=some (.cells cs0 ty0 fr0) ∧
   FrTy x.ty ty0 o' cs0.size fr0∧o'+x.cells.length≤cs0.size∧CellsRep J β h w x (fun j=>cs0[o'+j]?)∧(x.sealed=false→∀ g,¬ J g V)∧(x.sealed=true→J x.taint V):=by
  rcases S.blk d x D v U with⟨Y,_⟩ | Y
  ·rw[K] at Y;simp at Y
  ·exact Y
 rw[K] at F;simp at F;obtain⟨rfl,rfl⟩:=F
 rw[O.old] at h2;simp at h2;obtain⟨rfl,rfl,rfl⟩:=h2
 have nj:∀ g j,J g j→j≠k:=fun g j u e=>by subst e;exact h6 hs g u
 have E:Ext J β h w J β (Dp h d x') w':=by
  refine⟨fun _ _ u=>u,fun o j u=>O.other j (nj o j u),fun b z q=>?_,fun b j oo q=>?_⟩
  ·by_cases e:b=d
   ·subst e;rw[D] at q;simp at q;subst q
    exact⟨_,⟨by rw[Ad,if_pos rfl],A⟩,.inr ⟨v,rfl,hz,fun _=>hl⟩⟩
   ·refine⟨z,⟨by rw[Ad,if_neg e];exact q,rfl⟩,?_⟩
    cases v:z.dead
    ·exact .inr ⟨rfl,rfl,rfl,fun _=>rfl⟩
    ·exact .inl rfl
  ·by_cases e:j=k
   ·subst e;rw[Co O.old,Co O.new,O.sz];exact Akw _
   ·simp[At,O.other j e]
 refine⟨E,⟨fun g j u=>by rw[O.size];exact S.jlt g j u,S.jft,S.gl.ext E,fun b z q s L=>?_,fun b z q s L=>by
   rw[Ad] at q
   by_cases e:b=d
   ·rw[if_pos e] at q;simp at q;subst q;simp[A,U] at L
   ·rw[if_neg e] at q
    exact(S.mblk b z q s L).keep rfl (fun G o2 I=>O.other G (fun e2=>by subst e2;exact e (S.sep d b x z G o o2 D q v s hs K I).symm)) (fun _ _ _ _ u=>u),?_⟩,O.os,O.tape,O.output,by rw[O.size];exact Akw _,fun j u L=>?_,?_,fun _ _ u=>.inl u⟩
 ·rw[Ad] at q
  by_cases e:b=d
  ·rw[if_pos e] at q;simp at q;subst q;subst e
   refine .inr ⟨k,o,C,ty,fr,K,O.new,?_,by rw[hl,O.sz];exact h4,T.ext E,fun _=>h6 hs,fun hh=>by simp[hs'] at hh⟩
   rw[O.sz,hty];exact h3
  ·rw[if_neg e] at q
   rcases S.blk b z q s L with M | ⟨G,o2,cs2,ty2,fr2,M,g2,g3,g4,g5,g6,g7⟩
   ·exact .inl M
   ·have hne:G≠k:=fun e2=>by
     subst e2;exact e (S.sep d b x z G o o2 D q v s hs K M).symm
    exact .inr ⟨G,o2,cs2,ty2,fr2,M,by rw[O.other G hne];exact g2,g3,g4,g5.ext E,g6,g7⟩
 ·intro b b' z z' kk oo oo' q hb' hd1 hd2 hs1 hβ1 I
  have get:∀ {c y},Ai (Dp h d x') c=some y→y.dead=false→∃ y',Ai h c=some y'∧y'.dead=false∧(y.sealed=false→y'.sealed=false):=by
   intro c y T hyd
   rw[Ad] at T
   by_cases e:c=d
   ·subst e;exact⟨x,D,v,fun _=>hs⟩
   ·rw[if_neg e] at T;exact⟨y,T,hyd,id⟩
  obtain⟨y1,M,g2,g3⟩:=get q hd1
  obtain⟨y2,g4,g5,g6⟩:=get hb' hd2
  exact S.sep b b' y1 y2 kk oo oo' M g4 g2 g5 (g3 hs1) hβ1 I
 ·exact O.other j (fun e=>L (by subst e;exact⟨d,x,o,D,v,hs,K⟩))
 ·rintro j ⟨b,z,oo,q,s,hsz,X⟩ u
  rw[Ad] at q
  by_cases e:b=d
  ·subst e;exact⟨b,x,oo,D,v,hs,X⟩
  ·rw[if_neg e] at q
   exact⟨b,z,oo,q,s,hsz,X⟩
theorem Step.setObj (S:SimH J β h w) {d k:Nat} {x x':Blk} {ob G:Obj} (L:Ai h d=some x) (I:x.dead=false) (V:x.mp=true) (O:β d=some (k,0))
  (old:w.heap[k]?=some ob) (new:w'.heap[k]?=some G) (other:∀ j,j≠k→w'.heap[j]?=w.heap[j]?) (size:w'.heap.size=w.heap.size) (os:w'.os=w.os) (tape:w'.tape=w.tape) (output:w'.output=w.output)
  (X:ObjIs x' G) (hx'd:x'.dead=false) (Y:x'.sealed=false) (hx'p:x'.pure=true) (hx'z:x'.sz=x.sz) (F:x'.mp=true):Step J β h w J β (Dp h d x') w':=by
 have M:=S.mblk d x L I V
 have nJ:∀ g,¬ J g k:=by
  obtain⟨_,_,k',_,A,_,_,C⟩:=M
  rw[O] at A;simp at A;subst A;exact C
 have nj:∀ g j,J g j→j≠k:=fun g j u e=>by subst e;exact nJ g u
 have E:Ext J β h w J β (Dp h d x') w':=by
  refine⟨fun _ _ u=>u,fun o j u=>other j (nj o j u),fun b z q=>?_,fun b j oo q=>?_⟩
  ·by_cases e:b=d
   ·subst e;rw[L] at q;simp at q;subst q
    exact⟨_,⟨by rw[Ad,if_pos rfl],by rw[F,V]⟩,.inr ⟨I,rfl,hx'z,fun h=>by simp[V] at h⟩⟩
   ·refine⟨z,⟨by rw[Ad,if_neg e];exact q,rfl⟩,?_⟩
    cases I:z.dead
    ·exact .inr ⟨rfl,rfl,rfl,fun _=>rfl⟩
    ·exact .inl rfl
  ·by_cases e:j=k
   ·subst e
    have r0:∀ cs ty fr,ob≠.cells cs ty fr:=by
     obtain⟨_,_,k',ob0,A,C,h3,_⟩:=M
     rw[O] at A;simp at A;subst A
     rw[old] at C;simp at C;subst C
     exact fun _ _ _=>h3.row
    have z0:At w j=0:=by
     unfold At;rw[old]
     split
     ·rename_i e;simp at e;exact absurd e (r0 _ _ _)
     ·rfl
    rw[z0];exact An2 _
   ·simp[At,other j e]
 refine⟨E,⟨fun g j u=>by rw[size];exact S.jlt g j u,S.jft,S.gl.ext E,fun b z q v D=>?_,fun b z q v D=>?_,?_⟩,os,tape,output,by rw[size];exact Akw _,fun j u V=>?_,?_,fun _ _ u=>.inl u⟩
 ·rw[Ad] at q
  by_cases e:b=d
  ·rw[if_pos e] at q;simp at q;subst q;simp[F] at D
  ·rw[if_neg e] at q
   rcases S.blk b z q v D with g1 | ⟨T,o2,cs2,ty2,fr2,g1,U,g3,g4,g5,g6,g7⟩
   ·exact .inl g1
   ·have hne:T≠k:=fun e2=>by
     subst e2;rw[old] at U;simp at U
     obtain⟨_,_,k',ob0,A,C,h3,_⟩:=M
     rw[O] at A;simp at A;subst A
     rw[old] at C;simp at C;subst C
     exact absurd U h3.row
    exact .inr ⟨T,o2,cs2,ty2,fr2,g1,by rw[other T hne];exact U,g3,g4,g5.ext E,g6,g7⟩
 ·rw[Ad] at q
  by_cases e:b=d
  ·rw[if_pos e] at q;simp at q;subst q;subst e
   exact⟨hx'p,Y,k,G,O,new,X,nJ⟩
  ·rw[if_neg e] at q
   exact(S.mblk b z q v D).keep rfl (fun T o2 K=>other T (fun e2=>by subst e2;exact e (S.sep d b x z T 0 o2 L q I v M.2.1 O K).symm)) (fun _ _ _ _ u=>u)
 ·intro b b' z z' kk oo oo' q hb' hd1 hd2 hs1 hβ1 K
  have get:∀ {c y},Ai (Dp h d x') c=some y→y.dead=false→∃ y',Ai h c=some y'∧y'.dead=false∧(y.sealed=false→y'.sealed=false):=by
   intro c y X hyd
   rw[Ad] at X
   by_cases e:c=d
   ·subst e;exact⟨x,L,I,fun _=>M.2.1⟩
   ·rw[if_neg e] at X;exact⟨y,X,hyd,id⟩
  obtain⟨y1,g1,U,g3⟩:=get q hd1
  obtain⟨y2,g4,g5,g6⟩:=get hb' hd2
  exact S.sep b b' y1 y2 kk oo oo' g1 g4 U g5 (g3 hs1) hβ1 K
 ·exact other j (fun e=>V (by subst e;exact⟨d,x,0,L,I,M.2.1,O⟩))
 ·rintro j ⟨b,z,oo,q,v,hsz,hβz⟩ u
  rw[Ad] at q
  by_cases e:b=d
  ·subst e;exact⟨b,x,oo,L,I,M.2.1,hβz⟩
  ·rw[if_neg e] at q
   exact⟨b,z,oo,q,v,hsz,hβz⟩
theorem Step.mark (S:SimH J β h w) {d k o:Nat} {x:Blk} {cs:Array Value} {ty:TypeId} {fr y:Nat×Nat} (F:Ai h d=some x) (G:x.dead=false) (hs:x.sealed=false) (I:β d=some (k,o))
  (old:w.heap[k]?=some (.cells cs ty fr)) (new:w'.heap[k]?=some (.cells cs ty y)) (hf:FrOk cs.size y) (other:∀ j,j≠k→w'.heap[j]?=w.heap[j]?) (size:w'.heap.size=w.heap.size) (os:w'.os=w.os) (tape:w'.tape=w.tape) (output:w'.output=w.output) (D:x.mp=false) :
  Step J β h w J β h w':=by
 have nj:∀ g j,J g j→j≠k:=fun g j q e=>by
  subst e
  rcases S.blk d x F G D with⟨O,_⟩ | ⟨k',o',cs0,ty0,fr0,A,h2,h3,h4,h5,h6,h7⟩
  ·rw[I] at O;simp at O
  ·rw[I] at A;simp at A;obtain⟨rfl,rfl⟩:=A
   exact h6 hs g q
 have E:Ext J β h w J β h w':=by
  refine⟨fun _ _ q=>q,fun o j q=>other j (nj o j q),fun b z s=>⟨z,⟨s,rfl⟩,?_⟩,fun b j oo s=>?_⟩
  ·cases G:z.dead
   ·exact .inr ⟨rfl,rfl,rfl,fun _=>rfl⟩
   ·exact .inl rfl
  ·by_cases e:j=k
   ·subst e;rw[Co old,Co new];exact Akw _
   ·simp[At,other j e]
 refine⟨E,⟨fun g j q=>by rw[size];exact S.jlt g j q,S.jft,S.gl.ext E,fun b z s u v=>?_,fun b z s u v=>by
   refine(S.mblk b z s u v).keep rfl (fun C o2 M=>other C (fun e2=>?_)) (fun _ _ _ _ q=>q)
   subst e2
   have:=(S.sep d b x z C o o2 F s G u hs I M)
   subst this
   rw[F] at s;simp at s;subst s;simp[D] at v,S.sep⟩,os,tape,output,by rw[size];exact Akw _,fun j q v=>?_,fun _ v _=>v,fun _ _ q=>.inl q⟩
 ·rcases S.blk b z s u v with K | ⟨C,o2,cs2,ty2,fr2,K,L,T,U,V,X,Y⟩
  ·exact .inl K
  ·by_cases e:C=k
   ·subst e
    rw[old] at L;simp at L;obtain⟨rfl,rfl,rfl⟩:=L
    exact .inr ⟨C,o2,cs,ty,y,K,new,⟨hf,T.2⟩,U,V.ext E,X,Y⟩
   ·exact .inr ⟨C,o2,cs2,ty2,fr2,K,by rw[other C e];exact L,T,U,V.ext E,X,Y⟩
 ·exact other j (fun e=>v (by subst e;exact⟨d,x,o,F,G,hs,I⟩))
theorem Step.move (S:SimH J β h w) {d v k o o':Nat} {x x' y:Blk} {cs M:Array Value} {ty:TypeId} {fr:Nat×Nat} (D:Ai h d=some x) (I:x.dead=false) (hs:x.sealed=false) (K:β d=some (k,o))
  (hn:Ai h v=none) (hy:y.dead=true)
  (O:OnlyBlk w w' k cs M ty fr) (hd':x'.dead=false) (hs':x'.sealed=false) (hl:o'+x'.cells.length≤cs.size) (hc:CellsRep J β h w x' (fun j=>M[o'+j]?)) (hxm:x.mp=false) (hym:y.mp=x.mp:=by rfl) (hxm':x'.mp=false:=by rfl) (hty:TyOk x'.ty ty o' cs.size:=by exact TyOk.none) :
  Step J β h w J (fun b=>if b=v then some (k,o') else β b) (Dp (Dp h d y) v x') w':=by
 obtain⟨k',o1,cs0,ty0,fr0,T,h2,h3,h4,h5,h6,h7⟩:∃ k' o' cs0 ty0 fr0,β d=some (k',o')∧w.heap[k']?=some (.cells cs0 ty0 fr0) ∧
   FrTy x.ty ty0 o' cs0.size fr0∧o'+x.cells.length≤cs0.size∧CellsRep J β h w x (fun j=>cs0[o'+j]?)∧(x.sealed=false→∀ g,¬ J g k')∧(x.sealed=true→J x.taint k'):=by
  rcases S.blk d x D I hxm with⟨h1,_⟩ | h1
  ·rw[K] at h1;simp at h1
  ·exact h1
 rw[K] at T;simp at T;obtain⟨rfl,rfl⟩:=T
 rw[O.old] at h2;simp at h2;obtain⟨rfl,rfl,rfl⟩:=h2
 have nj:∀ g j,J g j→j≠k:=fun g j A e=>by subst e;exact h6 hs g A
 have ndd:d≠v:=fun e=>by subst e;rw[hn] at D;cases D
 have ne:∀ {b z},Ai h b=some z→b≠v:=fun q e=>by subst e;rw[hn] at q;cases q
 have get:∀ b,Ai (Dp (Dp h d y) v x') b=if b=v then some x' else if b=d then some y else Ai h b:=fun b=>by rw[Ad,Ad]
 have E:Ext J β h w J (fun b=>if b=v then some (k,o') else β b) (Dp (Dp h d y) v x') w':=by
  refine⟨fun _ _ A=>A,fun o j A=>O.other j (nj o j A),fun b z q=>?_,fun b j oo q=>?_⟩
  ·by_cases e:b=d
   ·have hb0:=q;subst e;rw[D] at q;simp at q;subst q;exact⟨y,⟨by rw[get,if_neg (ne hb0),if_pos rfl],hym⟩,.inl hy⟩
   ·refine⟨z,⟨by rw[get,if_neg (ne q),if_neg e];exact q,rfl⟩,?_⟩
    cases I:z.dead
    ·exact .inr ⟨rfl,by simp[ne q],rfl,fun _=>rfl⟩
    ·exact .inl rfl
  ·by_cases e:j=k
   ·subst e;rw[Co O.old,Co O.new,O.sz];exact Akw _
   ·simp[At,O.other j e]
 have live:∀ {b z},Ai (Dp (Dp h d y) v x') b=some z→z.dead=false→(b=v∧z=x')∨(b≠v∧b≠d∧Ai h b=some z):=by
  intro b z q hz
  rw[get] at q
  by_cases e:b=v
  ·rw[if_pos e] at q;simp at q;exact .inl ⟨e,q.symm⟩
  ·rw[if_neg e] at q
   by_cases F:b=d
   ·rw[if_pos F] at q;simp at q;subst q;simp[hy] at hz
   ·rw[if_neg F] at q;exact .inr ⟨e,F,q⟩
 refine⟨E,⟨fun g j A=>by rw[O.size];exact S.jlt g j A,S.jft,S.gl.ext E,fun b z q s Y=>?_,fun b z q s Y=>by
   rcases live q s with⟨rfl,rfl⟩ | ⟨e1,F,q⟩
   ·simp[hxm'] at Y
   ·exact(S.mblk b z q s Y).keep (by simp[e1]) (fun U o2 u=>O.other U (fun e=>by subst e;exact F (S.sep d b x z U o o2 D q I s hs K u).symm)) (fun _ _ _ _ A=>A),?_⟩,O.os,O.tape,O.output,by rw[O.size];exact Akw _,fun j A Y=>?_,?_,fun _ _ A=>.inl A⟩
 ·rcases live q s with⟨rfl,rfl⟩ | ⟨e1,F,q⟩
  ·refine .inr ⟨k,o',M,ty,fr,by simp,O.new,?_,by rw[O.sz];exact hl,hc.ext E,fun _=>h6 hs,fun hh=>by simp[hs'] at hh⟩
   rw[O.sz];exact⟨h3.1,hty⟩
  ·rcases S.blk b z q s Y with g1 | ⟨U,o2,cs2,ty2,fr2,g1,g2,g3,g4,g5,g6,g7⟩
   ·exact .inl ⟨by simp[e1,g1.1],g1.2⟩
   ·have hne:U≠k:=fun e=>by
     subst e;exact F (S.sep d b x z U o o2 D q I s hs K g1).symm
    exact .inr ⟨U,o2,cs2,ty2,fr2,by simp[e1,g1],by rw[O.other U hne];exact g2,g3,g4,g5.ext E,g6,g7⟩
 ·intro b b' z z' kk oo oo' q hb' V X hs1 C u
  rcases live q V with⟨e0,_⟩ | ⟨e1,F,hbb⟩<;>rcases live hb' X with⟨e0',_⟩ | ⟨e3,e4,L⟩
  ·rw[e0,e0']
  ·simp[e0] at C;simp[e3] at u
   obtain⟨rfl,rfl⟩:=C
   exact absurd (S.sep d b' x z' k o oo' D L I X hs K u).symm e4
  ·simp[e0'] at u;simp[e1] at C
   obtain⟨rfl,rfl⟩:=u
   exact absurd (S.sep d b x z k o oo D hbb I V hs K C).symm F
  ·simp[e1] at C;simp[e3] at u
   exact S.sep b b' z z' kk oo oo' hbb L V X hs1 C u
 ·exact O.other j (fun e=>Y (by subst e;exact⟨d,x,o,D,I,hs,K⟩))
 ·rintro j ⟨b,z,oo,q,s,hsz,G⟩ A
  rcases live q s with⟨rfl,rfl⟩ | ⟨e1,F,q⟩
  ·simp at G;obtain⟨rfl,rfl⟩:=G
   exact⟨d,x,o,D,I,hs,K⟩
  ·simp[e1] at G;exact⟨b,z,oo,q,s,hsz,G⟩
end
end Gx
namespace Gx
open Go
theorem B8:∀ (a b:D3) (h:Ap),Aj (a++b) h=Aj b (Aj a h)
 | [],_,_=>rfl
 | (_,some _)::r,b,h=>by simp only[Alh,Aj];exact B8 r b _
 | (_,none)::r,b,h=>by simp only[Alh,Aj];exact B8 r b _
def LooksS (g:A7) (h:Ap):Prop:=∀ b x,g b=some x→∃ y,Ai h b=some y∧{ y with sealed:=true }={ x with sealed:=true }
theorem Looks.s {g:A7} {h:Ap} (e:Looks g h):LooksS g h:=fun b x j=>⟨x,e b x j,rfl⟩
section
variable {R:Type} {r:R} {P:Program} {J J':Bool→Nat→Prop} {β:B5} {h:Ap} {w:World} {g:A7}
theorem LooksS.shutB (k:LooksS g h) {b:Nat} {x:Blk} (q:g b=some x):LooksS g (Dp h b { x with sealed:=true }):=by
 intro c y j
 rw[Ad]
 by_cases e:c=b
 ·subst e;rw[q] at j;simp at j;subst j
  exact⟨{ x with sealed:=true },by simp,rfl⟩
 ·rw[if_neg e];exact k c y j
theorem xc (S:SimH J β h w) {b off n:Nat} {y:Blk} {v:Value} (K:Ai h b=some y) (L:y.dead=false) (M:y.pure=true) (hr:Rep J β h w (.own b off n) v)
  (hJ:∀ k o,β b=some (k,o)→J' y.taint k) (u:∀ o k,J o k→J' o k) (t o:Bool):RepC (J' y.taint) w (.imm ((y.cells.drop off).take (n*y.sz)) n y.sz t o) v↔(t=true→∃ A cap,v=.slice A n cap∧cap=n):=by
 rw[Rep] at hr
 obtain⟨x,A,cap,⟨q,C⟩,rfl,e,hr⟩:=hr
 rw[K] at q;simp at q;subst q
 rw[RepC]
 constructor
 ·rintro⟨_,A',cap',D,_,F,_⟩ G
  exact⟨A',cap',D,F G⟩
 ·intro F
  have z:t=true→cap=n:=fun G=>by
   obtain⟨A',cap',D,V⟩:=F G
   simp at D;omega
  rcases hr with hr | ⟨kk,oo,rfl,hr⟩
  ·have:n=0:=by omega
   subst this
   exact⟨by simp,A,cap,rfl,e,z,.inl rfl⟩
  ·rcases hr with hr | ⟨I,X,Y⟩
   ·simp[L] at hr
   ·rcases S.blk b y K L C with⟨hn,_⟩ | ⟨k',o',cs,ty,fr,s,O,g2,g3,T,g5,g6⟩
    ·rw[I] at hn;simp at hn
    ·rw[I] at s;simp at s;obtain⟨rfl,rfl⟩:=s
     refine⟨by simp;omega,_,cap,rfl,e,z,.inr ⟨_,rfl,hJ _ _ I,?_⟩⟩
     have:=((T.1 M).drop off).take (n*y.sz)
     refine RepCs.keep (fun k U=>u _ k U) (fun _ _=>rfl) (fun j=>?_) this
     rw[Addr.add_mid,M6 O,Alv]
theorem Aag {b off n:Nat} {y:Blk} {v:Value} (k:Ai h b=some y) (hr:Rep J β h w (.own b off n) v):y.mp=false:=by
 rw[Rep] at hr
 obtain⟨x,A,cap,⟨e,j⟩,_⟩:=hr
 rw[k] at e;simp at e;subst e;exact j
theorem Ac7 {b off:Nat} {y:Blk} {v:Value} (q:Ai h b=some y) (hr:Rep J β h w (.optr b off) v):y.mp=false:=by
 rw[Rep] at hr
 obtain⟨x,k,o,⟨e,j⟩,_⟩:=hr
 rw[q] at e;simp at e;subst e;exact j
theorem IX {v v':AV} {ups:D3} {org:Bool} {vc:Value} (S:SimH J β h w) (u:LooksS g h) (hh:OS g v=some (v',ups,org)) (q:Rep J β h w v vc) :
    ∃ J',Step J β h w J' β (Aj ups h) w∧RepC (J' org) w v' vc∧LooksS g (Aj ups h):=by
  unfold OS at hh
  split at hh
  · rename_i b off n
    obtain⟨x,j,F⟩:=ub hh
    obtain⟨G,C⟩:=uc F
    simp at C
    obtain⟨rfl,rfl,rfl⟩:=C
    unfold Fg at j
    obtain⟨x0,s,j⟩:=ub j
    obtain⟨D,j⟩:=uw j
    simp at j;subst j
    obtain⟨y,z,e⟩:=u b _ s
    have e1:y.cells=x0.cells:=by have:=congrArg Blk.cells e;simpa using this
    have I:y.sz=x0.sz:=by have:=congrArg Blk.sz e;simpa using this
    have e3:y.taint=x0.taint:=by have:=congrArg Blk.taint e;simpa using this
    have e4:y.dead=x0.dead:=by have:=congrArg Blk.dead e;simpa using this
    have K:y.pure=x0.pure:=by have:=congrArg Blk.pure e;simpa using this
    have A:=Step.shutB S z (by rw[e4];exact D) (Aag z q)
    refine⟨_,by simp only[Aj];rw[←e];exact A,?_,by simp only[Aj];exact u.shutB s⟩
    have:=(xc (J':=fun o k=>J o k∨∃ o',β b=some (k,o')∧(y.taint=true→o=true)) S z (by rw[e4];exact D) (by rw[K];exact G) q (fun k o L=>.inr ⟨o,L,id⟩) (fun o k M=>.inl M) false x0.taint).2 (by simp)
    rw[e1,I,e3] at this
    rw[e3]
    exact this
  all_goals first
    | (simp at hh;done)
    | (simp at hh; obtain ⟨rfl, rfl, rfl⟩ := hh
       refine⟨J,Step.refl S,?_,u⟩
       first
         | (rw[Rep] at q;exact q)
         | skip)
  · cases v
    case imm=>rename_i hi _ _;exact absurd rfl (hi _ _ _ _ _)
    case iptr=>rename_i hi _;exact absurd rfl (hi _ _)
    case pagg=>rename_i hi;exact absurd rfl (hi _ _)
    all_goals first | (rw[Rep] at q;rw[RepC];exact q) | simp_all
theorem Pb:∀ {c q:LA} {ups:D3} {org:Bool} {cs:List Value} {J:Bool→Nat→Prop} {h:Ap},SimH J β h w→LooksS g h→Wg g c=some (q,ups,org)→Reps J β h w c cs →
  ∃ J',Step J β h w J' β (Aj ups h) w∧RepCs (J' org) w q (fun j=>cs[j]?) 0∧q.length=cs.length∧LooksS g (Aj ups h)
 | [],q,ups,org,cs,J,h,S,z,hh,s=>by
  simp[Wg] at hh;obtain⟨rfl,rfl,rfl⟩:=hh
  rw[Reps] at s;subst s
  exact⟨J,Step.refl S,by simp[RepCs],rfl,z⟩
 | v::r,q,ups,org,cs,J,h,S,z,hh,s=>by
  rw[Wg] at hh
  obtain⟨⟨v1,u1,o1⟩,L,M⟩:=ub hh
  obtain⟨⟨T,u2,o2⟩,hq,I⟩:=ub M
  simp at I
  obtain⟨rfl,rfl,rfl⟩:=I
  rw[Reps] at s
  obtain⟨u,us,rfl,C,D⟩:=s
  obtain⟨J1,A,hA,F⟩:=IX S z L C
  obtain⟨J2,B,hB,y,G⟩:=Pb A.sim F hq (Reps.ext A.ext D)
  refine⟨J2,by rw[B8];exact A.trans B (fun _ _ _ _=>Akw _),?_,by simp[y],by rw[B8];exact G⟩
  have mono:∀ {a b:Bool} (k:Nat),J2 a k→J2 (a||b) k:=fun {a b} k e=>by
   cases a
   ·cases b
    ·exact e
    ·exact B.sim.jft k e
   ·exact e
  have mono':∀ {a b:Bool} (k:Nat),J2 b k→J2 (a||b) k:=fun {a b} k e=>by rw[Aos];exact mono k e
  rw[RepCs]
  refine⟨⟨u,by simp,?_⟩,?_⟩
  ·exact RepC.keep (J:=J1 o1) (fun k e=>mono k (B.ext.jsub _ k e)) (fun _ _=>rfl) hA
  ·have:=RepCs.keep (J':=J2 (o1||o2)) (w':=w) (fun k e=>mono' k e) (fun _ _=>rfl) (rd':=fun j=>us[j]?) (fun _=>rfl) hB
   rw[By] at this ⊢
   intro j x O
   have K:=this j x O
   simp only[Akz] at K
   rw[show 1+j=j+1 by omega]
   simpa using K
theorem GO {v:AV} {e:LA} {ups:D3} {org:Bool} {vc:Value} (S:SimH J β h w) (s:LooksS g h) (hh:V6 g v=some (e,ups,org)) (k:Rep J β h w v vc) :
  ∃ J',Step J β h w J' β (Aj ups h) w∧RepCs (J' org) w e (fun j=>vc.cells.toList[j]?) 0∧e.length=vc.cells.toList.length∧LooksS g (Aj ups h):=by
 unfold V6 at hh
 split at hh
 ·rename_i c org'
  simp at hh;obtain⟨rfl,rfl,rfl⟩:=hh
  rw[Rep] at k
  obtain⟨cs,rfl,C,q⟩:=k
  exact⟨J,Step.refl S,q,by simp[Value.cells,C],s⟩
 ·rename_i c
  rw[Rep] at k
  obtain⟨cs,rfl,q⟩:=k
  exact Pb S s hh q
 ·rename_i v C q
  obtain⟨J',A,hA,b,y⟩:=Pb (cs:=[vc]) S s hh (by rw[Reps];exact⟨vc,[],rfl,k,by rw[Reps]⟩)
  have I:vc.oneCell'=true:=by
   have z:e.length=1:=b
   cases D:e with
   | nil=>simp[D] at z
   | cons x r =>
    obtain⟨u,F,hr⟩:=hA.at (j:=0) (x:=x) (by simp[D])
    simp at F;subst F
    exact SY hr
  have G:vc.cells=#[vc]:=by cases vc<;>simp_all[Value.cells,Value.oneCell']
  rw[G]
  exact⟨J',A,hA,b,y⟩
end
end Gx
namespace Gx
open Go
theorem B9:∀ (ups:D3) (h:Ap) (b:Nat),A3 ups b=false→Ai (Aj ups h) b=Ai h b
 | [],_,_,_=>rfl
 | (i,some x)::r,h,b,hi=>by
  rw[A3] at hi
  cases j:beq i b with
  | true=>rw[j] at hi;simp at hi
  | false =>
   rw[j] at hi
   rw[Aj,B9 r _ b hi,Ad,if_neg (fun e=>Ug j e.symm)]
 | (i,none)::r,h,b,hi=>by
  rw[A3] at hi
  cases j:beq i b with
  | true=>rw[j] at hi;simp at hi
  | false =>
   rw[j] at hi
   rw[Aj,B9 r _ b hi]
   split
   ·rw[Ad,if_neg (fun e=>Ug j e.symm)]
   ·rfl
theorem Wm {c vs:LA} {off:Nat} (k:off+vs.length≤c.length) (j:Nat):(Dd c off vs)[j]?=if off≤j∧j<off+vs.length then vs[j - off]? else c[j]?:=by
 unfold Dd
 rw[Ami,Alo]
 simp only[Al0,Al2 (show off≤c.length by omega)]
 by_cases b:j<off
 ·rw[if_pos b,if_neg (by omega),Al4,if_pos b]
 ·rw[if_neg b,Alo]
  by_cases e:j - off<vs.length
  ·rw[if_pos e,if_pos (by omega)]
  ·rw[if_neg e,if_neg (by omega),Al8];congr 1;omega
theorem M7 {c vs:LA} {off:Nat} (b:off+vs.length≤c.length):(Dd c off vs).length=c.length:=by
 unfold Dd;simp;omega
theorem DQ {c vs:LA} {off:Nat} (b:off+vs.length≤c.length) (j:Nat):(setCells c off vs)[j]?=if off≤j∧j<off+vs.length then vs[j - off]? else c[j]?:=by
 unfold setCells
 split
 ·rename_i y
  simp at b
  rw[List.getElem?_set]
  by_cases e:off=j
  ·subst e;simp;omega
  ·rw[if_neg e,if_neg (by simp;omega)]
 ·exact Wm b j
theorem Ns {c vs:LA} {off:Nat} (b:off+vs.length≤c.length):(setCells c off vs).length=c.length:=by
 unfold setCells
 split
 ·simp
 ·exact M7 b
section
variable {R:Type} {r:R} {P:Program} {J J':Bool→Nat→Prop} {β:B5} {h:Ap} {w w':World} {g:A7}
theorem Mc {v:AV} {vc:Value} (hs:AM g v=true) (b:Rep J β h w v vc):vc.oneCell'=true:=by
 cases v<;>simp[AM] at hs
 case own=>rw[Rep] at b;obtain⟨x,A,cap,_,rfl,_⟩:=b;rfl
 case optr=>rw[Rep] at b;obtain⟨x,k,o,_,rfl,_⟩:=b;rfl
 case fn=>rw[Rep] at b;obtain⟨cs,rfl,_⟩:=b;rfl
 case imm=>rw[Rep,RepC] at b;obtain⟨_,A,cap,rfl,_⟩:=b;rfl
 case iptr=>rw[Rep,RepC] at b;obtain⟨a,rfl,_⟩:=b;rfl
 all_goals (rw[Rep] at b;subst b;rfl)
theorem Us:∀ {c:LA},L9 g c=true→∀ (j:Nat) (x:AV),c[j]?=some x→AM g x=true
 | [],_,j,x,b=>by simp at b
 | v::r,hs,j,x,b=>by
  rw[L9] at hs;simp at hs
  cases j with
  | zero=>simp at b;subst b;exact hs.1
  | succ j=>exact Us hs.2 j x (by simpa using b)
theorem uy {k:Nat} {cs b:Array Value} {ty:TypeId} {fr:Nat×Nat} (O:OnlyBlk w w' k cs b ty fr):∀ j,At w j≤At w' j:=fun j=>by
 by_cases e:j=k
 ·subst e;rw[Co O.old,Co O.new,O.sz];exact Akw _
 ·simp[At,O.other j e]
theorem IY {t:TypeId} {k o:Nat} {vc:Value} {cs:Array Value} {ty:TypeId} {fr:Nat×Nat} (q:w.heap[k]?=some (.cells cs ty fr)) (s:FrOk cs.size fr)
  (hs:Bj P t=some vc.cells.toList.length) (v:o+vc.cells.toList.length≤cs.size) (y:∀ u ∈ vc.cells.toList,u.oneCell'=true) :
  (Instr.storeAt t (.pointer (some ⟨k,o,none⟩)) vc).run P w=.ok () (w.setCells k o vc.cells.toList):=by
 have b:=run_storeCells_cells (P:=P) k o vc.cells.toList 0 w (fun j z=>by
   rw[Alt,M6 q];simp;omega)
  (fun j z=>by
   rw[Alt];simp only[World.frozen?,q]
   have:=s.at (o+j) (by omega)
   cases fr;simp at this ⊢;omega) y
 simp only[Alt] at b
 have e:=Ce hs w
 simp only[Ane] at e
 simp[Instr.storeAt,Instr.sureAddr,storeVar,e,b]
theorem pk {t:TypeId} {p v:AV} {vp vv:Value} {k:AV→D3→O R} (S:SimH J β h w) (hl:Looks g h) (hh:YJ P g t p v k=some r) (hp:Rep J β h w p vp) (hv:Rep J β h w v vv) :
  ∃ val ups,k val ups=some r∧∃ J' β' w',(Instr.storeAt t vp vv).run P w=.ok () w'∧Step J β h w J' β' (Aj ups h) w'∧val=.undef:=by
 unfold YJ at hh
 split at hh
 ·rename_i b off
  obtain⟨x,hx,h1⟩:=ub hh
  obtain⟨n,hn,h2⟩:=ub h1
  obtain⟨hs,Y⟩:=uw h2
  obtain⟨hb,hd⟩:=C1 hl hx
  have G:=Ac7 hb hp
  cases U:x.pure with
  | true =>
   rw[U] at Y
   obtain⟨⟨c',u1,org⟩,hq,h4⟩:=ub Y
   obtain⟨C,h5⟩:=uc h4
   simp at C
   obtain⟨I,K,V⟩:=C
   obtain⟨J1,A,hA,D,_⟩:=GO S hl.s hq hv
   have hb1:Ai (Aj u1 h) b=some x:=by rw[B9 _ _ _ V];exact hb
   obtain⟨kk,o,cs,ty,fr,hβ,rfl,z,hf,hle,hcr,_,_⟩:=pg A.sim hb1 hd (Rep.ext A.ext hp)
   obtain⟨L,O,hO⟩:=OnlyBlk.setCells (k:=kk) vv.cells.toList (o+off) w cs z
   have M:off+c'.length≤x.cells.length:=by omega
   have hone:=RepCs.one hA D.symm
   have B:=Step.set (x':={ x with pure:=true,cells:=setCells x.cells off c',taint:=x.taint||org }) A.sim hb1 hd hs hβ O hd hs rfl (Ns M) (by
    refine⟨fun _=>?_,fun hh=>by simp at hh⟩
    have hold:=hcr.1 U
    rw[By]
    intro j y e
    simp only[DQ M] at e
    simp only[Akz]
    have mono:∀ {a b:Bool} (k:Nat),J1 a k→J1 (a||b) k:=fun {a b} k z=>by
     cases a
     ·cases b
      ·exact z
      ·exact A.sim.jft k z
     ·exact z
    split at e
    ·rename_i hj'
     obtain⟨u,T,hr⟩:=hA.at e
     refine⟨u,?_,RepC.keep (J:=J1 org) (fun k z=>by rw[Aos];exact mono k z) (fun _ _=>rfl) hr⟩
     rw[hO,if_pos (by omega),←T];congr 1;omega
    ·rename_i hj'
     obtain⟨u,T,hr⟩:=hold.at e
     refine⟨u,?_,RepC.keep (J:=J1 x.taint) (fun k z=>mono k z) (fun _ _=>rfl) hr⟩
     rw[hO,if_neg (by omega)];exact T)
   refine⟨_,_,h5,J1,β,_,IY z hf.1 (by rw[←D,I];exact hn) (by omega) hone,?_,rfl⟩
   rw[B8]
   exact A.trans (B G) (fun _ k _ _=>uy O k)
  | false =>
   rw[U] at Y
   obtain⟨kk,o,cs,ty,fr,hβ,rfl,z,hf,hle,hcr,_,_⟩:=pg S hb hd hp
   have go:∀ (c:LA) (cells':LA),(∀ (j:Nat) (y:AV),c[j]?=some y→∃ u,vv.cells.toList[j]?=some u∧Rep J β h w y u∧u.oneCell'=true)→c.length=vv.cells.toList.length→c.length=n→off+c.length≤x.cells.length →
     cells'.length=x.cells.length→(∀ j:Nat,cells'[j]?=if off≤j∧j<off+c.length then c[j - off]? else x.cells[j]?) →
     ∃ J' β' w',(Instr.storeAt t (.pointer (some ⟨kk,o+off,none⟩)) vv).run P w=.ok () w'∧Step J β h w J' β' (Aj [(b,some { x with pure:=false,cells:=cells' })] h) w':=by
    intro c cells' C D hcn hoff hcl hget'
    obtain⟨L,O,hO⟩:=OnlyBlk.setCells (k:=kk) vv.cells.toList (o+off) w cs z
    have B:=Step.set (x':={ x with pure:=false,cells:=cells' }) S hb hd hs hβ O hd hs rfl hcl (by
     refine⟨fun hh=>by simp at hh,fun _ j y e=>?_⟩
     simp only[hget'] at e
     split at e
     ·rename_i hj'
      obtain⟨u,T,hr,ho⟩:=C _ _ e
      refine⟨u,?_,hr,ho⟩
      show L[o+j]?=some u
      rw[hO,if_pos (by omega),←T];congr 1;omega
     ·rename_i hj'
      obtain⟨u,T,hr⟩:=hcr.2 U j y e
      refine⟨u,?_,hr⟩
      show L[o+j]?=some u
      rw[hO,if_neg (by omega)];exact T)
    refine⟨J,β,_,IY z hf.1 (by rw[hn,←hcn,D]) (by omega) (fun u T=>?_),B G⟩
    obtain⟨j,e,rfl⟩:=Alr T
    obtain⟨u',hu',_,ho⟩:=C j c[j] (Aky (by omega))
    rw[Aky e] at hu';simp only[Alx] at hu';rw[hu'];exact ho
   simp only[cond_false] at Y
   split at Y
   ·rename_i c
    obtain⟨C,h5⟩:=uc Y
    simp at C
    obtain⟨I,K,V⟩:=C
    rw[Rep] at hv
    obtain⟨us,rfl,q⟩:=hv
    rw[B6] at q
    obtain⟨J',β',w',g1,g2⟩:=go c (Dd x.cells off c) (fun j y e=>by
      have X:j<us.length:=by rw[q.1];exact(Ak4.1 e).1
      refine⟨us[j],by simp[Value.cells,Aky X],q.2 j y _ e (Aky X),Mc (Us I j y e) (q.2 j y _ e (Aky X))⟩)
     (by simp[Value.cells,q.1]) K (by omega) (M7 (by omega)) (Wm (by omega))
    exact⟨_,_,h5,J',β',w',g1,g2,rfl⟩
   ·rename_i c org
    obtain⟨C,h5⟩:=uc Y
    simp at C
    obtain⟨rfl,K,V⟩:=C
    rw[Rep] at hv
    obtain⟨us,rfl,q,hrc⟩:=hv
    obtain⟨L,O,hO⟩:=OnlyBlk.setCells (k:=kk) us (o+0) w cs z
    have B:=Step.set (x':={ x with pure:=true,taint:=org,cells:=c }) S hb hd hs hβ O hd hs rfl (by simp;omega) (by
     refine⟨fun _=>?_,fun hh=>by simp at hh⟩
     rw[By]
     intro j y e
     obtain⟨u,T,hr⟩:=hrc.at e
     have X:j<us.length:=by rw[q];exact(Ak4.1 e).1
     refine⟨u,?_,hr⟩
     show L[o+(0+j)]?=some u
     rw[hO,if_pos (by omega),←T];congr 1;omega)
    exact⟨_,_,h5,J,β,_,IY (vc:=.agg ⟨us⟩) z hf.1 (by simp[Value.cells];rw[q,K];exact hn) (by simp[Value.cells];omega) (by simpa[Value.cells] using RepCs.one hrc q),B G,rfl⟩
   ·rename_i hna
    obtain⟨C,h5⟩:=uc Y
    simp at C
    obtain⟨I,K,V⟩:=C
    have ho:=Mc I hv
    have F:vv.cells=#[vv]:=by cases vv<;>simp_all[Value.cells,Value.oneCell']
    obtain⟨J',β',w',g1,g2⟩:=go [v] (x.cells.set off v) (fun j y e=>by
      cases j with
      | zero=>simp at e;subst e;exact⟨vv,by simp[F],hv,ho⟩
      | succ j=>simp at e) (by simp[F]) (by simp;omega) (by simp;omega) (by simp) (fun j=>by
      have:=DQ (c:=x.cells) (vs:=[v]) (off:=off) (by simp;omega) j
      simpa[setCells] using this)
    exact⟨_,_,h5,J',β',w',g1,g2,rfl⟩
 ·simp at hh
end
end Gx
namespace Gx
open Go
section
variable {R:Type} {r:R} {P:Program} {J J':Bool→Nat→Prop} {β:B5} {h:Ap} {w w':World} {g:A7}
theorem nw {v v':AV} {ups:D3} {org:Bool} (hh:OS g v=some (v',ups,org)) (b:Nat) (q:A3 ups b=true):∃ x,g b=some x:=by
 unfold OS at hh
 split at hh
 ·rename_i s off n
  obtain⟨x,j,y⟩:=ub hh
  obtain⟨z,u⟩:=uc y
  simp at u
  obtain⟨rfl,rfl,rfl⟩:=u
  unfold Fg at j
  obtain⟨x0,k,j⟩:=ub j
  have:s=b:=by
   cases e:beq s b with
   | true=>exact Ak0 e
   | false=>simp[A3,e] at q
  subst this;exact⟨x0,k⟩
 all_goals first
  | (simp at hh;done)
  | (simp at hh;obtain⟨rfl,rfl,rfl⟩:=hh;simp[A3] at q)
theorem Ha:∀ (a b:D3) (c:Nat),A3 (a++b) c=(A3 a c||A3 b c)
 | [],_,_=>by simp[A3]
 | (i,_)::r,b,c=>by
  rw[Alh,A3,A3,Ha r b c]
  cases beq i c<;>simp
theorem Wn:∀ {c j:LA} {ups:D3} {org:Bool},Wg g c=some (j,ups,org)→∀ b,A3 ups b=true→∃ x,g b=some x
 | [],j,ups,org,hh,b,e=>by simp[Wg] at hh;obtain⟨rfl,rfl,rfl⟩:=hh;simp[A3] at e
 | v::r,j,ups,org,hh,b,e=>by
  rw[Wg] at hh
  obtain⟨⟨v1,u1,o1⟩,s,u⟩:=ub hh
  obtain⟨⟨y,u2,o2⟩,hq,k⟩:=ub u
  simp at k
  obtain⟨rfl,rfl,rfl⟩:=k
  rw[Ha] at e
  cases q:A3 u1 b with
  | true=>exact nw s b q
  | false=>rw[q] at e;exact Wn hq b (by simpa using e)
theorem lf {v:AV} {j:LA} {ups:D3} {org:Bool} (hh:V6 g v=some (j,ups,org)) (b:Nat) (e:A3 ups b=true):∃ x,g b=some x:=by
 unfold V6 at hh
 split at hh
 ·simp at hh;obtain⟨rfl,rfl,rfl⟩:=hh;simp[A3] at e
 ·exact Wn hh b e
 ·exact Wn hh b e
theorem xd {ups:D3} {d:Nat} (e:Looks g h) (j:∀ b,A3 ups b=true→∃ x,g b=some x) (hn:Ai h (nid d)=none):Ai (Aj ups h) (nid d)=none:=by
 rw[B9]
 ·exact hn
 ·cases k:A3 ups (nid d) with
  | false=>rfl
  | true =>
   obtain⟨x,q⟩:=j _ k
   rw[e _ _ q] at hn;cases hn
def OpDone (J:Bool→Nat→Prop) (β:B5) (h:Ap) (w:World) (ups:D3) (val:AV) (vc:Value) (w':World):Prop :=
 ∃ J' β',Step J β h w J' β' (Aj ups h) w'∧Rep J' β' (Aj ups h) w' val vc
def UpsFree (d:Nat) (h:Ap) (ups:D3):Prop:=∀ b,A3 ups b=true→AQ d b=true→Ai h b=none
theorem UpsFree.nid {d:Nat} {h:Ap} {ups:D3} (b:UpsFree d h ups) (hi:A3 ups (nid d)=true):Ai h (nid d)=none:=b _ hi (by
 have e:ble (Gx.nid d) (Gx.nid d)=true:=by simp
 have j:Nat.blt (Gx.nid d) (Gx.nid d+16)=true:=by simp
 rw[AQ,e,j];rfl)
theorem MR {d:Nat} {x:Blk} {cs:Array Value} {ty:TypeId} (S:SimH J β h w) (hn:Ai h (nid d)=none) (k:x.dead=false) (hs:x.sealed=false) (b:x.cells.length≤cs.size) (q:CellsRep J β h w x (fun j=>cs[j]?)) (e:x.mp=false:=by rfl) (hty:TyOk x.ty ty 0 cs.size:=by exact TyOk.none) :
  OpDone J β h w [(nid d,some x)] (.optr (nid d) 0) (.pointer (some ⟨w.heap.size,0,none⟩)) (w.alloc (.cells cs ty)):=by
 have A:=Step.new (ty:=ty) (fr:=(0,0)) S hn k hs ⟨.inl rfl,hty⟩ b q e
 refine⟨_,_,A,?_⟩
 rw[Rep]
 exact⟨x,w.heap.size,0,⟨by simp[Aj,Ad],e⟩,rfl,.inr (by simp)⟩
theorem OpDone.after {ups ups':D3} {val:AV} {vc:Value} {J1:Bool→Nat→Prop} {β1:B5} {b:World} (A:Step J β h w J1 β1 (Aj ups h) b) (B:OpDone J1 β1 (Aj ups h) b ups' val vc w')
  (hs:∀ k,At w k≤At w' k):OpDone J β h w (ups++ups') val vc w':=by
 obtain⟨J2,β2,B1,B2⟩:=B
 exact⟨J2,β2,by rw[B8];exact A.trans B1 (fun _ k _ _=>hs k),by rw[B8];exact B2⟩
theorem N7 (w:World) (o:Obj):∀ k,At w k≤At (w.alloc o) k:=fun k=>by
 by_cases b:k<w.heap.size
 ·simp[At,Cr w _ b]
 ·simp[At,Alk (Amh b)]
theorem DR {t:TypeId} {vc:Value}:(Instr.box t vc).run P w=.ok (.pointer (some ⟨w.heap.size,0,none⟩)) (w.alloc (.cells vc.cells t)):=by
 simp[Instr.box,newVar,newRow]
theorem bW {c:LA} {org:Bool} {cs:List Value} (z:RepCs (J org) w c (fun j=>cs[j]?) 0):∀ {L:List (Nat×TypeId)} {b:LA} {k:LA→O R},SP P c org L b k=some r →
  (∀ (j:Nat) x,b[j]?=some x→∃ u,cs[j]?=some u∧Rep J β h w x u)→∃ l:LA,k l=some r∧∀ (j:Nat) x,l[j]?=some x→∃ u,cs[j]?=some u∧Rep J β h w x u
 | [],b,k,hh,q=>⟨b,hh,q⟩
 | (off,t)::L,b,k,hh,q=>by
  rw[SP] at hh
  obtain⟨h0,D⟩:=uc hh
  simp at h0
  obtain⟨v,F,G⟩:=S9 (β:=β) (h:=h) D (z.drop off)
  refine bW z F (fun j x e=>?_)
  rw[Alo] at e
  split at e
  ·exact q j x e
  ·have s:j=b.length:=by
    have:=(Ak4.1 e).1
    simp at this;omega
   subst s
   simp at e;subst e
   rcases G with⟨d,A,I,u,C,K⟩ | ⟨d,A,I,_⟩
   ·refine⟨u,?_,K⟩
    rw[h0.1] at C;simpa using C
   ·exfalso
    have y:=h0.2
    unfold zy at y
    rw[A] at y
    split at y<;>simp_all[TypeDesc.isRow]
theorem pm {co:Bool} {t:TypeId} {v:AV} {vv:Value} {k:AV→O R} (hh:YL P co t v k=some r) (e:Rep J β h w v vv):∃ v',k v'=some r∧Rep J β h w v' vv:=by
 unfold YL at hh
 split at hh
 ·rename_i c org
  rw[Rep] at e
  obtain⟨cs,rfl,G,q⟩:=e
  obtain⟨l,s,y⟩:=bW (β:=β) (h:=h) q hh (fun j x z=>by simp at z)
  obtain⟨A,C⟩:=uc s
  simp at A
  refine⟨_,C,?_⟩
  rw[Rep]
  refine⟨cs,rfl,B6.2 ⟨by omega,fun j x u D F=>?_⟩⟩
  obtain⟨I,b,hr⟩:=y j x D
  rw[F] at b;simp at b;subst b;exact hr
 ·exact⟨_,hh,e⟩
theorem yf {t q m:Nat} (h:pX P t=some (q,m)):t=q∧Bj P t=some m:=by
 have key:∀ {o:Option Nat},o=Bj P t→(o.map fun n=>(t,n))=some (q,m)→t=q∧Bj P t=some m:=by
  intro o b h
  cases o with
  | none=>simp at h
  | some n=>simp at h;exact⟨h.1,by rw[←b,h.2]⟩
 unfold pX at h
 split at h
 ·obtain⟨f,_,h⟩:=ub h
  split at h
  ·obtain⟨_,h⟩:=uc h;exact key rfl h
  ·obtain⟨g,_,h⟩:=ub h
   split at h
   ·obtain⟨_,h⟩:=uc h;exact key rfl h
   ·cases h
  ·cases h
 ·cases h
theorem gZ {d:Nat} {t:TypeId} {v:AV} {vv:Value} {k:AV→D3→O R} (S:SimH J β h w) (L:Looks g h) (hh:rk P g d t v k=some r) (D:Rep J β h w v vv) :
  ∃ val ups,k val ups=some r∧(UpsFree d h ups→∃ vc w',(Instr.box t vv).run P w=.ok vc w'∧OpDone J β h w ups val vc w'):=by
 unfold rk at hh
 split at hh
 ·rename_i c org
  refine⟨_,_,hh,fun hn=>⟨_,_,DR,?_⟩⟩
  replace hn:=hn.nid (by simp[O8,A3])
  rw[Rep] at D
  obtain⟨cs,rfl,K,u⟩:=D
  exact MR S hn rfl rfl (by simp[Value.cells,K]) ⟨fun _=>by simpa[Value.cells] using u,fun z=>by simp at z⟩
 ·rename_i c
  cases z:xZ P t with
  | true =>
   rw[z] at hh
   obtain⟨e,hh⟩:=uc hh
   simp only[Ak1] at e
   obtain⟨e,C⟩:=e
   have C:=Ak0 C
   refine⟨_,_,hh,fun hn=>⟨_,_,DR,?_⟩⟩
   replace hn:=hn.nid (by simp[A3])
   rw[Rep] at D
   obtain⟨cs,rfl,u⟩:=D
   rw[B6] at u
   have hty:TyOk (pX P t) t 0 (Value.agg ⟨cs⟩).cells.size:=fun q m hq=>by
    obtain⟨e1,M⟩:=yf hq
    refine⟨e1,rfl,.inr ?_⟩
    rw[M] at C
    simp[Value.cells,u.1];simpa using C
   refine MR S hn rfl rfl (by simp[Value.cells,u.1]) ⟨fun z=>by simp at z,fun _ j y F=>?_⟩ rfl hty
   have G:j<cs.length:=by rw[u.1];exact(Ak4.1 F).1
   exact⟨cs[j],by simp[Value.cells,G],u.2 j y _ F (Aky G),Mc (Us e j y F) (u.2 j y _ F (Aky G))⟩
  | false =>
   rw[z] at hh
   obtain⟨⟨U,u1,o1⟩,hq,K⟩:=ub hh
   refine⟨_,_,K,fun hn=>⟨_,_,DR,?_⟩⟩
   replace hn:=hn.nid (by simp[Ha,O8,A3])
   rw[Rep] at D
   obtain⟨cs,rfl,u⟩:=D
   obtain⟨J1,A,hA,I,_⟩:=Pb S L.s hq u
   refine OpDone.after A (MR A.sim (xd L (Wn hq) hn) rfl rfl (by simp[Value.cells,I]) ⟨fun _=>?_,fun z=>by simp at z⟩) (N7 _ _)
   simpa[Value.cells] using hA
 ·rename_i v K u
  obtain⟨e,hh⟩:=uc hh
  refine⟨_,_,hh,fun hn=>⟨_,_,DR,?_⟩⟩
  replace hn:=hn.nid (by simp[O8,A3])
  have T:=Mc e D
  have b:vv.cells=#[vv]:=by cases vv<;>simp_all[Value.cells,Value.oneCell']
  refine MR S hn rfl rfl (by simp[b]) ⟨fun z=>by simp at z,fun _ j y F=>?_⟩
  cases j with
  | zero=>simp at F;subst F;exact⟨vv,by simp[b],D,T⟩
  | succ j=>simp at F
end
end Gx
namespace Gx
open Go
theorem pn (z:LA):∀ (l j:Nat),j<l*z.length→(Eg l z)[j]?=z[j%z.length]?:=by
 have flat:∀ (l j:Nat),j<l*z.length→((replicate l z).flatten)[j]?=z[j%z.length]?:=by
  intro l
  induction l with
  | zero=>intro j b;simp at b
  | succ l k =>
   intro j b
   rw[An5,List.flatten_cons,Alo]
   by_cases e:j<z.length
   ·rw[if_pos e,Al9 e]
   ·rw[if_neg e,k _ (by rw[Anw] at b;omega)]
    rw[Nat.mod_eq_sub_mod (a:=j) (by omega)]
 intro l j b
 unfold Eg
 split
 ·rename_i v
  simp at b
  simp[b,Nat.mod_one]
 ·exact flat l j b
theorem Fh (l:Nat) (z:LA):(Eg l z).length=l*z.length:=by
 unfold Eg
 split
 ·simp
 ·simp
section
variable {R:Type} {r:R} {P:Program} {J J':Bool→Nat→Prop} {β:B5} {h:Ap} {w w':World} {g:A7}
theorem QW {J:Nat→Prop}:∀ {cs:List Value},Ax (Kh cs)=true→∀ (j:Nat) (u:Value),cs[j]?=some u→∃ x,(Kh cs)[j]?=some x∧RepC J w x u
 | [],_,j,u,b=>by simp at b
 | v::r,e,j,u,b=>by
  have key:∃ x,YE v=x∧Ax (Kh r)=true∧RepC J w x v:=by
   rw[Kh] at e
   have hr:=DO (J:=fun _=>J) (β:=fun _=>none) (h:=[]) (w:=w) v
   cases k:YE v<;>rw[k] at e hr<;>simp[Ax] at e<;>refine⟨_,rfl,e,?_⟩<;>(rw[Rep] at hr;rw[RepC];exact hr)
  obtain⟨x,k,q,hr⟩:=key
  cases j with
  | zero=>simp at b;subst b;exact⟨x,by simp[Kh,k],hr⟩
  | succ j =>
   obtain⟨y,s,z⟩:=QW (J:=J) (cs:=r) q j u (by simpa using b)
   exact⟨y,by simpa[Kh] using s,z⟩
theorem X2:∀ cs:List Value,(Kh cs).length=cs.length
 | []=>rfl
 | v::r=>by simp[Kh,X2 r]
theorem Qv {t:TypeId} {z:LA} (e:SL P t=some z):∃ i v,P.info? t=some i∧i.zero=some v∧z=Kh v.cells.toList∧Ax z=true∧v.cells.size=i.size∧z.length=i.size:=by
 unfold SL at e
 obtain⟨i,hi,k⟩:=ub e
 obtain⟨v,q,s⟩:=ub k
 obtain⟨b,j⟩:=uc s
 simp at j b
 subst j
 exact⟨i,v,hi,q,rfl,b.1,by simpa using b.2,by rw[X2];simpa using b.2⟩
theorem DS {J:Nat→Prop} {v:Value} (z:Ax (Kh v.cells.toList)=true) (l n:Nat) (C:l*v.cells.size≤n) :
  RepCs J w (Eg l (Kh v.cells.toList)) (fun j=>(madeCells v.cells n)[j]?) 0:=by
 rw[By]
 intro j x q
 have e:(Kh v.cells.toList).length=v.cells.size:=by rw[X2];simp
 have b:j<l*(Kh v.cells.toList).length:=by
  have:=(Ak4.1 q).1
  rwa [Fh] at this
 rw[pn _ _ _ b] at q
 rw[e] at q b
 have k:0<v.cells.size:=by
  rcases Amd v.cells.size with h0 | h0
  ·rw[h0] at b;simp at b
  ·exact h0
 have u:j%v.cells.size<v.cells.size:=Anl _ k
 obtain⟨y,s,A⟩:=QW (w:=w) (J:=J) z (j%v.cells.size) v.cells[j%v.cells.size] (by simp[u])
 rw[q] at s;simp at s;subst s
 refine⟨_,?_,A⟩
 have:j<n:=by omega
 simp[madeCells,this,getElem!_pos,u]
theorem SZ {d n cap sz:Nat} {x:Blk} {cs:Array Value} {ty:TypeId} {fr:Nat×Nat} (S:SimH J β h w) (hn:Ai h (nid d)=none) (y:x.dead=false) (hs:x.sealed=false) (u:x.sz=sz)
  (s:FrTy x.ty ty 0 cs.size fr) (b:x.cells.length=n*sz) (v:cap*sz≤cs.size) (e:n≤cap) (z:CellsRep J β h w x (fun j=>cs[j]?)) (k:x.mp=false:=by rfl) :
  OpDone J β h w [(nid d,some x)] (.own (nid d) 0 n) (.slice (some ⟨w.heap.size,0,none⟩) n cap) (w.alloc (.cells cs ty fr)):=by
 have C:n*sz≤cap*sz:=Alg _ e
 have A:=Step.new (ty:=ty) (fr:=fr) S hn y hs s (by omega) z k
 refine⟨_,_,A,?_⟩
 rw[Rep]
 refine⟨x,_,cap,⟨by simp[Aj,Ad],k⟩,rfl,e,.inr ⟨w.heap.size,0,rfl,.inr ⟨by simp,?_,by rw[u,b];omega⟩⟩⟩
 have q:(w.alloc (.cells cs ty fr)).heap[w.heap.size]?=some (.cells cs ty fr):=by show(w.heap.push _)[_]?=_;simp
 rw[Co q,u];omega
theorem ry {d:Nat} {t:TypeId} {l c:AV} {vl vc:Value} {k:AV→D3→O R} (S:SimH J β h w) (hh:ng P d t l c k=some r) (s:Rep J β h w l vl) (y:Rep J β h w c vc) :
  ∃ val ups,k val ups=some r∧(UpsFree d h ups→∃ u w',(Instr.makeSlice t vl vc).run P w=.ok u w'∧OpDone J β h w ups val u w'):=by
 unfold ng at hh
 split at hh
 ·rename_i C l c D
  obtain⟨sz,hs,F⟩:=ub hh
  obtain⟨by_,A,G⟩:=ub F
  obtain⟨z,I,K⟩:=ub G
  obtain⟨hq,L⟩:=uc K
  simp at hq
  obtain⟨M,T,X,Y⟩:=hq
  rw[Rep] at s y;subst s y
  obtain⟨i,v,hi,U,rfl,e,e1,V⟩:=Qv I
  have b:i.size=sz:=by simp[Bj,hi] at hs;exact hs
  have j:i.bytes=by_:=by simp[pU,hi] at A;exact A
  have q:A3 (O8 d true false sz (Eg l.toNat (Kh v.cells.toList))) (nid d)=true:=by simp[O8,A3]
  refine⟨_,_,L,fun hn=>⟨_,_,run_make w t C i v D hi U _ _ l c M T (by rw[j,Int.mul_comm];omega) (by omega),?_⟩⟩
  refine SZ (sz:=sz) S (hn.nid q) rfl rfl rfl FrTy.un0 ?_ (by rw[size_madeCells,b];exact Akw _) (by omega) ⟨fun _=>?_,fun e=>by simp at e⟩
  ·show(Eg l.toNat (Kh v.cells.toList)).length=_
   rw[Fh,V,b]
  ·exact DS e _ _ (by rw[e1];exact Alg _ (by omega))
 ·simp at hh
theorem Yield.src {sz n:Nat} {tx:TypeId} {vx:Value} {us:List Value} (Y:Yield P w sz vx n us) (b:p9 P tx=true) (k:∀ u ∈ us,u.oneCell'=true):Src P sz tx vx n us w:=by
 refine⟨?_,Y.len,?_,?_,Y.length,k⟩
 ·unfold p9 at b
  split at b
  ·rename_i e j;exact .inl ⟨e,j⟩
  ·rename_i j;exact .inr j
  ·simp at b
 ·have:=Y.cells w n (fun _=>rfl) (Akw _)
  rwa [←Y.length,Amt] at this
 ·have:=Y.cells w.drew n (fun _=>rfl) (Akw _)
  rwa [←Y.length,Amt] at this
theorem po {J:Nat→Prop} {a b:LA} {us vs:List Value} (s:RepCs J w a (fun j=>us[j]?) 0) (v:RepCs J w b (fun j=>vs[j]?) 0) (y:a.length=us.length) (tail:List Value) :
  RepCs J w (a++b) (fun j=>(us++vs++tail)[j]?) 0:=by
 rw[By]
 intro j x e
 rw[Alo] at e
 simp only[Akz]
 by_cases q:j<a.length
 ·rw[if_pos q] at e
  obtain⟨u,k,hr⟩:=s.at e
  refine⟨u,?_,hr⟩
  rw[Ami,Alo,if_pos (by omega)];exact k
 ·rw[if_neg q] at e
  obtain⟨u,k,hr⟩:=v.at e
  refine⟨u,?_,hr⟩
  have z:j - a.length<vs.length:=(Ak4.1 k).1
  rw[Ami,Alo,if_neg (by omega),Alo,if_pos (by omega),←y];exact k
theorem DT (w:World) (k:Nat):At w.drew k=At w k:=rfl
theorem g8 {d sz n1 n2 cap0:Nat} {t tx ty b:TypeId} {i:TypeInfo} {z vx:Value} {A:Option Addr} {olds news:List Value} {c1 c2:LA} {o:Bool} (S:SimH J β h w) (hn:Ai h (nid d)=none)
  (K:P.underlying t=some (.slice b)) (hi:P.info? b=some i) (L:i.zero=some z) (C:i.size=sz) (D:z.cells.size=sz)
  (e:∀ w':World,(∀ a,w'.cell? a=w.cell? a)→(Builtin.firstCells sz n1 (.slice A n1 cap0)).run P w'=.ok olds.toArray w') (s:olds.length=n1*sz)
  (Y:Yield P w sz vx n2 news) (M:p9 P tx=true) (O:∀ u ∈ news,u.oneCell'=true)
  (T:RepCs (J o) w c1 (fun j=>olds[j]?) 0) (v:c1.length=olds.length) (U:RepCs (J o) w c2 (fun j=>news[j]?) 0) (F:c2.length=news.length)
  (I:cap0<n1+n2) (V:n1+n2≤140737488355328) (G:(n1+n2)*i.bytes≤140737488355328) {X:Option (Nat×Nat)} (hX:∀ q,X=some q→q=(b,0)) :
  ∃ u w',(Builtin.append_ #[t,tx] ty #[.slice A n1 cap0,vx]).run P w=.ok u w' ∧
   OpDone J β h w [(nid d,some { dead:=false,sealed:=false,pure:=true,taint:=o,sz:=sz,cells:=c1++c2,ty:=X })] (.own (nid d) 0 (n1+n2)) u w'∧(∀ k,At w k≤At w' k):=by
 subst C
 have run:=run_append_grow_src (P:=P) w t tx ty b i z K hi L A n1 cap0 olds (e w.drew (fun _=>rfl)) vx n2 news (Y.src M O) I (by omega) (growslice_fits I G)
 have y:n1+n2≤grownCap w (n1+n2) cap0 b:=by
  unfold grownCap;simp[Question.cut]
 refine⟨_,_,run,?_,?_⟩
 ·obtain⟨J',β',B1,B2⟩:=SZ (d:=d) (n:=n1+n2) (cap:=grownCap w (n1+n2) cap0 b) (sz:=i.size) (ty:=b) (fr:=(0,0)) (x:={ dead:=false,sealed:=false,pure:=true,taint:=o,sz:=i.size,cells:=c1++c2,ty:=X })
   (cs:=(olds++news).toArray++Builtin.zeroCells z.cells (grownCap w (n1+n2) cap0 b - (n1+n2))) (Step.drew S).sim hn rfl rfl rfl ⟨.inl rfl,fun t m hm=>by have:=hX _ hm;simp at this;exact⟨this.1.symm,rfl,.inl this.2⟩⟩
   (by simp[v,F,s,Y.length,Amz]) (by
    simp[Builtin.zeroCells,s,Y.length,D]
    rw[←Amz,←Amz];exact Alg _ (by omega)) y
   ⟨fun _=>by
    have:=po T U v (Builtin.zeroCells z.cells (grownCap w (n1+n2) cap0 b - (n1+n2))).toList
    show RepCs (J o) w.drew (c1++c2) _ 0
    refine RepCs.keep (J:=J o) (w:=w) (w':=w.drew) (fun _ hj=>hj) (fun _ _=>rfl) (fun j=>?_) this
    rw[←Aoy]
    simp,fun hp=>by simp at hp⟩
  exact⟨J',β',(Step.drew S).trans B1 (fun _ k _ _=>by rw[←DT];exact N7 _ _ k),B2⟩
 ·intro k;rw[←DT];exact N7 _ _ k
theorem MS {J:Bool→Nat→Prop} (j:∀ k,J false k→J true k) (a b:Bool) (k:Nat) (e:J a k):J (a||b) k:=by
 cases a
 ·cases b
  ·exact e
  ·exact j k e
 ·exact e
theorem g9 {J:Bool→Nat→Prop} (e:∀ k,J false k→J true k) (a b:Bool) (k:Nat) (j:J b k):J (a||b) k:=by rw[Aos];exact MS e b a k j
theorem rz {d sz:Nat} {x:Blk} {A:Option Addr} (S:SimH J β h w) (hn:Ai h (nid d)=none) (e:x.cells=[]) (b:x.mp=false:=by rfl) :
  OpDone J β h w [(nid d,some x)] (.own (nid d) 0 0) (.slice A 0 0) w:=by
 refine⟨_,_,Step.newNone S hn e b,?_⟩
 rw[Rep]
 exact⟨x,A,0,⟨by simp[Aj,Ad],b⟩,rfl,Akw _,.inl rfl⟩
theorem sA {g:A7} {b tx:TypeId} {s:AV} {q:Nat×Nat} (h:bL P g b tx s=some q):q=(b,0):=by
 unfold bL at h
 split at h
 ·split at h
  ·simp at h;exact h.symm
  ·cases h
 ·obtain⟨x,_,h⟩:=ub h
  obtain⟨y,_,h⟩:=ub h
  obtain⟨_,h⟩:=uc h
  simp at h;exact h.symm
 ·cases h
theorem Aah {g:A7} {s tx b off n o m:Nat} {ty:TypeId} {y:Blk} (u:Fg g b=some y) (v:TyOk y.ty ty o m):TyOk (bL P g s tx (.own b off n)) ty (o+off) m:=by
 intro t k h
 have e:=sA h
 simp at e;obtain⟨rfl,rfl⟩:=e
 unfold bL at h
 simp only[u,Alj] at h
 obtain⟨q,hq,h⟩:=ub h
 obtain⟨j,_⟩:=uc h
 simp only[Ak1] at j
 have c1:=Ak0 j.1
 have c2:=Ak0 j.2.1
 have c3:=Ak0 j.2.2
 obtain⟨z,A,_⟩:=v q.1 q.2 hq
 exact⟨by rw[z,c1],by omega,.inl rfl⟩
theorem lh {d:Nat} {t tx ty:TypeId} {s x:AV} {vs vx:Value} {k:AV→D3→O R} (S:SimH J β h w) (hl:Looks g h) (hh:MM P g d t tx s x k=some r) (hs:Rep J β h w s vs) (hx:Rep J β h w x vx) :
  ∃ val ups,k val ups=some r∧(UpsFree d h ups→∃ u w',(Builtin.append_ #[t,tx] ty #[vs,vx]).run P w=.ok u w'∧OpDone J β h w ups val u w'):=by
 unfold MM at hh
 split at hh
 ·rename_i el hu
  obtain⟨ht,h0⟩:=uc hh
  obtain⟨sz,hsz,h1⟩:=ub h0
  obtain⟨by_,hby,h2⟩:=ub h1
  obtain⟨zz,hz,h3⟩:=ub h2
  obtain⟨old,D,h4⟩:=ub h3
  obtain⟨new,us,h5,Y,G,hur⟩:=DP (P:=P) S hl h4 hx
  obtain⟨hq,h6⟩:=uc h5
  simp at hq
  obtain⟨q1,q2⟩:=hq
  obtain⟨i,z,hi,hiz,rfl,hp,e1,e2⟩:=Qv hz
  have C:i.size=sz:=by simp[Bj,hi] at hsz;exact hsz
  have hb':i.bytes=by_:=by simp[pU,hi] at hby;exact hby
  have F:=RepCs.one hur G.symm
  have M:RepCs (J (old.2.2.1||new.2.2)) w new.1 (fun j=>us[j]?) 0:=RepCs.keep (J:=J new.2.2) (w:=w) (g9 S.jft _ _) (fun _ _=>rfl) (fun _=>rfl) hur
  refine⟨_,_,h6,fun hn=>?_⟩
  replace hn:=hn.nid (by simp[Ha,A3])
  have hX:∀ q,bL P g el tx s=some q→q=(el,0):=fun q=>sA
  have empty:∀ (A:Option Addr),vs=.slice A 0 0→old.1=[]→old.2.1=0→old.2.2.2=[] →
    ∃ u w',(Builtin.append_ #[t,tx] ty #[vs,vx]).run P w=.ok u w'∧OpDone J β h w (old.2.2.2++[(nid d,some { dead:=false,sealed:=false,pure:=true,taint:=old.2.2.1||new.2.2,sz,cells:=old.1++new.1,ty:=bL P g el tx s })]) (.own (nid d) 0 (old.2.1+new.2.1)) u w':=by
   intro A hA o1 o2 o3
   subst hA
   rw[o1,o2,o3]
   rcases Amd new.2.1 with h0 | h0
   ·have hus:us=[]:=by have:=Y.length;rw[h0] at this;simpa using this
    subst hus
    have I:=Y.src ht F
    rw[h0] at I
    refine⟨_,_,run_append_nothing (P:=P) w t tx ty el i hu hi A 0 0 (Akw _) vx (by rw[C];exact I),?_⟩
    rw[h0]
    have hnc:new.1=[]:=by simpa using G
    exact rz (sz:=sz) S hn (by simp[hnc])
   ·obtain⟨u,w',X,g2,_⟩:=g8 (ty:=ty) (c1:=[]) (olds:=[]) (n1:=0) (cap0:=0) (A:=A) S hn hu hi hiz C (by rw[e1,C]) (fun w' _=>by
      cases A with
      | none=>exact run_firstCells_none (P:=P) w' sz 0 0 0
      | some a=>exact run_firstCells_some (P:=P) w' sz 0 a 0 0 [] (by simp) (fun j v T=>by simp at T)) (by simp) Y ht F (by simp[RepCs]) rfl M G (by omega) (by rw[o2] at q1;omega) (by rw[o2,←hb'] at q2;exact q2) hX
    exact⟨u,w',X,g2⟩
  unfold x8 at D
  split at D
  ·simp at D;subst D
   rw[Rep] at hs
   exact empty none hs rfl rfl rfl
  ·rename_i c n sz' org
   obtain⟨hz0,h7⟩:=uc D
   simp at hz0 h7;subst hz0;subst h7
   rw[Rep,RepC] at hs
   obtain⟨_,A,cap,T,_,hcap,_⟩:=hs
   have:=hcap rfl;subst this
   exact empty A T rfl rfl rfl
  ·rename_i b off n
   obtain⟨y,hy,h7⟩:=ub D
   obtain⟨hc,h8⟩:=uc h7
   simp at hc h8
   obtain⟨c1,c2,c3⟩:=hc
   subst h8;subst c3
   obtain⟨hb,hd⟩:=C1 hl hy
   simp only at *
   rw[Rep] at hs
   obtain⟨y',A,cap,⟨hy1,hmp⟩,rfl,hcap,hr⟩:=hs
   rw[hb] at hy1;simp at hy1;subst hy1
   have kill:=Step.kill (y:={ y with dead:=true,pure:=true,cells:=[] }) S hb rfl
   have hkn:Ai (Dp h b { y with dead:=true,pure:=true,cells:=[] }) (nid d)=none:=by
    rw[Ad,if_neg (fun e=>by rw[←e,hn] at hb;cases hb)];exact hn
   have K:Aj [(b,none)] h=Dp h b { y with dead:=true,pure:=true,cells:=[] }:=by simp[Aj,hb]
   by_cases hc0:cap=0
   ·have hn0:n=0:=by omega
    subst hc0;subst hn0
    have S':=kill.sim
    rcases Amd new.2.1 with h0 | h0
    ·have hus:us=[]:=by have:=Y.length;rw[h0] at this;simpa using this
     subst hus
     have I:=Y.src ht F
     rw[h0] at I
     refine⟨_,_,run_append_nothing (P:=P) w t tx ty el i hu hi A 0 0 (Akw _) vx (by rw[C];exact I),?_⟩
     rw[h0]
     have hnc:new.1=[]:=by simpa using G
     refine OpDone.after (ups:=[(b,none)]) (by rw[K];exact kill) ?_ (fun _=>Akw _)
     rw[K]
     exact rz (sz:=y.sz) S' hkn (by simp[hnc])
    ·obtain⟨u,w',X,g2,g3⟩:=g8 (ty:=ty) (c1:=[]) (olds:=[]) (n1:=0) (cap0:=0) (A:=A) S' hkn hu hi hiz C (by rw[e1,C]) (fun w' _=>by
       cases A with
       | none=>exact run_firstCells_none (P:=P) w' y.sz 0 0 0
       | some a=>exact run_firstCells_some (P:=P) w' y.sz 0 a 0 0 [] (by simp) (fun j v T=>by simp at T)) (by simp) Y ht F (by simp[RepCs]) rfl M G (by omega) (by omega) (by rw[←hb'] at q2;exact q2) hX
     refine⟨u,w',X,OpDone.after (ups:=[(b,none)]) (by rw[K];exact kill) ?_ g3⟩
     rw[K];simpa[O8] using g2
   ·rcases hr with hr | ⟨kk,o,rfl,hr⟩
    ·exact absurd hr hc0
    ·rcases hr with hr | ⟨r1,r2,r3⟩
     ·simp[hd] at hr
     ·rcases S.blk b y hb hd hmp with⟨hn',_⟩ | ⟨k',o',cs,ty',fr,hβ',X,g2,g3,g4,g5,g6⟩
      ·rw[r1] at hn';simp at hn'
      ·rw[r1] at hβ';simp at hβ';obtain⟨rfl,rfl⟩:=hβ'
       have hbs:=Co X
       have U:=((g4.1 c1).drop off).take (n*y.sz)
       have V:((y.cells.drop off).take (n*y.sz)).length=n*y.sz:=by simp;omega
       by_cases L:n+new.2.1≤cap
       ·
        have hle:(n+new.2.1)*y.sz≤cap*y.sz:=Alg _ L
        rw[Amz] at hle
        have run:=run_append_room_src (P:=P) w t tx ty el i hu hi kk (o+off) n cap vx new.2.1 us (by rw[C];exact Y.src ht F) L (fun j hj=>by
          rw[C,M6 X];have:=Y.length;simp;omega) (fun j hj=>by
          rw[C];simp only[World.frozen?,X]
          have h9:=Y.length
          have:=g2.1.at (o+off+n*y.sz+j) (by omega)
          cases fr;simp at this ⊢;omega)
        rw[C] at run
        obtain⟨cs',O,hO⟩:=OnlyBlk.setCells (k:=kk) us (o+off+n*y.sz) w cs X
        have h9:=Y.length
        have B:=Step.move (y:={ y with dead:=true,pure:=true,cells:=[] }) (o':=o+off) (x':={ dead:=false,sealed:=false,pure:=true,taint:=y.taint||new.2.2,sz:=y.sz,cells:=(y.cells.drop off).take (n*y.sz)++new.1,ty:=bL P g el tx (.own b off n) }) S hb hd c2 r1 hn rfl O rfl rfl
         (by rw[Akx,V,G];omega) ⟨fun _=>by
          show RepCs (J (y.taint||new.2.2)) w ((y.cells.drop off).take (n*y.sz)++new.1) _ 0
          rw[By]
          intro j q hj
          rw[Alo,V] at hj
          simp only[Akz]
          by_cases hjn:j<n*y.sz
          ·rw[if_pos hjn] at hj
           obtain⟨v,T,hvr⟩:=U.at hj
           refine⟨v,?_,RepC.keep (J:=J y.taint) (w:=w) (MS S.jft _ _) (fun _ _=>rfl) hvr⟩
           rw[hO,if_neg (by omega),Alv];exact T
          ·rw[if_neg hjn] at hj
           obtain⟨v,T,hvr⟩:=M.at hj
           refine⟨v,?_,hvr⟩
           have:j - n*y.sz<us.length:=(Ak4.1 T).1
           rw[hO,if_pos (by omega),←T];congr 1;omega,fun hp=>by simp at hp⟩ hmp (hty:=Aah (P:=P) (tx:=tx) (n:=n) hy g2.2)
        refine⟨_,_,run,J,(fun b=>if b=nid d then some (kk,o+off) else β b),?_,?_⟩
        ·rw[B8,K];exact B
        ·rw[B8,K,Rep]
         refine⟨_,_,cap,⟨by simp[O8,Aj,Ad];rfl,rfl⟩,rfl,L,.inr ⟨kk,o+off,rfl,.inr ⟨by simp,?_,?_⟩⟩⟩
         ·rw[Co O.new,O.sz];simp;omega
         ·simp only[Akx,V,G,h9,Akz];rw[Amz];exact Akw _
       ·
        obtain⟨olds,l1,l2,l3⟩:=U.list
        obtain⟨u,w',g1',g2',g3'⟩:=g8 (ty:=ty) (c1:=(y.cells.drop off).take (n*y.sz)) (olds:=olds) (n1:=n) (cap0:=cap) (A:=some ⟨kk,o+off,none⟩) kill.sim hkn hu hi hiz C (by rw[e1,C]) (fun w' he =>
          run_firstCells_some (P:=P) w' y.sz n _ n cap olds (by rw[l1,V]) (fun j v T=>by
           rw[he,Addr.add_mid,M6 X,Alv];exact l2 j v T)) (by rw[l1,V]) Y ht F
          (RepCs.keep (J:=J y.taint) (w:=w) (MS S.jft _ _) (fun _ _=>rfl) (fun _=>rfl) l3) l1.symm M G (by omega) (by omega) (by rw[←hb'] at q2;exact q2) hX
        refine⟨u,w',g1',OpDone.after (ups:=[(b,none)]) (by rw[K];exact kill) ?_ g3'⟩
        rw[K];exact g2'
  ·simp at D
 ·simp at hh
end
end Gx
namespace Gx
open Go
section
variable {R:Type} {r:R} {P:Program} {J J':Bool→Nat→Prop} {β:B5} {h:Ap} {w w':World} {g:A7}
theorem Step.retaint (S:SimH J β h w) {d:Nat} {x:Blk} (K:Ai h d=some x) (G:x.dead=false) (hs:x.sealed=false) (hp:x.pure=true) (I:x.mp=false) (o:Bool) :
  Step J β h w J β (Dp h d { x with taint:=x.taint||o }) w:=by
 have E:Ext J β h w J β (Dp h d { x with taint:=x.taint||o }) w:=by
  refine⟨fun _ _ D=>D,fun o k D=>rfl,fun b z j=>?_,fun b k o F=>Akw _⟩
  by_cases e:b=d
  ·subst e;rw[K] at j;simp at j;subst j
   exact⟨{ x with taint:=x.taint||o },⟨by rw[Ad,if_pos rfl],rfl⟩,.inr ⟨G,rfl,rfl,fun _=>rfl⟩⟩
  ·refine⟨z,⟨by rw[Ad,if_neg e];exact j,rfl⟩,?_⟩
   cases G:z.dead
   ·exact .inr ⟨rfl,rfl,rfl,fun _=>rfl⟩
   ·exact .inl rfl
 refine⟨E,⟨S.jlt,S.jft,S.gl.ext E,fun b z j q L=>?_,fun b z j q L=>by
   rw[Ad] at j
   by_cases e:b=d
   ·rw[if_pos e] at j;simp at j;subst j;simp[I] at L
   ·rw[if_neg e] at j
    exact(S.mblk b z j q L).keep rfl (fun k o F=>rfl) (fun _ _ _ _ D=>D),?_⟩,rfl,rfl,rfl,Akw _,fun k hk _=>rfl,?_,fun _ _ D=>.inl D⟩
 ·rw[Ad] at j
  by_cases e:b=d
  ·rw[if_pos e] at j;simp at j;subst j;subst e
   rcases S.blk b x K G I with s | ⟨k,o',u,v,A,s,M,O,T,U,V,h7⟩
   ·exact .inl s
   ·refine .inr ⟨k,o',u,v,A,s,M,O,T,CellsRep.ext E ⟨fun _=>?_,fun hh=>?_⟩,fun _=>V hs,fun hh=>by simp[hs] at hh⟩
    ·exact RepCs.keep (J:=J x.taint) (w:=w) (MS S.jft _ _) (fun _ _=>rfl) (fun _=>rfl) (U.1 hp)
    ·simp[hp] at hh
  ·rw[if_neg e] at j
   rcases S.blk b z j q L with s | ⟨k,o,u,v,A,s,M,O,T,U,V,h7⟩
   ·exact .inl s
   ·exact .inr ⟨k,o,u,v,A,s,M,O,T,U.ext E,V,h7⟩
 ·intro b b' z z' k oo X j Y hd1 hd2 C F hβ'
  have get:∀ {c y},Ai (Dp h d { x with taint:=x.taint||o }) c=some y→y.dead=false→∃ y',Ai h c=some y'∧y'.dead=false∧(y.sealed=false→y'.sealed=false):=by
   intro c y hc hyd
   rw[Ad] at hc
   by_cases e:c=d
   ·subst e;exact⟨x,K,G,fun _=>hs⟩
   ·rw[if_neg e] at hc;exact⟨y,hc,hyd,id⟩
  obtain⟨y1,g1,g2,g3⟩:=get j hd1
  obtain⟨y2,g4,g5,g6⟩:=get Y hd2
  exact S.sep b b' y1 y2 k oo X g1 g4 g2 g5 (g3 C) F hβ'
 ·rintro k ⟨b,z,o,j,q,C,F⟩ hk
  rw[Ad] at j
  by_cases e:b=d
  ·subst e;exact⟨b,x,o,K,G,hs,F⟩
  ·rw[if_neg e] at j
   exact⟨b,z,o,j,q,C,F⟩
theorem g_ (c:LA) (off:Nat):Dd c off []=c:=by simp[Dd]
theorem bX {e:IntKind}:∀ (n:Nat) (c:LA) (k:LA→O R),QT e n c k=some r→∃ vs,k vs=some r∧vs.length=n∧∀ (j:Nat) (v:AV),vs[j]?=some v→(∃ i,v=.int e i)∧c[j]?=some v
 | 0,_,k,h=>⟨[],h,rfl,by simp⟩
 | n+1,c,k,h=>by
  rw[QT] at h
  obtain⟨x,u,h⟩:=ub h
  obtain⟨i,hi,h⟩:=ub h
  obtain⟨vs,y,z,A⟩:=bX n _ _ h
  refine⟨_,y,by simp[z],fun j v b=>?_⟩
  cases j with
  | zero =>
   simp at b;subst b
   refine⟨⟨_,rfl⟩,?_⟩
   rw[←Ali,u]
   unfold IL at hi
   split at hi
   ·obtain⟨q,hn⟩:=uc hi
    simp[Kz] at q hn;subst q;subst hn;rfl
   ·cases hi
  | succ j =>
   simp at b
   obtain⟨C,s⟩:=A j v b
   refine⟨C,?_⟩
   rw[Al8] at s
   rw[←s,Aou]
theorem pq {t tx ty U sz b off n:TypeId} {y:Blk} {q:LA×Nat×Bool} {us:List Value} {vs vx:Value} {k:AV→D3→O R} (S:SimH J β h w) (V:P.underlying t=some (.slice U)) (X:Bj P U=some sz) (hb:Ai h b=some y) (T:y.dead=false)
  (hh:YM P U sz b off n y q k=some r) (hs:Rep J β h w (.own b off n) vs) (Y:Yield P w sz vx q.2.1 us) (hul:q.1.length=us.length) (F:RepCs (J q.2.2) w q.1 (fun j=>us[j]?) 0) :
  ∃ val ups,k val ups=some r∧∃ u w',(Builtin.copy_ #[t,tx] ty #[vs,vx]).run P w=.ok u w'∧OpDone J β h w ups val u w':=by
 unfold YM at hh
 split at hh
 ·rename_i kd hk
  obtain⟨hc,h1⟩:=uc hh
  simp at hc
  obtain⟨c0,c1,c2,c3,c4,c5,c6⟩:=hc
  subst c0
  obtain⟨ws,h2,hw,hws⟩:=bX _ _ _ h1
  have G:=RepCs.one F hul.symm
  refine⟨_,_,h2,?_⟩
  rw[Rep] at hs
  obtain⟨y',A,cap,⟨s,I⟩,rfl,hcap,hr⟩:=hs
  rw[hb] at s;simp at s;subst s
  have hm:Nat.min q.2.1 n=n:=Nat.min_eq_right c5
  have e:=Y.cells w n (fun _=>rfl) c5
  have K:=Y.len w
  rcases hr with hr | ⟨kk,o,rfl,hr⟩
  ·omega
  ·rcases hr with hr | ⟨r1,r2,r3⟩
   ·simp[T] at hr
   ·rcases S.blk b y hb T I with⟨L,_⟩ | ⟨k',o',cs,ty',fr,v,g1,g2,g3,g4,g5,g6⟩
    ·rw[r1] at L;simp at L
    ·rw[r1] at v;simp at v;obtain⟨rfl,rfl⟩:=v
     have hul':=Y.length
     have htl:(us.take (n*1)).length=n:=by rw[Al0];omega
     obtain⟨M,O,hO⟩:=OnlyBlk.setCells (k:=kk) (us.take (n*1)) (o+off) w cs g1
     have z:=run_storeCells_cells (P:=P) kk (o+off) (us.take (n*1)) 0 w (fun j D=>by
       rw[Alt,M6 g1];simp;omega)
      (fun j D=>by
       rw[Alt];simp only[World.frozen?,g1]
       have:=g2.1.at (o+off+j) (by omega)
       cases fr;simp at this ⊢;omega) (fun u V=>G u (Ank V))
     simp only[Alt] at z
     have B:=Step.set (x':={ y with cells:=Dd y.cells off ws }) S hb T c3 r1 O T c3 rfl (M7 (by omega)) ⟨fun hp=>by simp[c4] at hp,fun _=>by
      intro j x D
      rw[Wm (by omega),hw] at D
      split at D
      ·obtain⟨⟨i,rfl⟩,h5⟩:=hws _ _ D
       obtain⟨u,C,hr⟩:=F.at h5
       refine⟨u,?_,?_,?_⟩
       ·show M[o+j]?=some u
        rw[hO,if_pos (by omega),Al4,if_pos (by omega),←C];congr 1;omega
       ·rw[RepC] at hr;rw[Rep];exact hr
       ·rw[RepC] at hr;rw[hr];rfl
      ·obtain⟨u,C,hr⟩:=g4.2 c4 j x D
       refine⟨u,?_,hr⟩
       show M[o+j]?=some u
       rw[hO,if_neg (by omega)];exact C⟩ I
     refine⟨.int .i64 (n:Nat),_,?_,J,β,B,by rw[Rep]⟩
     simp only[Ak6] at z
     simp[Builtin.copy_,run_underlying V,K,Ce X,hm,e,goInt,z]
 ·cases hh
theorem sB {t tx ty:TypeId} {s x:AV} {vs vx:Value} {k:AV→D3→O R} (S:SimH J β h w) (hl:Looks g h) (hh:nh P g t s x k=some r) (hs:Rep J β h w s vs) (hx:Rep J β h w x vx) :
  ∃ val ups,k val ups=some r∧∃ u w',(Builtin.copy_ #[t,tx] ty #[vs,vx]).run P w=.ok u w'∧OpDone J β h w ups val u w':=by
 unfold nh at hh
 split at hh
 ·rename_i el b off n F
  obtain⟨sz,C,h1⟩:=ub hh
  obtain⟨y,hy,h2⟩:=ub h1
  obtain⟨new,us,h3,Y,G,D⟩:=DP (P:=P) S hl h2 hx
  obtain⟨hb,X⟩:=C1 hl hy
  cases I:(y.pure&&(!y.sealed&&beq sz y.sz)) with
  | false=>rw[I] at h3;exact pq S F C hb X h3 hs Y G D
  | true =>
  rw[I] at h3
  have h4:=h3
  simp only[cond_true] at h4
  have hc:=I
  simp at hc
  obtain⟨c1,c2,c3⟩:=hc
  subst c3
  have hone:=RepCs.one D G.symm
  refine⟨_,_,h4,?_⟩
  rw[Rep] at hs
  obtain⟨y',A,cap,⟨K,L⟩,rfl,hcap,hr⟩:=hs
  rw[hb] at K;simp at K;subst K
  have hm:Nat.min new.2.1 n≤new.2.1:=Nat.min_le_left _ _
  have v:=Y.cells w (Nat.min new.2.1 n) (fun _=>rfl) hm
  have z:=Y.len w
  by_cases M:Nat.min new.2.1 n*y.sz=0
  ·
   refine⟨.int .i64 (Nat.min new.2.1 n:Nat),w,?_,J,β,?_,by rw[Rep]⟩
   ·have e:us.take (Nat.min new.2.1 n*y.sz)=[]:=by rw[M];rfl
    rw[e] at v
    cases A with
    | none=>simp[Builtin.copy_,run_underlying F,z,Ce C,v,goInt]
    | some a=>simp[Builtin.copy_,run_underlying F,z,Ce C,v,goInt,storeCells]
   ·have e:(new.1.take (min new.2.1 n*y.sz))=[]:=by
     have:min new.2.1 n*y.sz=0:=M
     rw[this];rfl
    have T:=Step.retaint S hb X c2 c1 L new.2.2
    simp only[Aj]
    rw[e,g_]
    exact T
  ·rcases hr with hr | ⟨kk,o,rfl,hr⟩
   ·have:n=0:=by omega
    subst this;simp at M
   ·rcases hr with hr | ⟨r1,r2,r3⟩
    ·simp[X] at hr
    ·rcases S.blk b y hb X L with⟨hn',_⟩ | ⟨k',o',cs,ty',fr,U,g1,g2,g3,g4,g5,g6⟩
     ·rw[r1] at hn';simp at hn'
     ·rw[r1] at U;simp at U;obtain⟨rfl,rfl⟩:=U
      have hle1:Nat.min new.2.1 n*y.sz≤new.2.1*y.sz:=Alg _ hm
      have hle2:Nat.min new.2.1 n*y.sz≤n*y.sz:=Alg _ (Nat.min_le_right _ _)
      have hul':=Y.length
      have htl:(us.take (Nat.min new.2.1 n*y.sz)).length=Nat.min new.2.1 n*y.sz:=by rw[Al0];omega
      have htl':(new.1.take (Nat.min new.2.1 n*y.sz)).length=Nat.min new.2.1 n*y.sz:=by rw[Al0];omega
      obtain⟨cs',O,hO⟩:=OnlyBlk.setCells (k:=kk) (us.take (Nat.min new.2.1 n*y.sz)) (o+off) w cs g1
      have hst:=run_storeCells_cells (P:=P) kk (o+off) (us.take (Nat.min new.2.1 n*y.sz)) 0 w (fun j hj=>by
        rw[Alt,M6 g1];simp;omega)
       (fun j hj=>by
        rw[Alt];simp only[World.frozen?,g1]
        have:=g2.1.at (o+off+j) (by omega)
        cases fr;simp at this ⊢;omega) (fun u F=>hone u (Ank F))
      simp only[Alt] at hst
      have B:=Step.set (x':={ y with cells:=Dd y.cells off (new.1.take (Nat.min new.2.1 n*y.sz)),taint:=y.taint||new.2.2 }) S hb X c2 r1 O X c2 rfl (M7 (by omega)) ⟨fun _=>by
       show RepCs (J (y.taint||new.2.2)) w (Dd y.cells off (new.1.take (Nat.min new.2.1 n*y.sz))) _ 0
       rw[By]
       intro j q hj
       rw[Wm (by omega),htl'] at hj
       simp only[Akz]
       split at hj
       ·obtain⟨u,V,hr⟩:=(D.take _).at hj
        refine⟨u,?_,RepC.keep (J:=J new.2.2) (w:=w) (g9 S.jft _ _) (fun _ _=>rfl) hr⟩
        rw[hO,if_pos (by omega),Al4,if_pos (by omega),←V];congr 1;omega
       ·obtain⟨u,V,hr⟩:=(g4.1 c1).at hj
        refine⟨u,?_,RepC.keep (J:=J y.taint) (w:=w) (MS S.jft _ _) (fun _ _=>rfl) hr⟩
        rw[hO,if_neg (by omega)];exact V,fun hp=>by simp[c1] at hp⟩ L
      refine⟨.int .i64 (Nat.min new.2.1 n:Nat),_,?_,J,β,B,by rw[Rep]⟩
      simp[Builtin.copy_,run_underlying F,z,Ce C,v,goInt,hst]
 ·rename_i el F
  obtain⟨sz,C,h1⟩:=ub hh
  obtain⟨new,us,h2,Y,G,D⟩:=DP (P:=P) S hl h1 hx
  rw[Rep] at hs;subst hs
  have z:=Y.len w
  have v:=Y.cells w 0 (fun _=>rfl) (An2 _)
  simp at v
  refine⟨_,_,h2,.int .i64 0,w,?_,J,β,Step.refl S,by rw[Rep]⟩
  have hm:∀ m:Nat,Nat.min m 0=0:=fun m=>Nat.min_eq_right (An2 _)
  simp[Builtin.copy_,run_underlying F,z,Ce C,hm,v,goInt]
 ·simp at hh
theorem pt {t ty:TypeId} {s:AV} {vs:Value} {k:AV→D3→O R} (S:SimH J β h w) (hl:Looks g h) (hh:YN P g t s k=some r) (hs:Rep J β h w s vs) :
  ∃ val ups,k val ups=some r∧∃ u w',(Builtin.clear_ #[t] ty #[vs]).run P w=.ok u w'∧OpDone J β h w ups val u w':=by
 unfold YN at hh
 split at hh
 ·rename_i el b off n L
  obtain⟨sz,U,h1⟩:=ub hh
  obtain⟨z,hz,h2⟩:=ub h1
  obtain⟨y,hy,h3⟩:=ub h2
  obtain⟨hc,h4⟩:=uc h3
  simp at hc
  obtain⟨c1,c2,c3⟩:=hc
  subst c3
  obtain⟨hb,V⟩:=C1 hl hy
  obtain⟨i,v,hi,hv,rfl,hp,e1,e2⟩:=Qv hz
  have X:i.size=y.sz:=by simp[Bj,hi] at U;exact U
  have Y:∀ w,(zeroValue el).run P w=.ok v w:=fun w=>by simp[zeroValue,typeInfo,hi,hv]
  have C:=Fh n (Kh v.cells.toList)
  rw[e2,X] at C
  have hzc:Builtin.zeroCells v.cells n=madeCells v.cells (n*v.cells.size):=rfl
  have hul:(Builtin.zeroCells v.cells n).toList.length=n*y.sz:=by rw[hzc,Ane,size_madeCells,e1,X]
  have hur:RepCs (J y.taint) w (Eg n (Kh v.cells.toList)) (fun j=>(Builtin.zeroCells v.cells n).toList[j]?) 0:=by
   have:=DS (J:=J y.taint) (w:=w) hp n (n*v.cells.size) (Akw _)
   rw[←hzc] at this
   simpa using this
  have hone:=RepCs.one hur (by rw[hul,C])
  refine⟨_,_,h4,?_⟩
  rw[Rep] at hs
  obtain⟨y',A,cap,⟨F,G⟩,rfl,hcap,hr⟩:=hs
  rw[hb] at F;simp at F;subst F
  by_cases D:n*y.sz=0
  ·have e0:(Builtin.zeroCells v.cells n).toList=[]:=Amj (by rw[hul,D])
   refine⟨.tuple #[],w,?_,J,β,?_,by rw[Rep];exact⟨[],rfl,by rw[Reps]⟩⟩
   ·cases n with
    | zero=>cases A<;>simp[Builtin.clear_,run_underlying L]
    | succ n =>
     cases A with
     | none=>simp[Builtin.clear_,run_underlying L]
     | some a=>simp[Builtin.clear_,run_underlying L,Y,e0,storeCells]
   ·have e:Eg n (Kh v.cells.toList)=[]:=Amj (by rw[C,D])
    have T:=Step.retaint S hb V c2 c1 G false
    simp only[Aj]
    rw[e,g_]
    simpa using T
  ·rcases hr with hr | ⟨kk,o,rfl,hr⟩
   ·have:n=0:=by omega
    subst this;simp at D
   ·rcases hr with hr | ⟨r1,r2,r3⟩
    ·simp[V] at hr
    ·rcases S.blk b y hb V G with⟨hn',_⟩ | ⟨k',o',cs,ty',fr,I,g1,g2,g3,g4,g5,g6⟩
     ·rw[r1] at hn';simp at hn'
     ·rw[r1] at I;simp at I;obtain⟨rfl,rfl⟩:=I
      obtain⟨cs',O,hO⟩:=OnlyBlk.setCells (k:=kk) (Builtin.zeroCells v.cells n).toList (o+off) w cs g1
      have hst:=run_storeCells_cells (P:=P) kk (o+off) (Builtin.zeroCells v.cells n).toList 0 w (fun j M=>by
        rw[Alt,M6 g1];simp;omega)
       (fun j M=>by
        rw[Alt];simp only[World.frozen?,g1]
        have:=g2.1.at (o+off+j) (by omega)
        cases fr;simp at this ⊢;omega) (fun u L=>hone u L)
      simp only[Alt] at hst
      have B:=Step.set (x':={ y with cells:=Dd y.cells off (Eg n (Kh v.cells.toList)) }) S hb V c2 r1 O V c2 rfl (M7 (by omega)) ⟨fun _=>by
       show RepCs (J y.taint) w (Dd y.cells off (Eg n (Kh v.cells.toList))) _ 0
       rw[By]
       intro j q M
       rw[Wm (by omega),C] at M
       simp only[Akz]
       split at M
       ·obtain⟨u,K,hr⟩:=hur.at M
        refine⟨u,?_,hr⟩
        rw[hO,if_pos (by omega),←K];congr 1;omega
       ·obtain⟨u,K,hr⟩:=(g4.1 c1).at M
        refine⟨u,?_,hr⟩
        rw[hO,if_neg (by omega)];exact K,fun hp=>by simp[c1] at hp⟩ G
      refine⟨.tuple #[],_,?_,J,β,B,by rw[Rep];exact⟨[],rfl,by rw[Reps]⟩⟩
      cases n with
      | zero=>simp at D
      | succ n=>simp[Builtin.clear_,run_underlying L,Y,hst]
 ·simp at hh
theorem OY:∀ {c:LA} {s:Lu} {us:List Value} {J:Nat→Prop},SM c=some s→RepCs J w c (fun j=>us[j]?) 0→c.length=us.length →
  ∃ ns:List Int,us=ns.map (Value.int .u8)∧s=ns.map (fun n=>UInt8.ofNat n.toNat)
 | [],s,us,J,z,C,D=>by
  simp[SM] at z;subst z
  have:us=[]:=by cases us<;>simp_all
  exact⟨[],by simp[this],rfl⟩
 | x::r,s,us,J,z,C,D=>by
  rw[SM] at z
  obtain⟨b,e,L⟩:=ub z
  obtain⟨l,F,I⟩:=ub L
  simp at I;subst I
  cases us with
  | nil=>simp at D
  | cons u us =>
   rw[RepCs] at C
   obtain⟨⟨T,A,hr⟩,k⟩:=C
   simp at A;subst A
   unfold zt at e
   split at e
   ·rename_i n
    simp at e;subst e
    rw[RepC] at hr;subst hr
    have q:RepCs J w r (fun j=>us[j]?) 0:=by
     rw[By] at k ⊢
     intro j y M
     obtain⟨v,K,G⟩:=k j y M
     refine⟨v,?_,G⟩
     rw[show 0+1+j=j+1 by omega] at K
     simpa using K
    obtain⟨ns,O,S⟩:=OY F q (by simpa using D)
    exact⟨n::ns,by simp[O],by simp[S]⟩
   ·simp at e
theorem Aai:∀ (ns:List Int) (s:Lu),(ns.foldl (fun r n=>r.push (UInt8.ofNat n.toNat)) (⟨⟨s⟩⟩:ByteArray))=⟨⟨s++ns.map fun n=>UInt8.ofNat n.toNat⟩⟩
 | [],s=>by simp
 | n::r,s=>by
  rw[Amx]
  have:(⟨⟨s⟩⟩:ByteArray).push (UInt8.ofNat n.toNat)=⟨⟨s++[UInt8.ofNat n.toNat]⟩⟩:=by
   simp[ByteArray.push]
  rw[this,Aai r];simp
theorem sC {d:Nat} {src dst:TypeId} {x:AV} {vx:Value} {k:AV→D3→O R} (S:SimH J β h w) (hl:Looks g h) (hh:ni P g d src dst x k=some r) (v:Rep J β h w x vx) :
  ∃ val ups,k val ups=some r∧(UpsFree d h ups→∃ u w',(convert src dst vx).run P w=.ok u w'∧OpDone J β h w ups val u w'):=by
 unfold ni at hh
 split at hh
 ·rename_i kd D
  split at hh
  ·rename_i kd' n
   rw[Rep] at v;subst v
   obtain⟨G,U⟩:=uc hh
   obtain⟨s,hs⟩:=Aom.1 G
   refine⟨_,_,U,fun _=>⟨.int kd (kd.wrap n),w,?_,J,β,Step.refl S,by rw[Rep]⟩⟩
   cases s<;>simp[convert,run_underlying hs,run_underlying D,Conv.intToInt]
  ·simp at hh
 ·rename_i D
  split at hh
  ·rename_i hs
   split at hh
   ·rename_i s
    rw[Rep] at v;subst v
    refine⟨_,_,hh,fun _=>⟨.string ⟨⟨s⟩⟩,w,?_,J,β,Step.refl S,by rw[Rep]⟩⟩
    simp[convert,run_underlying hs,run_underlying D]
   ·simp at hh
  ·rename_i C hs
   split at hh
   ·rename_i V
    split at hh
    ·simp at hh
    ·rename_i hns
     obtain⟨q,hq,U⟩:=ub hh
     obtain⟨s,hs',h2⟩:=ub U
     obtain⟨us,Y,hul,hur⟩:=bV (P:=P) S hl hq v
     obtain⟨ns,e1,e2⟩:=OY hs' hur hul
     refine⟨_,_,h2,fun _=>⟨.string ⟨⟨s⟩⟩,w,?_,J,β,Step.refl S,by rw[Rep]⟩⟩
     have hv:∃ A n cap,vx=.slice A n cap:=by
      unfold nc at hq
      split at hq
      ·rw[Rep] at v;exact⟨_,_,_,v⟩
      ·rw[Rep,RepC] at v;obtain⟨_,A,cap,rfl,_⟩:=v;exact⟨_,_,_,rfl⟩
      ·rw[Rep] at v;obtain⟨_,A,cap,_,rfl,_⟩:=v;exact⟨_,_,_,rfl⟩
      ·exact absurd rfl (hns _)
      ·simp at hq
     obtain⟨A,n,cap,rfl⟩:=hv
     have hn:q.2.1=n:=by have:=Y.len w;simpa[Builtin.lenOf] using this.symm
     have M:=Y.cells w n (fun _=>rfl) (by omega)
     have X:=Y.length
     rw[hn] at X
     rw[show us.take (n*1)=us by rw[←X,Amt]] at M
     have I:(convert src dst (.slice A n cap)).run P w=(Conv.bytesToString (.slice A n cap)).run P w:=by
      cases A<;>simp[convert,run_underlying hs,run_underlying D,run_underlying V]
     rw[I]
     cases A with
     | none =>
      rw[run_firstCells_none] at M
      injection M with hc1 _
      have hus:us=[]:=by simpa using hc1.symm
      rw[hus] at e1
      have hns':ns=[]:=by simpa using e1.symm
      rw[hns'] at e2
      simp at e2;subst e2
      simp[Conv.bytesToString];rfl
     | some a =>
      simp only[Builtin.firstCells,Ak6] at M
      rw[e1] at M
      rw[run_bytesToString w a n cap ns M,e2]
      have:=Aai ns []
      simp at this
      rw[←this];rfl
   ·simp at hh
  ·simp at hh
 ·rename_i C D
  split at hh
  ·rename_i e' b off n hs V
   obtain⟨y,U⟩:=uc hh
   simp only[Ak1] at y
   obtain⟨y,hn1⟩:=y
   have hn1:1≤n:=by simpa using hn1
   have y:=Ak0 y
   subst y
   have hee:e'=C:=by rw[hs] at D;simpa using D
   subst hee
   obtain⟨x,z,h2⟩:=ub U
   obtain⟨hsl,h3⟩:=uw h2
   obtain⟨z,hd⟩:=C1 hl z
   refine⟨_,_,h3,fun _=>?_⟩
   have hx':=v
   rw[Rep] at v
   obtain⟨x0,A,cap,⟨K,hmp⟩,rfl,hle,hr⟩:=v
   rw[z] at K;simp at K;subst K
   rcases hr with hr | ⟨k1,o1,rfl,hr⟩
   ·omega
   ·rcases hr with hr | ⟨hβ,_,_⟩
    ·simp[hd] at hr
    ·rcases S.blk b x z hd hmp with⟨T,_⟩ | ⟨k2,o2,cs,ty,fr,T,h5,h6,h7,h8,h9,h10⟩
     ·rw[hβ] at T;simp at T
     ·rw[hβ] at T;simp at T;obtain⟨rfl,rfl⟩:=T
      have hsh:w.shape? k1=some (ty,cs.size):=by simp[World.shape?,h5]
      have hnew:∃ L,(w.freeze ⟨k1,cs.size,none⟩ 1).heap[k1]?=some (.cells cs ty L)∧FrOk cs.size L:=by
       obtain⟨lo,hi⟩:=fr
       refine⟨if lo==hi then (cs.size,cs.size+1) else (min lo cs.size,max hi (cs.size+1)),?_,?_⟩
       ·simp[World.freeze,Amk,h5]
       ·by_cases e:lo=hi
        ·simp[e,FrOk]
        ·have h11:cs.size≤lo:=by rcases h6 with h6 | h6;exact absurd h6 e;exact h6
         simp[e,FrOk];omega
      obtain⟨L,hf1,hf2⟩:=hnew
      have A:=Step.mark S z hd hsl hβ h5 hf1 hf2 (fun j F=>by
       simp only[World.freeze]
       rw[if_neg (by decide)]
       show(w.heap.modify k1 _)[j]?=_
       rw[Amk,if_neg (fun e=>F e.symm)]) (by simp[World.freeze]) rfl rfl rfl hmp
      refine⟨_,w.freeze ⟨k1,cs.size,none⟩ 1,?_,J,β,A,Rep.ext A.ext hx'⟩
      simp[convert,run_underlying hs,run_underlying V,markStringish,hsh]
  ·rename_i s hs V
   rw[Rep] at v;subst v
   refine⟨_,_,hh,fun hn=>⟨_,_,run_bytes_of_string (P:=P) w src dst C ⟨⟨s⟩⟩ hs D V,?_⟩⟩
   replace hn:=hn.nid (by simp[O8,A3])
   have hsz:(⟨⟨s⟩⟩:ByteArray).size=s.length:=rfl
   have hcap:s.length≤grownCap w s.length 0 C:=by unfold grownCap;simp[Question.cut]
   rw[hsz]
   obtain⟨J',β',B1,B2⟩:=SZ (d:=d) (n:=s.length) (cap:=grownCap w s.length 0 C) (sz:=1) (ty:=C) (fr:=((bytesRow ⟨⟨s⟩⟩ (grownCap w s.length 0 C)).size,(bytesRow ⟨⟨s⟩⟩ (grownCap w s.length 0 C)).size+1))
    (x:={ dead:=false,sealed:=false,pure:=true,taint:=false,sz:=1,cells:=s.map fun b=>.int .u8 (b.toNat:Int) })
    (cs:=bytesRow ⟨⟨s⟩⟩ (grownCap w s.length 0 C)) (Step.drew S).sim hn rfl rfl rfl (FrOk.un (.inr (Akw _))) (by simp) (by simp[bytesRow,hsz];omega) hcap
    ⟨fun _=>by
     show RepCs (J false) w.drew (s.map fun b=>.int .u8 (b.toNat:Int)) _ 0
     rw[By]
     intro j q F
     rw[Am3] at F
     cases hb:s[j]? with
     | none=>rw[hb] at F;simp at F
     | some b =>
      rw[hb] at F;simp at F;subst F
      refine⟨.int .u8 (b.toNat:Int),?_,by rw[RepC]⟩
      have hlt:j<s.length:=(Ak4.1 hb).1
      simp only[Akz,bytesRow]
      rw[Anj (by simp;exact hlt)]
      simp[hb],fun hp=>by simp at hp⟩
   exact⟨J',β',(Step.drew S).trans B1 (fun _ k _ _=>by rw[←DT];exact N7 _ _ k),B2⟩
  ·simp at hh
 ·simp at hh
theorem gd {t:TypeId} {n:Nat} (h:Bj P t=some n):∃ j,P.info? t=some j∧j.size=n:=by
 unfold Bj at h
 cases hq:P.info? t with
 | none=>rw[hq] at h;cases h
 | some j=>rw[hq] at h;simp at h;exact⟨j,rfl,h⟩
theorem pu {d:Nat} {src dst:TypeId} {x:AV} {vx:Value} {k:AV→D3→O R} (S:SimH J β h w) (K:Looks g h) (hh:YO P g d src dst x k=some r) (A:Rep J β h w x vx) :
  ∃ val ups,k val ups=some r∧(UpsFree d h ups→∃ u w',(convert src dst vx).run P w=.ok u w'∧OpDone J β h w ups val u w'):=by
 unfold YO at hh
 split at hh
 ·rename_i L
  split at hh
  ·rename_i t b off hs
   obtain⟨n,hn,hh⟩:=ub hh
   obtain⟨y,M,hh⟩:=ub hh
   obtain⟨F,hh⟩:=uc hh
   simp at F
   obtain⟨z,s⟩:=C1 K M
   have C:=A
   rw[Rep] at A
   obtain⟨x1,T,o1,⟨D,gm⟩,rfl,v⟩:=A
   rw[z] at D;simp at D;subst D
   rcases v with v | v
   ·rw[v] at s;cases s
   obtain⟨j,U,G⟩:=gd hn
   rcases S.blk b y z s gm with⟨e1,I⟩ | ⟨X,o2,cs,ty,fr,e1,I,e3,e4,Y⟩
   ·rw[v] at e1;cases e1
   ·rw[v] at e1;simp at e1;obtain⟨rfl,rfl⟩:=e1
    refine⟨_,_,hh,fun _=>⟨_,w,Lib.run_to_unsafe w ⟨T,o1+off,none⟩ hs L U (by rw[G];exact fun e=>by rw[e] at F;simp at F) (e:=ty) (cells:=cs.size) (by simp[World.shape?,I]) (by show o1+off<_;omega),J,β,Step.refl S,C⟩⟩
  ·cases hh
 ·rename_i u L
  split at hh
  ·rename_i b off hs
   obtain⟨n,hn,hh⟩:=ub hh
   obtain⟨y,M,hh⟩:=ub hh
   obtain⟨q,hq,hh⟩:=ub hh
   obtain⟨F,hh⟩:=uc hh
   simp at F
   obtain⟨z,s⟩:=C1 K M
   have C:=A
   rw[Rep] at A
   obtain⟨x1,T,o1,⟨D,gm⟩,rfl,v⟩:=A
   rw[z] at D;simp at D;subst D
   rcases v with v | v
   ·rw[v] at s;cases s
   obtain⟨j,U,G⟩:=gd hn
   rcases S.blk b y z s gm with⟨e1,I⟩ | ⟨X,o2,cs,ty,fr,e1,I,e3,e4,Y⟩
   ·rw[v] at e1;cases e1
   ·rw[v] at e1;simp at e1;obtain⟨rfl,rfl⟩:=e1
    obtain⟨rfl,rfl,V⟩:=e3.2 q.1 q.2 hq
    have V:cs.size=q.2:=by omega
    refine⟨_,_,hh,fun _=>⟨_,w,Lib.run_from_unsafe w ⟨T,0+off,none⟩ hs L U (e:=q.1) (cells:=cs.size) (by simp[World.shape?,I]) (by show liesAt P P.depth q.1 (cs.size/_) (0+off) u 1=true;rw[V,Akz];exact F.2.2),J,β,Step.refl S,C⟩⟩
  ·cases hh
 ·exact sC S K hh A
theorem uz {fn : Func} (b : fn.name = "internal/abi.NoEscape") : Extern.find fn = some Extern.AbiNoEscape.same := by
 have l1 : Extern.allGenericRows.lookup "internal/abi.NoEscape" = none := by kernel_rfl
 have l2 : Extern.allTypedRows.lookup "internal/abi.NoEscape" = none := by kernel_rfl
 have l3 : Extern.allRows.lookup "internal/abi.NoEscape" = some Extern.AbiNoEscape.same := by kernel_rfl
 unfold Extern.find
 simp only[b,l1,l2,l3]
 rfl
theorem ge {fn : Func} (b : fn.name = "internal/abi.NoEscape") (e : fn.origin = "") : Extern.findNext fn = none := by
 have l1 : Extern.allNextRows.lookup "internal/abi.NoEscape" = none := by kernel_rfl
 have l2 : Extern.allNextRows.lookup "" = none := by kernel_rfl
 unfold Extern.findNext
 simp only[b,e,l1,l2]
 rfl
theorem yg {f:Nat} (h:Aac P f=true) (x:Value) (w:World):(callFunc f #[x]).run P w=.ok (.value x) w:=by
 unfold Aac at h
 split at h
 ·rename_i fn e
  simp only[Ak1] at h
  obtain⟨j,hn,b⟩:=h
  have hn : fn.name = "internal/abi.NoEscape" := by simpa using hn
  have b : fn.origin = "" := by simpa using b
  rw[run_callFunc_extern e (by rw[hn];decide) j (ge hn b) (uz hn)]
  rfl
 ·cases h
theorem vA {x:AV} {b:UInt8} (h:p_ x=some b):x=.int .u8 (b.toNat:Int):=by
 unfold p_ at h
 split at h
 ·rename_i n
  obtain⟨j,e⟩:=uc h
  simp at e;subst e
  have:=of_decide_eq_true j
  rw[this]
 ·cases h
theorem IZ:∀ {c:LA} {s:Lu},IQ c=some s→c=s.map fun b=>.int .u8 (b.toNat:Int)
 | [],s,h=>by simp[IQ] at h;subst h;rfl
 | x::r,s,h=>by
  rw[IQ] at h
  obtain⟨b,e,h⟩:=ub h
  obtain⟨l,j,h⟩:=ub h
  simp at h;subst h
  rw[vA e,IZ j];rfl
theorem YW {d:Nat} {ts:Array TypeId} {ty:TypeId} {x:AV} {vx:Value} {k:AV→D3→O R} (S:SimH J β h w) (C:Looks g h) (hh:Qr g x k=some r) (s:Rep J β h w x vx) :
  ∃ val ups,k val ups=some r∧(UpsFree d h ups→∃ u w',(Builtin.unsafeSliceData_ ts ty #[vx]).run P w=.ok u w'∧OpDone J β h w ups val u w'):=by
 unfold Qr at hh
 split at hh
 ·rw[Rep] at s;subst s
  exact⟨_,_,hh,fun _=>⟨.pointer none,w,rfl,J,β,Step.refl S,by rw[Rep]⟩⟩
 ·rename_i b off n
  obtain⟨y,D,hh⟩:=ub hh
  obtain⟨hn,hh⟩:=uc hh
  have hn:0<n:=by simpa using hn
  obtain⟨j,q⟩:=C1 C D
  rw[Rep] at s
  obtain⟨z,A,cap,⟨v,gm⟩,rfl,G,e⟩:=s
  rw[j] at v;simp at v;subst v
  rcases e with e | ⟨F,o1,rfl,e⟩
  ·omega
  rcases e with e | ⟨e,_⟩
  ·rw[e] at q;cases q
  refine⟨_,_,hh,fun _=>⟨_,w,Lib.run_unsafeSliceData_row w ts ty _ n cap (by omega),J,β,Step.refl S,?_⟩⟩
  rw[Rep]
  exact⟨y,F,o1,⟨j,gm⟩,rfl,.inr e⟩
 ·cases hh
theorem YX {d:Nat} {t it ty:TypeId} {x n:AV} {vx vn:Value} {k:AV→D3→O R} (S:SimH J β h w) (hl:Looks g h) (hh:Qs P g t x n k=some r) (U:Rep J β h w x vx) (V:Rep J β h w n vn) :
  ∃ val ups,k val ups=some r∧(UpsFree d h ups→∃ u w',(Builtin.unsafeString_ #[t,it] ty #[vx,vn]).run P w=.ok u w'∧OpDone J β h w ups val u w'):=by
 unfold Qs at hh
 split at hh
 ·rename_i n
  obtain⟨hn,hh⟩:=uc hh
  have hn:n=0:=by simpa using hn
  subst hn
  simp only[Rep] at U V;subst U V
  exact⟨_,_,hh,fun _=>⟨_,w,Lib.run_unsafeString_none w t it ty none,J,β,Step.refl S,by rw[Rep];rfl⟩⟩
 ·rename_i b off n
  obtain⟨y,hy,hh⟩:=ub hh
  obtain⟨q,hq,hh⟩:=ub hh
  split at hh
  ·rename_i e he
   obtain⟨hc,hh⟩:=uc hh
   obtain⟨s,hs,hk⟩:=ub hh
   simp only[Ak1,Aof,decide_eq_true_eq] at hc
   obtain⟨c1,c2,c3,c4,c5,c6,c7,c8⟩:=hc
   have c1:=Ak0 c1
   have c2:=Ak0 c2
   have c5:=Ak0 c5
   obtain⟨A,C⟩:=C1 hl hy
   simp only[Rep] at U V;subst V
   obtain⟨z,K,o1,⟨g1,gm⟩,rfl,F⟩:=U
   rw[A] at g1;simp at g1;subst g1
   rcases F with F | F
   ·rw[F] at C;cases C
   rcases S.blk b y A C gm with⟨e1,I⟩ | ⟨k2,o2,cs,ty2,fr,e1,I,e3,e4,e5,e6⟩
   ·rw[F] at e1;cases e1
   rw[F] at e1;simp at e1;obtain⟨rfl,rfl⟩:=e1
   obtain⟨rfl,rfl,_⟩:=e3.2 q.1 q.2 hq
   subst c5
   have hsl:s.length=n.toNat:=by
    have:=congrArg List.length (IZ hs)
    simp at this;omega
   have hsn:(n:Int)=(s.length:Int):=by omega
   subst hsn
   refine⟨_,_,hk,fun _=>⟨.string ⟨s.toArray⟩,w.freeze ⟨K,0,none⟩ s.length,?_,J,β,?_,by rw[Rep]⟩⟩
   ·refine Lib.run_unsafeString_row w t it ty q.1 (by rw[c1];exact he) (by rw[c1];exact c2) K cs.size (by simp[World.shape?,I]) s (by intro e;subst e;simp at c6) (by omega) (by omega) fun j x X=>?_
    have hjl:j<s.length:=(Ak4.1 X).1
    have G:y.cells[j]?=some (.int .u8 (x.toNat:Int)):=by
     have Y:(y.cells.take (s.length:Int).toNat)[j]?=some (.int .u8 (x.toNat:Int)):=by rw[IZ hs];simp[X]
     rw[Al4] at Y
     split at Y
     ·exact Y
     ·cases Y
    obtain⟨u,D,L⟩:=By.1 (e5.1 c3) j _ G
    rw[RepC] at L;subst L
    have D:cs[j]?=some (.int .u8 (x.toNat:Int)):=by simpa using D
    by_cases ej:j=0
    ·subst ej;simp[World.cell?,Addr.add,I,D]
    ·simp[World.cell?,Addr.add,I,ej,D]
   ·have ap:Aj [(b,none)] h=Dp h b { y with dead:=true,pure:=true,cells:=[] }:=by simp[Aj,A]
    rw[ap]
    have v:s.length≠0:=by omega
    refine Step.giveUp S A C c4 F gm rfl (fun j X=>?_) (by simp[World.freeze,v]) (by simp[World.freeze,v]) (by simp[World.freeze,v]) (by simp[World.freeze,v]) ?_
    ·simp only[World.freeze]
     rw[if_neg v]
     show(w.heap.modify K _)[j]?=_
     rw[Amk,if_neg (fun e=>X e.symm)]
    ·obtain⟨lo,hi⟩:=fr
     have M:∃ T,(w.freeze ⟨K,0,none⟩ s.length).heap[K]?=some (.cells cs q.1 T):=⟨_,by simp[World.freeze,v,Amk,I];rfl⟩
     obtain⟨T,hf⟩:=M
     rw[Co I,Co hf];exact Akw _
  ·cases hh
 ·cases hh
end
end Gx
namespace Gx
open Go
def DU (CR:AV→Value→Prop) (c:LA) (cs:List Value):Prop:=c.length=cs.length∧∀ (j:Nat) (x:AV) (u:Value),c[j]?=some x→cs[j]?=some u→CR x u
def PartsRel (CR:AV→Value→Prop):List (Nat×LA)→List (Nat×Value)→Prop
 | [],vs=>vs=[]
 | (i,c)::r,vs=>∃ v vs',vs=(i,v)::vs'∧DU CR c v.cells.toList∧PartsRel CR r vs'
theorem xe:∀ (vs:List Value) (n off:Nat) (cells:Array Value) (j:Nat),
  ((vs.zipIdx n).foldl (fun (cs:Array Value) (p:Value×Nat)=>cs.setIfInBounds (off+p.2) p.1) cells)[j]?=if off+n≤j∧j<off+n+vs.length∧j<cells.size then vs[j - (off+n)]? else cells[j]?
 | [],n,off,cells,j=>by simp;omega
 | v::r,n,off,cells,j=>by
  rw[List.zipIdx_cons,Amx,xe r (n+1) off]
  simp only[Aok,Ak8]
  by_cases e:j=off+n
  ·subst e
   rw[if_neg (by omega)]
   by_cases b:off+n<cells.size
   ·rw[if_pos (by omega)];simp[b]
   ·rw[if_neg (by omega)];simp[b]
  ·by_cases b:off+(n+1)≤j∧j<off+(n+1)+r.length∧j<cells.size
   ·rw[if_pos b,if_pos (by omega),show j - (off+n)=(j - (off+(n+1)))+1 by omega];simp
   ·rw[if_neg b,if_neg (by omega),Anx (by omega)]
theorem S_:∀ (vs:List Value) (n off:Nat) (cells:Array Value),((vs.zipIdx n).foldl (fun (cs:Array Value) (p:Value×Nat)=>cs.setIfInBounds (off+p.2) p.1) cells).size=cells.size
 | [],_,_,_=>rfl
 | v::r,n,off,cells=>by rw[List.zipIdx_cons,Amx,S_ r];simp
theorem AT {CR:AV→Value→Prop} {place:Nat→Option (Nat×Nat)}:∀ {parts:List (Nat×LA)} {vparts:List (Nat×Value)} {c A:LA} {cs:Array Value},PartsRel CR parts vparts→DU CR c cs.toList →
  Mu place parts c=some A→∃ b,Instr.fill place cs vparts=some b∧DU CR A b.toList
 | [],vparts,c,A,cs,s,C,y=>by
  rw[PartsRel] at s;subst s
  simp[Mu] at y;subst y
  exact⟨cs,rfl,C⟩
 | (i,vs)::r,vparts,c,A,cs,s,C,y=>by
  rw[PartsRel] at s
  obtain⟨v,K,rfl,G,hr⟩:=s
  rw[Mu] at y
  obtain⟨p,F,L⟩:=ub y
  obtain⟨I,M⟩:=uc L
  simp at I
  obtain⟨V,X⟩:=I
  have e1:vs.length=v.cells.size:=by have:=G.1;simpa using this
  have O:c.length=cs.size:=by have:=C.1;simpa using this
  have z:p.1+vs.length≤c.length:=by omega
  have key:DU CR (setCells c p.1 vs) (v.cells.zipIdx.foldl (fun (cs:Array Value) (q:Value×Nat)=>cs.setIfInBounds (p.1+q.2) q.1) cs).toList:=by
   have e:v.cells.zipIdx.foldl (fun (cs:Array Value) (q:Value×Nat)=>cs.setIfInBounds (p.1+q.2) q.1) cs=(v.cells.toList.zipIdx 0).foldl (fun (cs:Array Value) (q:Value×Nat)=>cs.setIfInBounds (p.1+q.2) q.1) cs:=by
    rw[←Array.foldl_toList];simp
   rw[e]
   refine⟨by rw[Ns z,O];exact(S_ _ 0 _ _).symm,fun j x u D k=>?_⟩
   rw[DQ z] at D
   rw[Aoy,xe] at k
   simp only[Alt,Ane] at k
   split at D
   ·rename_i S
    rw[if_pos (by omega)] at k
    exact G.2 _ x u D k
   ·rename_i S
    rw[if_neg (by omega)] at k
    exact C.2 j x u D (by simpa using k)
  obtain⟨b,T,U⟩:=AT hr key M
  refine⟨b,?_,U⟩
  rw[Instr.fill,F]
  have:¬ (v.cells.size≠p.2||p.1+v.cells.size>cs.size)=true:=by simp;omega
  simp only[this]
  exact T
section
variable {R:Type} {r:R} {P:Program} {J J':Bool→Nat→Prop} {β:B5} {h:Ap} {w w':World} {g:A7}
def RepParts (J:Bool→Nat→Prop) (β:B5) (h:Ap) (w:World):List (Nat×AV)→List (Nat×Value)→Prop
 | [],vs=>vs=[]
 | (i,x)::r,vs=>∃ v vs',vs=(i,v)::vs'∧Rep J β h w x v∧RepParts J β h w r vs'
theorem RepParts.ext {β':B5} {h':Ap} (E:Ext J β h w J' β' h' w'):∀ {ps:List (Nat×AV)} {vs:List (Nat×Value)},RepParts J β h w ps vs→RepParts J' β' h' w' ps vs
 | [],_,hr=>hr
 | (i,x)::r,vs,hr=>by
  rw[RepParts] at hr ⊢
  obtain⟨v,b,e,j,k⟩:=hr
  exact⟨v,b,e,Rep.ext E j,RepParts.ext E k⟩
theorem PartsRel.mono {CR CR':AV→Value→Prop} (k:∀ x u,CR x u→CR' x u):∀ {ps:List (Nat×LA)} {vs:List (Nat×Value)},PartsRel CR ps vs→PartsRel CR' ps vs
 | [],_,hr=>hr
 | (i,c)::r,vs,hr=>by
  rw[PartsRel] at hr ⊢
  obtain⟨v,b,e,q,s⟩:=hr
  exact⟨v,b,e,⟨q.1,fun j x u y z=>k _ _ (q.2 j x u y z)⟩,PartsRel.mono k s⟩
theorem R4 {J:Nat→Prop} {c:LA} {us:List Value} (e:RepCs J w c (fun j=>us[j]?) 0) (k:c.length=us.length):DU (RepC J w) c us :=
 ⟨k,fun j x u q s=>by
  obtain⟨v,b,hr⟩:=e.at q
  rw[s] at b;simp at b;subst b;exact hr⟩
theorem OZ {J:Nat→Prop} {c:LA} {us:List Value} (b:DU (RepC J w) c us):RepCs J w c (fun j=>us[j]?) 0:=by
 rw[By]
 intro j x e
 have:j<us.length:=by rw[←b.1];exact(Ak4.1 e).1
 exact⟨us[j],by simp[this],b.2 j x _ e (Aky this)⟩
theorem GP:∀ {ps:List (Nat×AV)} {vs:List (Nat×Value)} {q:List (Nat×LA)} {ups:D3} {org:Bool} {J:Bool→Nat→Prop} {h:Ap},SimH J β h w→LooksS g h→AN g ps=some (q,ups,org)→RepParts J β h w ps vs →
  ∃ J',Step J β h w J' β (Aj ups h) w∧PartsRel (RepC (J' org) w) q vs∧LooksS g (Aj ups h)∧∀ b,A3 ups b=true→∃ x,g b=some x
 | [],vs,q,ups,org,J,h,S,y,hh,e=>by
  simp[AN] at hh;obtain⟨rfl,rfl,rfl⟩:=hh
  rw[RepParts] at e
  exact⟨J,Step.refl S,by rw[PartsRel];exact e,y,fun b j=>by simp[A3] at j⟩
 | (i,x)::r,vs,q,ups,org,J,h,S,y,hh,e=>by
  rw[AN] at hh
  obtain⟨⟨c1,u1,o1⟩,L,T⟩:=ub hh
  obtain⟨⟨V,u2,o2⟩,hq,M⟩:=ub T
  simp at M
  obtain⟨rfl,rfl,rfl⟩:=M
  rw[RepParts] at e
  obtain⟨v,z,rfl,C,D⟩:=e
  obtain⟨J1,A,hA,s,F⟩:=GO S y L C
  obtain⟨J2,B,hB,G,I⟩:=GP A.sim F hq (RepParts.ext A.ext D)
  refine⟨J2,by rw[B8];exact A.trans B (fun _ _ _ _=>Akw _),?_,by rw[B8];exact G,fun b j=>?_⟩
  ·rw[PartsRel]
   refine⟨v,z,rfl,R4 (RepCs.keep (J:=J1 o1) (w:=w) (fun k K=>MS B.sim.jft _ _ k (B.ext.jsub _ k K)) (fun _ _=>rfl) (fun _=>rfl) hA) s,?_⟩
   exact PartsRel.mono (fun x u U=>RepC.keep (J:=J2 o2) (w:=w) (fun k K=>g9 B.sim.jft _ _ k K) (fun _ _=>rfl) U) hB
  ·rw[Ha] at j
   cases O:A3 u1 b with
   | true=>exact lf L b O
   | false=>rw[O] at j;exact I b (by simpa using j)
theorem AU {place:Nat→Option (Nat×Nat)} {k:LA→O R}:∀ (ps:List (Nat×LA)) (c:LA),gQ place ps c k=(Mu place ps c).bind k
 | [],c=>rfl
 | (i,vs)::r,c=>by
  rw[gQ,Mu,Akv]
  congr 1;funext p
  rw[AU r]
  cases (beq vs.length p.2&&ble (p.1+p.2) c.length)<;>rfl
theorem TA {d len:Nat} {t:TypeId} {ps:List (Nat×AV)} {vs:List (Nat×Value)} {k:AV→D3→O R} (S:SimH J β h w) (X:Looks g h) (hh:Oh P g d t len ps k=some r) (hv:RepParts J β h w ps vs) :
  ∃ val ups,k val ups=some r∧(UpsFree d h ups→∃ u w',(Instr.buildSlice t len vs.toArray).run P w=.ok u w'∧OpDone J β h w ups val u w'):=by
 unfold Oh at hh
 split at hh
 ·rename_i el Y
  obtain⟨sz,b,h1⟩:=ub hh
  obtain⟨zz,hz,h2⟩:=ub h1
  obtain⟨⟨q,u1,o1⟩,hq,h3⟩:=ub h2
  obtain⟨hb,h4⟩:=uc h3
  rw[AU] at h4
  obtain⟨cells,hc,h5⟩:=ub h4
  simp at hb
  obtain⟨i,z,hi,I,rfl,K,e1,e2⟩:=Qv hz
  have e:i.size=sz:=by simp[Bj,hi] at b;exact b
  refine⟨_,_,h5,fun hn=>?_⟩
  replace hn:=hn.nid (by simp[Ha,O8,A3])
  obtain⟨J1,A,hA,_,C⟩:=GP S X.s hq hv
  have L:=DS (w:=w) (J:=J1 o1) K len (len*sz) (by rw[e1,e];exact Akw _)
  have M:DU (RepC (J1 o1) w) (Eg len (Kh z.cells.toList)) (madeCells z.cells (len*sz)).toList:=by
   refine R4 (RepCs.keep (J:=J1 o1) (w:=w) (fun _ T=>T) (fun _ _=>rfl) (fun j=>by simp) L) ?_
   rw[Fh,e2,e,Ane,size_madeCells]
  obtain⟨v,f1,f2⟩:=AT hA M hc
  have D:cells.length=len*sz:=by
   have:∀ {ps:List (Nat×LA)} {c G:LA},Mu (fun i=>some (i*sz,sz)) ps c=some G→G.length=c.length:=by
    intro ps
    induction ps with
    | nil=>intro c G F;simp[Mu] at F;rw[F]
    | cons p r ih =>
     intro c G F
     obtain⟨i,vs⟩:=p
     rw[Mu] at F
     obtain⟨p,hpl,g1⟩:=ub F
     obtain⟨gb,g2⟩:=uc g1
     simp at gb
     rw[ih g2,Ns (by omega)]
   rw[this hc,Fh,e2,e]
  have hcs:v.size=len*sz:=by have:=f2.1;simp at this;omega
  refine⟨.slice (some ⟨w.heap.size,0,none⟩) len len,w.alloc (.cells v el),?_,?_⟩
  ·have y:Instr.fill (fun i=>some (i*sz,sz)) ((Array.range (len*sz)).map (z.cells[·%z.cells.size]!)) vs=some v:=f1
   have U:¬ (16777216<len*sz):=by omega
   by_cases h0:len*sz=0
   ·have V:∀ (a:Array Value),(Array.range (len*sz)).map (a[·%a.size]!)=#[]:=fun a=>by rw[h0];simp[Array.range_zero']
    rw[V] at y
    simp[Instr.buildSlice,run_underlying Y,Ce b,h0,Array.range_zero',y,newRow]
   ·simp[Instr.buildSlice,run_underlying Y,Ce b,U,h0,zeroValue,typeInfo,hi,I,y,newRow]
  ·refine OpDone.after A (SZ (sz:=sz) (fr:=(0,0)) A.sim (xd X C hn) rfl rfl rfl FrTy.un0 D (by omega) (Akw _) ⟨fun _=>?_,fun K=>by simp at K⟩) (N7 _ _)
   have:=OZ f2
   exact RepCs.keep (J:=J1 o1) (w:=w) (fun _ T=>T) (fun _ _=>rfl) (fun j=>by simp) this
 ·simp at hh
theorem QX {t:TypeId} {ps:List (Nat×AV)} {k:AV→O R}:p8 P t ps k=(pZ P t ps).bind k:=by
 unfold p8 pZ
 rw[Akv]
 congr 1;funext place
 cases (ps.all fun p=>IP p.2) with
 | false=>rfl
 | true =>
  simp only[cond_true]
  cases (ps.any fun p=>DI p.2) with
  | true =>
   simp only[cond_true]
   cases (ps.any fun p=>gR p.2) with
   | true =>
    simp only[cond_true]
    rw[Akv]
    congr 1;funext z
    rw[AU]
    cases Mu place (Iu ps) z<;>rfl
   | false =>
    simp only[cond_false]
    rw[Akv]
    congr 1;funext z
    rw[AU]
    cases Mu place (Fc ps) z<;>rfl
  | false =>
   simp only[cond_false]
   rw[Akv]
   congr 1;funext z
   rw[AU]
   cases Mu place (Fc ps) z<;>rfl
theorem Aaj {x:AV} {u:Value} (hr:RepC (fun _=>False) w x u):Rep J β h w x u:=by
 have b:∀ o:Bool,RepC (J o) w x u:=fun o=>RepC.keep (J:=fun _=>False) (w:=w) (fun _ e=>e.elim) (fun _ _=>rfl) hr
 cases x
 case imm c n sz t org=>rw[Rep];exact b org
 case iptr c org=>rw[Rep];exact b org
 case fn f c =>
  cases c with
  | nil=>rw[RepC] at hr;subst hr;rw[Rep];exact⟨[],by simp,by rw[Reps]⟩
  | cons a l=>simp[RepC] at hr
 all_goals first | (rw[RepC] at hr;rw[Rep];exact hr) | simp[RepC] at hr
theorem YY {d len:Nat} {t:TypeId} {ps:List (Nat×AV)} {vs:List (Nat×Value)} {k:AV→D3→O R} (S:SimH J β h w) (hh:Qq P g d t len ps k=some r) (D:RepParts J β h w ps vs) :
  ∃ val ups,k val ups=some r∧(UpsFree d h ups→∃ u w',(Instr.buildSlice t len vs.toArray).run P w=.ok u w'∧OpDone J β h w ups val u w'):=by
 unfold Qq at hh
 split at hh
 ·rename_i el C
  obtain⟨sz,q,M⟩:=ub hh
  obtain⟨zz,hz,U⟩:=ub M
  obtain⟨V,h4⟩:=uc U
  obtain⟨cells,hc,h5⟩:=ub h4
  simp at V
  obtain⟨rfl,V,X⟩:=V
  obtain⟨i,z,hi,Y,rfl,hp,e1,e2⟩:=Qv hz
  have F:i.size=1:=by simp[Bj,hi] at q;exact q
  refine⟨_,_,h5,fun hn=>?_⟩
  replace hn:=hn.nid (by simp[O8,A3])
  have hz0:=DS (w:=w) (J:=fun _=>False) hp len (len*1) (by rw[e1,F];exact Akw _)
  have hz1:DU (fun x u=>Rep J β h w x u∧u.oneCell'=true) (Eg len (Kh z.cells.toList)) (madeCells z.cells (len*1)).toList:=by
   have hl:DU (RepC (fun _=>False) w) (Eg len (Kh z.cells.toList)) (madeCells z.cells (len*1)).toList:=by
    refine R4 (RepCs.keep (J:=fun _=>False) (w:=w) (fun _ hk=>hk) (fun _ _=>rfl) (fun j=>by simp) hz0) ?_
    rw[Fh,e2,F,Ane,size_madeCells]
   exact⟨hl.1,fun j x u hx C=>⟨Aaj (hl.2 j x u hx C),SY (hl.2 j x u hx C)⟩⟩
  have s:∀ {ps:List (Nat×AV)} {vs:List (Nat×Value)},L9 g (ps.map (·.2))=true→RepParts J β h w ps vs→PartsRel (fun x u=>Rep J β h w x u∧u.oneCell'=true) (ps.map fun p=>(p.1,[p.2])) vs:=by
   intro ps
   induction ps with
   | nil=>intro vs _ D;rw[RepParts] at D;rw[Anh,PartsRel];exact D
   | cons p r ih =>
    obtain⟨i,x⟩:=p
    intro vs hs D
    rw[RepParts] at D
    obtain⟨v,vs',rfl,M,U⟩:=D
    simp[L9] at hs
    rw[Ak9,PartsRel]
    refine⟨v,vs',rfl,?_,ih (by simpa using hs.2) U⟩
    have ho:=Mc hs.1 M
    have A:v.cells=#[v]:=by cases v<;>simp_all[Value.cells,Value.oneCell']
    rw[A]
    refine⟨rfl,fun j y u hy C=>?_⟩
    cases j with
    | zero=>simp at hy C;subst hy C;exact⟨M,ho⟩
    | succ j=>simp at hy
  obtain⟨b,f1,f2⟩:=AT (s X D) hz1 hc
  have G:cells.length=len*1:=by
   have:∀ {ps:List (Nat×LA)} {c T:LA},Mu (fun i=>some (i*1,1)) ps c=some T→T.length=c.length:=by
    intro ps
    induction ps with
    | nil=>intro c T I;simp[Mu] at I;rw[I]
    | cons p r ih =>
     intro c T I
     obtain⟨i,vs⟩:=p
     rw[Mu] at I
     obtain⟨p,hpl,g1⟩:=ub I
     obtain⟨gb,g2⟩:=uc g1
     simp at gb
     rw[ih g2,Ns (by omega)]
   rw[this hc,Fh,e2,F]
  have hcs:b.size=len*1:=by have:=f2.1;simp at this;omega
  refine⟨.slice (some ⟨w.heap.size,0,none⟩) len len,w.alloc (.cells b el),?_,?_⟩
  ·have e:Instr.fill (fun i=>some (i*1,1)) ((Array.range (len*1)).map (z.cells[·%z.cells.size]!)) vs=some b:=f1
   have K:¬ (16777216<len*1):=by omega
   by_cases h0:len*1=0
   ·have hme:∀ (a:Array Value),(Array.range (len*1)).map (a[·%a.size]!)=#[]:=fun a=>by rw[h0];simp[Array.range_zero']
    rw[hme] at e
    simp only[Ak6] at h0
    simp[Instr.buildSlice,run_underlying C,Ce q,h0,Array.range_zero',newRow]
    simp at e
    simp[e]
   ·simp only[Ak6] at e h0 K
    simp[Instr.buildSlice,run_underlying C,Ce q,K,h0,zeroValue,typeInfo,hi,Y,e,newRow]
  ·refine SZ (sz:=1) (fr:=(0,0)) S hn rfl rfl rfl FrTy.un0 G (by omega) (Akw _) ⟨fun hp=>by simp at hp,fun _ j y hj=>?_⟩
   have L:j<b.size:=by have:=(Ak4.1 hj).1;simp at this;omega
   have:=f2.2 j y b[j] hj (by simp[L])
   exact⟨b[j],by simp[L],this.1,this.2⟩
 ·simp at hh
theorem R5 {d:Nat}:∀ {l:List (Nat×Nat)} {j:Nat} {c:LA} {cs:List Value} {β:B5} {h:Ap},SimH J β h w→1≤j→j+l.length≤16→(∀ i,j≤i→i<16→A3 (Fs d l j c).2 (nid d+i)=true→Ai h (nid d+i)=none)→Reps J β h w c cs →
  ∃ β',Step J β h w J β' (Aj (Fs d l j c).2 h) w∧Reps J β' (Aj (Fs d l j c).2 h) w (Fs d l j c).1 cs
 | [],j,c,cs,β,h,S,_,_,_,hr=>⟨β,Step.refl S,hr⟩
 | (o,sz)::l,j,c,cs,β,h,S,O,I,v,hr=>by
  rw[Fs] at v ⊢
  split
  ·rename_i z
   simp only[z] at v
   simp at I
   have M:Ai h (nid d+j)=none:=v j (Akw _) (by omega) (by simp[A3])
   have A:=Step.newNone S (d:=nid d+j) (x:=Fo sz) M rfl
   have k:=Reps.ext A.ext hr
   rw[B6] at k
   have D:Reps J (fun b=>if b=nid d+j then none else β b) (Dp h (nid d+j) (Fo sz)) w (c.set o (.own (nid d+j) 0 0)) cs:=by
    rw[B6]
    refine⟨by rw[k.1];simp,fun i y u C K=>?_⟩
    by_cases hi:i=o
    ·subst hi
     have F:i<c.length:=(Ak4.1 z).1
     rw[List.getElem?_set_self F] at C;simp at C;subst C
     have L:=k.2 i _ u z K
     rw[Rep] at L;subst L
     rw[Rep]
     exact⟨Fo sz,none,0,⟨by simp[Ad],rfl⟩,rfl,Akw _,.inl rfl⟩
    ·rw[List.getElem?_set_ne (by omega)] at C
     exact k.2 i y u C K
   obtain⟨β',B,hB⟩:=R5 (d:=d) (l:=l) (j:=j+1) A.sim (by omega) (by omega) (fun i hi q s=>by
    have:=v i (by omega) q (by
     rw[A3]
     have:beq (nid d+j) (nid d+i)=false:=IE (by omega)
     rw[this];exact s)
    rw[Ad,if_neg (by omega)];exact this) D
   exact⟨β',by simp only[Aj];exact A.trans B (fun _ _ _ _=>Akw _),by simp only[Aj];exact hB⟩
  ·rename_i z
   have e:Fs d ((o,sz)::l) j c=Fs d l (j+1) c:=by
    rw[Fs]
    split
    ·rename_i G;exact absurd G (z ·)
    ·rfl
   simp at I
   split at v
   ·rename_i G;exact absurd G (z ·)
   ·exact R5 S (by omega) (by omega) (fun i hi q s=>v i (by omega) q s) hr
theorem vB {t:TypeId} {co:Bool} {d:Nat} {v:AV} {vc:Value} {k:AV→D3→O R} (S:SimH J β h w) (hh:ya P t co d v k=some r) (b:Rep J β h w v vc) :
  ∃ val ups,k val ups=some r∧(UpsFree d h ups→OpDone J β h w ups val vc w):=by
 unfold ya at hh
 split at hh
 ·rename_i c
  obtain⟨q,s⟩:=uc hh
  refine⟨_,_,s,fun u=>?_⟩
  rw[Rep] at b
  obtain⟨cs,rfl,hr⟩:=b
  obtain⟨β',A,hA⟩:=R5 (d:=d) (l:=O9 P t) (j:=1) S (Akw _) (by simp at q;omega) (fun i hi y e=>u _ e (by unfold AQ;simp;omega)) hr
  exact⟨J,β',A,by rw[Rep];exact⟨cs,rfl,hA⟩⟩
 ·exact⟨_,_,hh,fun _=>⟨J,β,Step.refl S,b⟩⟩
theorem bY {x:AV} {v:Value} (b:Rep J β h w x v) (z:DI x=false) (k:IP x=true):DU (Rep J β h w) (cellsOf x) v.cells.toList:=by
 have one:v.cells=#[v]→cellsOf x=[x]→DU (Rep J β h w) (cellsOf x) v.cells.toList:=fun C e=>by
  rw[C,e]
  refine⟨rfl,fun j y u q s=>?_⟩
  cases j with
  | zero=>simp at q s;subst q s;exact b
  | succ j=>simp at q
 cases x
 case pagg=>simp[DI] at z
 case agg c =>
  rw[Rep] at b
  obtain⟨cs,rfl,e⟩:=b
  rw[B6] at e
  exact⟨e.1.symm,e.2⟩
 case tup c=>simp[IP] at k
 case undef=>simp[IP] at k
 case omap=>simp[IP] at k
 case own=>rw[Rep] at b;obtain⟨_,A,cap,_,rfl,_⟩:=b;exact one rfl rfl
 case optr=>rw[Rep] at b;obtain⟨_,kk,o,_,rfl,_⟩:=b;exact one rfl rfl
 case fn=>rw[Rep] at b;obtain⟨cs,rfl,_⟩:=b;exact one rfl rfl
 case imm=>rw[Rep,RepC] at b;obtain⟨_,A,cap,rfl,_⟩:=b;exact one rfl rfl
 case iptr=>rw[Rep,RepC] at b;obtain⟨a,rfl,_⟩:=b;exact one rfl rfl
 all_goals (rw[Rep] at b;subst b;exact one rfl rfl)
theorem ny {x:AV} {v:Value} (j:∀ k,J false k→J true k) (e:Rep J β h w x v) (hr:QS x=false) {o:Bool} (q:pY x=true→o=true):RepC (J o) w x v:=by
 cases x<;>simp[QS] at hr
 case imm c n sz t org =>
  rw[Rep] at e
  refine RepC.keep (J:=J org) (w:=w) (fun k b=>?_) (fun _ _=>rfl) e
  cases org
  ·cases o
   ·exact b
   ·exact j k b
  ·rw[q rfl];exact b
 case iptr c org =>
  rw[Rep] at e
  refine RepC.keep (J:=J org) (w:=w) (fun k b=>?_) (fun _ _=>rfl) e
  cases org
  ·cases o
   ·exact b
   ·exact j k b
  ·rw[q rfl];exact b
 all_goals (rw[Rep] at e;rw[RepC];exact e)
theorem pv {x:AV} {v:Value} (z:∀ k,J false k→J true k) (q:Rep J β h w x v) (hr:gR x=false) {o:Bool} (A:bK x=true→o=true):DU (RepC (J o) w) (cellsOf x) v.cells.toList:=by
 have one:QS x=false→cellsOf x=[x]→bK x=pY x→DU (RepC (J o) w) (cellsOf x) v.cells.toList:=fun h0 b C=>by
  have I:=ny (o:=o) z q h0 (by rw[←C];exact A)
  have D:v.cells=#[v]:=by have:=SY I;cases v<;>simp_all[Value.cells,Value.oneCell']
  rw[D,b]
  refine⟨rfl,fun j y u e s=>?_⟩
  cases j with
  | zero=>simp at e s;subst e s;exact I
  | succ j=>simp at e
 cases x
 case pagg c org =>
  rw[Rep] at q
  obtain⟨cs,rfl,D,b⟩:=q
  refine R4 (RepCs.keep (J:=J org) (w:=w) (fun k F=>?_) (fun _ _=>rfl) (fun j=>by simp[Value.cells]) b) (by simp[Value.cells,cellsOf,D])
  cases org
  ·cases o
   ·exact F
   ·exact z k F
  ·rw[A rfl];exact F
 case agg c =>
  rw[Rep] at q
  obtain⟨cs,rfl,b⟩:=q
  rw[B6] at b
  refine⟨b.1.symm,fun j y u e s=>?_⟩
  simp only[gR,Aog] at hr
  have K:y ∈ c:=Ao5 e
  have G:QS y=false:=by simpa using hr y K
  refine ny z (b.2 j y u e s) G (fun C=>A ?_)
  rw[bK,List.any_eq_true];exact⟨y,K,C⟩
 all_goals first | exact one hr rfl rfl | simp[gR,QS] at hr
theorem yh {o:Bool} {x:AV} {v:Value} (hr:RepC (J o) w x v):Rep J β h w (rn o x) v:=by
 cases x
 case imm=>rw[rn,Rep];rw[RepC] at hr ⊢;exact hr
 case iptr=>rw[rn,Rep];rw[RepC] at hr ⊢;exact hr
 case fn f c =>
  cases c with
  | nil=>rw[RepC] at hr;subst hr;show Rep J β h w (.fn f []) _;rw[Rep];exact⟨[],by simp,by rw[Reps]⟩
  | cons a b=>simp[RepC] at hr
 all_goals first | (rw[RepC] at hr;unfold rn;rw[Rep];exact hr) | (simp[RepC] at hr)
theorem vC {x:AV} {v:Value} (k:Rep J β h w x v) (A:IP x=true):DU (Rep J β h w) (gS x) v.cells.toList:=by
 cases q:DI x with
 | false =>
  have:=bY k q A
  cases x<;>first | exact this | simp[DI] at q
 | true =>
  cases x<;>simp[DI] at q
  rename_i c o
  rw[Rep] at k
  obtain⟨cs,rfl,C,D⟩:=k
  refine⟨by simp[gS,Value.cells,C],fun j y u e z=>?_⟩
  simp only[gS,Am3] at e
  cases s:c[j]? with
  | none=>rw[s] at e;simp at e
  | some x0 =>
   rw[s] at e;simp at e;subst e
   obtain⟨F,b,hr⟩:=D.at s
   simp[Value.cells] at z
   rw[z] at b;simp at b;subst b
   exact yh hr
theorem I_ {CR:AV→Value→Prop}:∀ {ps:List (Nat×AV)} {vs:List (Nat×Value)},RepParts J β h w ps vs→(∀ p ∈ ps,∀ v,Rep J β h w p.2 v→DU CR (gS p.2) v.cells.toList)→PartsRel CR (Iu ps) vs
 | [],vs,hr,_=>by rw[RepParts] at hr;rw[Iu,PartsRel];exact hr
 | (i,x)::r,vs,hr,e=>by
  rw[RepParts] at hr
  obtain⟨v,b,rfl,j,k⟩:=hr
  rw[Iu,PartsRel]
  exact⟨v,b,rfl,e (i,x) (by simp) v j,I_ k (fun p q=>e p (by simp[q]))⟩
theorem Zt {CR:AV→Value→Prop}:∀ {ps:List (Nat×AV)} {vs:List (Nat×Value)},RepParts J β h w ps vs→(∀ p ∈ ps,∀ v,Rep J β h w p.2 v→DU CR (cellsOf p.2) v.cells.toList)→PartsRel CR (Fc ps) vs
 | [],vs,hr,_=>by rw[RepParts] at hr;rw[Fc,PartsRel];exact hr
 | (i,x)::r,vs,hr,e=>by
  rw[RepParts] at hr
  obtain⟨v,b,rfl,j,k⟩:=hr
  rw[Fc,PartsRel]
  exact⟨v,b,rfl,e (i,x) (by simp) v j,Zt k (fun p q=>e p (by simp[q]))⟩
theorem gf {t:TypeId} {place:Nat→Option (Nat×Nat)} {i:TypeInfo} {z:Value} {vs:List (Nat×Value)} {cs:Array Value} (b:SO P t=some place) (hi:P.info? t=some i) (q:i.zero=some z)
  (s:Instr.fill place z.cells vs=some cs):P.built t vs=some cs:=by
 unfold SO at b
 unfold Program.built
 split at b
 ·rename_i n e k
  cases j:P.info? e with
  | none=>simp[j] at b
  | some ie=>simp[j] at b;subst b;simp only[hi,k,q,j];exact s
 ·rename_i fs k
  cases j:fs.toList.mapM fun f=>(P.info? f.type).map fun i=>(f.offset,i.size) with
  | none=>rw[j] at b;simp at b
  | some pl =>
   rw[j] at b;simp at b;subst b
   simp only[hi,k,q,j]
   simpa using s
 ·simp at b
theorem pw {t:TypeId} {ps:List (Nat×AV)} {vs:List (Nat×Value)} {v:AV} (S:SimH J β h w) (hh:pZ P t ps=some v) (M:RepParts J β h w ps vs) :
  ∃ u,(Instr.build t vs.toArray).run P w=.ok u w∧Rep J β h w v u:=by
 unfold pZ at hh
 obtain⟨place,C,T⟩:=ub hh
 obtain⟨L,D⟩:=uc T
 cases F:ps.any (fun p=>DI p.2) with
 | true =>
  rw[F] at D
  cases G:ps.any (fun p=>gR p.2) with
  | true =>
   rw[G] at D
   obtain⟨zz,e,q⟩:=ub D
   unfold nf at e
   obtain⟨i,hi,e⟩:=ub e
   cases k:i.zero with
   | none=>rw[k] at e;simp at e
   | some z =>
    rw[k] at e;simp at e;subst e
    cases s:Mu place (Iu ps) (Kh z.cells.toList) with
    | none=>rw[s] at q;simp at q
    | some c =>
     rw[s] at q;simp at q;subst q
     have b:PartsRel (Rep J β h w) (Iu ps) vs:=I_ M (fun p I u K=>vC K (Ams.1 L p I))
     have A:DU (Rep J β h w) (Kh z.cells.toList) z.cells.toList:=by
      have:=MP (J:=J) (β:=β) (h:=h) (w:=w) z.cells.toList
      rw[B6] at this
      exact⟨this.1.symm,this.2⟩
     obtain⟨cs,f1,f2⟩:=AT b A s
     refine⟨.agg cs,run_build w t vs.toArray cs (gf C hi k (by simpa using f1)),?_⟩
     rw[Rep]
     exact⟨cs.toList,rfl,B6.2 ⟨f2.1.symm,f2.2⟩⟩
  | false =>
  rw[G] at D
  have U:=D
  obtain⟨zz,e,q⟩:=ub U
  obtain⟨i,z,hi,k,rfl,V,e1,e2⟩:=Qv e
  cases s:Mu place (Fc ps) (Kh z.cells.toList) with
  | none=>rw[s] at q;simp at q
  | some c =>
   rw[s] at q;simp at q;subst q
   have b:PartsRel (RepC (J (ps.any fun p=>bK p.2)) w) (Fc ps) vs:=Zt M (fun p I u K=>pv S.jft K (by
     have:=Aog.1 G p I;simpa using this) (fun X=>by rw[List.any_eq_true];exact⟨p,I,X⟩))
   have A:DU (RepC (J (ps.any fun p=>bK p.2)) w) (Kh z.cells.toList) z.cells.toList:=by
    refine⟨X2 _,fun j x u Y K=>?_⟩
    obtain⟨y,O,g2⟩:=QW (w:=w) (J:=J (ps.any fun p=>bK p.2)) V j u K
    rw[Y] at O;simp at O;subst O;exact g2
   obtain⟨cs,f1,f2⟩:=AT b A s
   refine⟨.agg cs,run_build w t vs.toArray cs (gf C hi k (by simpa using f1)),?_⟩
   rw[Rep]
   exact⟨cs.toList,rfl,f2.1.symm,OZ f2⟩
 | false =>
  rw[F] at D
  obtain⟨zz,e,q⟩:=ub D
  unfold nf at e
  obtain⟨i,hi,e⟩:=ub e
  cases k:i.zero with
  | none=>rw[k] at e;simp at e
  | some z =>
   rw[k] at e;simp at e;subst e
   cases s:Mu place (Fc ps) (Kh z.cells.toList) with
   | none=>rw[s] at q;simp at q
   | some c =>
    rw[s] at q;simp at q;subst q
    have b:PartsRel (Rep J β h w) (Fc ps) vs:=Zt M (fun p I u K=>bY K (by
      have:=Aog.1 F p I;simpa using this) (Ams.1 L p I))
    have A:DU (Rep J β h w) (Kh z.cells.toList) z.cells.toList:=by
     have:=MP (J:=J) (β:=β) (h:=h) (w:=w) z.cells.toList
     rw[B6] at this
     exact⟨this.1.symm,this.2⟩
    obtain⟨cs,f1,f2⟩:=AT b A s
    refine⟨.agg cs,run_build w t vs.toArray cs (gf C hi k (by simpa using f1)),?_⟩
    rw[Rep]
    exact⟨cs.toList,rfl,B6.2 ⟨f2.1.symm,f2.2⟩⟩
end
end Gx
namespace Gx
open Go
section
variable {R:Type} {r:R} {P:Program} {J:Bool→Nat→Prop} {β:B5} {h:Ap} {w:World}
def PRd (n:Nat) (x:LA) (rd:Nat→Option Value):Prop:=∀ j q,j<n→x[j]?=some q →
 (∀ k m,q=.int k m→rd j=some (.int k m))∧(∀ b,q=.bool b→rd j=some (.bool b))∧(∀ s,q=.str s→rd j=some (.string ⟨⟨s⟩⟩))
theorem PRd.drop {n m o:Nat} {x:LA} {xs:Array Value} {ox sz:Nat} (z:PRd sz x (fun j=>xs[ox+j]?)) (F:o+m≤sz) (hn:n=m):PRd n (x.drop o) (fun j=>(xs.extract ox (ox+sz))[o+j]?):=by
 subst hn
 intro j q G hq
 rw[Al8] at hq
 have u:=z (o+j) q (by omega) hq
 have e:∀ v,xs[ox+(o+j)]?=some v→(xs.extract ox (ox+sz))[o+j]?=some v:=by
  intro v y
  have A:=(Amb.1 y).1
  rw[Array.getElem?_extract,if_pos (by omega)];exact y
 exact⟨fun k m C=>e _ (u.1 k m C),fun b D=>e _ (u.2.1 b D),fun s hs=>e _ (u.2.2 s hs)⟩
theorem V8 {t:TypeId} {d:TypeDesc} {xs:Array Value} {ox:Nat} {v:Value} (b:P.underlying t=some d) (e:d.isRow=false) (j:xs[ox]?=some v):(part t xs ox).run P w=.ok v w:=by
 unfold part isAgg
 simp only[Sem.run_bind,run_underlying b,Result.andThen_ok]
 cases d<;>simp_all[TypeDesc.isRow]
theorem AW {t:TypeId} {d:TypeDesc} {xs:Array Value} {ox s:Nat} (b:P.underlying t=some d) (e:d.isRow=true) (hs:Bj P t=some s):(part t xs ox).run P w=.ok (.agg (xs.extract ox (ox+s))) w:=by
 unfold part isAgg
 have:=Ce hs w
 simp only[Sem.run_bind,run_underlying b,Result.andThen_ok]
 cases d<;>simp_all[TypeDesc.isRow]
def vD (P:Program) (w:World) (D:Nat) (step:TypeId→LA→LA→(Bool→O R)→O R):Prop :=
 ∀ (r:R) (t:TypeId) (s:Nat) (x y:LA) (k:Bool→O R) (xs ys:Array Value) (ox oy:Nat),Bj P t=some s→0<s→step t x y k=some r→PRd s x (fun j=>xs[ox+j]?)→PRd s y (fun j=>ys[oy+j]?) →
  ∃ b a a',k b=some r∧(part t xs ox).run P w=.ok a w∧(part t ys oy).run P w=.ok a' w∧(Op.equalIn D t a a').run P w=.ok b w
theorem GQ {D:Nat} {step:TypeId→LA→LA→(Bool→O R)→O R} (hs:vD P w D step) {x y:LA} {xs ys:Array Value} {ox oy sz:Nat} (z:PRd sz x (fun j=>xs[ox+j]?)) (A:PRd sz y (fun j=>ys[oy+j]?)) :
  ∀ (fs:List Field) {k:Bool→O R},fs.all (pV P sz)=true→AL step x y (fs.map fun f=>(f.offset,f.type)) k=some r →
  ∃ b,k b=some r∧(Op.eqFields D (xs.extract ox (ox+sz)) (ys.extract oy (oy+sz)) fs).run P w=.ok b w
 | [],k,_,hh=>⟨true,by simpa[AL] using hh,by simp[Op.eqFields]⟩
 | f::fs,k,v,hh=>by
  rw[Ale,Ak1] at v
  obtain⟨u,v⟩:=v
  unfold pV at u
  cases e:Bj P f.type with
  | none=>rw[e] at u;simp at u
  | some s =>
   rw[e] at u
   simp only[Ak1,Aov] at u
   obtain⟨S,C,F⟩:=u
   have q : f.name ≠ "_" := by simpa using F
   rw[Ak9,AL] at hh
   obtain⟨b,a,T,G,I,K,L⟩:=hs r f.type s _ _ _ (xs.extract ox (ox+sz)) (ys.extract oy (oy+sz)) f.offset f.offset e (by omega) hh (z.drop C rfl) (A.drop C rfl)
   obtain⟨c,e1,M⟩:=GQ hs z A fs v G
   refine⟨b&&c,e1,?_⟩
   rw[Op.eqFields,if_pos q]
   simp only[Sem.run_bind,I,K,L,Result.andThen_ok]
   cases b with
   | false=>simp
   | true=>simpa using M
theorem JA {D:Nat} {step:TypeId→LA→LA→(Bool→O R)→O R} (hs:vD P w D step) {x y:LA} {xs ys:Array Value} {ox oy sz:Nat} {e:TypeId} {s:Nat} (q:Bj P e=some s) (u:0<s) (v:PRd sz x (fun j=>xs[ox+j]?)) (z:PRd sz y (fun j=>ys[oy+j]?)) :
  ∀ (is:List Nat) {k:Bool→O R},(∀ i ∈ is,i*s+s≤sz)→AL step x y (is.map fun i=>(i*s,e)) k=some r →
  ∃ b,k b=some r∧(Op.eqItems D e s (xs.extract ox (ox+sz)) (ys.extract oy (oy+sz)) is).run P w=.ok b w
 | [],k,_,hh=>⟨true,by simpa[AL] using hh,by simp[Op.eqItems]⟩
 | i::is,k,A,hh=>by
  have C:=A i (by simp)
  rw[Ak9,AL] at hh
  obtain⟨b,a,S,F,G,I,K⟩:=hs r e s _ _ _ (xs.extract ox (ox+sz)) (ys.extract oy (oy+sz)) (i*s) (i*s) q u hh (v.drop C rfl) (z.drop C rfl)
  obtain⟨c,e1,L⟩:=JA hs q u v z is (fun j M=>A j (by simp[M])) F
  refine⟨b&&c,e1,?_⟩
  rw[Op.eqItems]
  simp only[Sem.run_bind,G,I,K,Result.andThen_ok]
  cases b with
  | false=>simp
  | true=>simpa using L
theorem QY:∀ (d D:Nat),d≤D→vD P w D (eg (R:=R) P d)
 | 0,D,_=>fun r t s x y k xs ys ox oy hs q hh=>by simp[eg] at hh
 | d+1,D,hD=>fun r t s x y k xs ys ox oy hs q hh O S=>by
  obtain⟨D,rfl⟩:∃ D',D=D'+1:=⟨D - 1,by omega⟩
  rw[eg] at hh
  split at hh
  ·rename_i M j
   obtain⟨u,A,hh⟩:=ub hh
   obtain⟨a,F,hh⟩:=ub hh
   obtain⟨v,C,hh⟩:=ub hh
   obtain⟨b,G,hh⟩:=ub hh
   have T:u=.int M a:=by
    unfold IL at F;split at F
    ·obtain⟨U,V⟩:=uc F;simp[Kz] at U V;subst U V;rfl
    ·simp at F
   have eb:v=.int M b:=by
    unfold IL at G;split at G
    ·obtain⟨U,X⟩:=uc G;simp[Kz] at U X;subst U X;rfl
    ·simp at G
   have px:=(O 0 u q (by rw[←Ali];exact A)).1 M a T
   have py:=(S 0 v q (by rw[←Ali];exact C)).1 M b eb
   exact⟨_,_,_,hh,V8 j rfl (by simpa using px),V8 j rfl (by simpa using py),run_equalIn_int w D t M M a b j⟩
  ·rename_i j
   obtain⟨u,A,hh⟩:=ub hh
   obtain⟨a,F,hh⟩:=ub hh
   obtain⟨v,C,hh⟩:=ub hh
   obtain⟨b,G,hh⟩:=ub hh
   have T:u=.bool a:=by unfold asBool at F;split at F<;>simp_all
   have eb:v=.bool b:=by unfold asBool at G;split at G<;>simp_all
   have px:=(O 0 u q (by rw[←Ali];exact A)).2.1 a T
   have py:=(S 0 v q (by rw[←Ali];exact C)).2.1 b eb
   exact⟨_,_,_,hh,V8 j rfl (by simpa using px),V8 j rfl (by simpa using py),run_equalIn_bool' w D t a b j⟩
  ·rename_i j
   obtain⟨u,A,hh⟩:=ub hh
   obtain⟨a,F,hh⟩:=ub hh
   obtain⟨v,C,hh⟩:=ub hh
   obtain⟨b,G,hh⟩:=ub hh
   have T:u=.str a:=by unfold bI at F;split at F<;>simp_all
   have eb:v=.str b:=by unfold bI at G;split at G<;>simp_all
   have px:=(O 0 u q (by rw[←Ali];exact A)).2.2 a T
   have py:=(S 0 v q (by rw[←Ali];exact C)).2.2 b eb
   refine⟨_,_,_,hh,V8 j rfl (by simpa using px),V8 j rfl (by simpa using py),?_⟩
   have:=run_equalIn_string w D t ⟨⟨a⟩⟩ ⟨⟨b⟩⟩ j
   rw[this]
   simp[ByteArray.toList_eq]
  ·rename_i fs j
   obtain⟨sz,z,hh⟩:=ub hh
   obtain⟨Y,K⟩:=uw hh
   simp only[Bool.or_eq_false_iff,Bool.not_eq_false'] at Y
   rw[hs] at z;simp at z;subst z
   obtain⟨b,h1,h2⟩:=GQ (QY d D (by omega)) O S fs.toList Y.2 K
   refine⟨b,_,_,h1,AW j rfl hs,AW j rfl hs,?_⟩
   have hfo:P.fieldsOf t=fs:=by simp[Program.fieldsOf,j]
   rw[run_equalIn_struct w D t _ _ (by rw[hfo];exact j) Y.1,hfo]
   exact h2
  ·rename_i n e j
   obtain⟨s',I,hh⟩:=ub hh
   obtain⟨sz,z,hh⟩:=ub hh
   obtain⟨Y,K⟩:=uc hh
   simp only[Ak1,Aov] at Y
   rw[hs] at z;simp at z;subst z
   obtain⟨b,h1,h2⟩:=JA (QY d D (by omega)) I (by omega) O S (List.range n) (fun i hi=>by
    have:=List.mem_range.1 hi
    have h3:(i+1)*s'≤n*s':=Alg _ this
    rw[Anw] at h3;omega) K
   refine⟨b,_,_,h1,AW j rfl hs,AW j rfl hs,?_⟩
   cases hi:P.info? e with
   | none=>simp[Bj,hi] at I
   | some i =>
    have L:P.cellsOf e=s':=by simp[Bj,hi] at I;simp[Program.cellsOf,hi,I]
    rw[run_equalIn_array w D _ _ j hi,L]
    exact h2
  ·simp at hh
theorem sD {c:LA} {org:Bool} {v:Value} {a:LA} {x:AV} (z:pW x=some a) (hr:Rep J β h w x v):∃ cs:List Value,v=.agg ⟨cs⟩∧cs.length=a.length∧∀ n,PRd n a (fun j=>(⟨cs⟩:Array Value)[0+j]?):=by
 unfold pW at z
 split at z
 ·simp at z;subst z
  rw[Rep] at hr
  obtain⟨cs,D,A,I⟩:=hr
  refine⟨cs,D,A,fun n j q _ hq=>?_⟩
  rw[By] at I
  obtain⟨u,C,e⟩:=I j q hq
  simp only[Akz] at C ⊢
  refine⟨fun k m F=>?_,fun b G=>?_,fun s hs=>?_⟩
  ·subst F;rw[RepC] at e;subst e;simpa using C
  ·subst G;rw[RepC] at e;subst e;simpa using C
  ·subst hs;rw[RepC] at e;subst e;simpa using C
 ·simp at z;subst z
  rw[Rep] at hr
  obtain⟨cs,D,A⟩:=hr
  rw[B6] at A
  refine⟨cs,D,A.1,fun n j q _ hq=>?_⟩
  have y:j<cs.length:=by rw[A.1];exact(Ak4.1 hq).1
  have e:=A.2 j q cs[j] hq (Aky y)
  simp only[Akz]
  refine⟨fun k m F=>?_,fun b G=>?_,fun s hs=>?_⟩
  ·subst F;rw[Rep] at e;simp[y,e]
  ·subst G;rw[Rep] at e;simp[y,e]
  ·subst hs;rw[Rep] at e;simp[y,e]
 ·simp at z
theorem sE {op:BinOp} {t:TypeId} {x y:AV} {k:AV→O R} {vx vy:Value} (hh:na P t op x y k=some r) (D:Rep J β h w x vx) (F:Rep J β h w y vy) (ox oy:Operand) :
  ∃ v vc,k v=some r∧(do eqGuard op t ox oy vx vy;binOp op t vx vy:Sem Value).run P w=.ok vc w∧Rep J β h w v vc:=by
 unfold na at hh
 split at hh
 ·rename_i a b T U
  obtain⟨s,hs,hh⟩:=ub hh
  obtain⟨G,hh⟩:=uc hh
  simp only[Ak1,Aov,Aof] at G
  obtain⟨h1,I,K,q,V⟩:=G
  have I:=Ak0 I
  have K:=Ak0 K
  obtain⟨cs,rfl,L,px⟩:=sD (c:=[]) (org:=false) T D
  obtain⟨j,rfl,X,py⟩:=sD (c:=[]) (org:=false) U F
  have M:=run_eqGuard_agg w op t ox oy ⟨cs⟩ ⟨j⟩ V
  have whole:∀ (l:List Value),l.length=s→(⟨l⟩:Array Value).extract 0 (0+s)=⟨l⟩:=by
   intro l L;subst L;simp
  have key:∀ {kk:Bool→O R},eg P 8 t a b kk=some r→∃ c,kk c=some r∧(Op.equal t (.agg ⟨cs⟩) (.agg ⟨j⟩)).run P w=.ok c w:=by
   intro kk Y
   obtain⟨c,u,u',e1,z,e3,e4⟩:=QY 8 10000 (by omega) r t s a b kk ⟨cs⟩ ⟨j⟩ 0 0 hs (by omega) Y (px s) (py s)
   refine⟨c,e1,?_⟩
   have C:∃ d,P.underlying t=some d∧d.isRow=true:=by
    unfold zu at q
    split at q
    ·rename_i fs A;exact⟨_,A,rfl⟩
    ·rename_i n e A;exact⟨_,A,rfl⟩
    ·simp at q
   obtain⟨d,A,S⟩:=C
   rw[AW A S hs,whole cs (by omega)] at z
   rw[AW A S hs,whole j (by omega)] at e3
   simp only[Result.ok.injEq,and_true] at z e3
   subst z e3
   exact e4
  split at hh
  ·obtain⟨c,e1,z⟩:=key hh
   refine⟨_,.bool c,e1,?_,by rw[Rep]⟩
   simp only[Sem.run_bind,M,Result.andThen_ok,binOp,z,Sem.run_pure]
  ·obtain⟨c,e1,z⟩:=key hh
   refine⟨_,.bool (!c),e1,?_,by rw[Rep]⟩
   simp only[Sem.run_bind,M,Result.andThen_ok,binOp,z,Sem.run_pure]
  ·simp at hh
 ·exact uv hh D F ox oy
theorem sF {t:TypeId} {x y:AV} {b:Bool} {vx vy:Value} {g:A7} (S:SimH J β h w) (T:Looks g h) (j:Aab g x y=some b) (C:ur P t=true) (s:Rep J β h w x vx) (u:Rep J β h w y vy) :
  ∃ p q,vx=.pointer p∧vy=.pointer q∧(Op.equal t (.pointer p) (.pointer q)).run P w=.ok b w:=by
 unfold ur at C
 split at C
 ·rename_i e D
  split at C
  ·rename_i n hn
   have I:n≠0:=fun e=>by subst e;simp at C
   have D:=run_underlying (w:=w) D
   have hs:(Go.sizeOf e).run P w=.ok n w:=Ce hn w
   have nn:∀ q:Option Addr,(Op.equal t (.pointer none) (.pointer q)).run P w=.ok q.isNone w:=fun q=>by
    unfold Op.equal Op.maxDepth Op.equalIn;simp[D]
   have F:∀ a:Addr,(Op.equal t (.pointer (some a)) (.pointer none)).run P w=.ok false w:=fun q=>by
    unfold Op.equal Op.maxDepth Op.equalIn;simp[D]
   unfold Aab at j
   split at j
   ·simp only[Rep] at s u;subst s u;simp at j;subst j;exact⟨_,_,rfl,rfl,nn none⟩
   ·simp only[Rep] at s u;obtain⟨_,k,o,_,rfl,_⟩:=u;subst s;simp at j;subst j;exact⟨_,_,rfl,rfl,nn (some _)⟩
   ·simp only[Rep] at s u;obtain⟨_,k,o,_,rfl,_⟩:=s;subst u;simp at j;subst j;exact⟨_,_,rfl,rfl,F _⟩
   ·simp only[Rep] at s u;rw[RepC] at u;obtain⟨a,rfl,_⟩:=u;subst s;simp at j;subst j;exact⟨_,_,rfl,rfl,nn (some _)⟩
   ·simp only[Rep] at s u;rw[RepC] at s;obtain⟨a,rfl,_⟩:=s;subst u;simp at j;subst j;exact⟨_,_,rfl,rfl,F _⟩
   ·rename_i V o1 X o2
    obtain⟨z,U,j⟩:=ub j
    obtain⟨K,j⟩:=uc j
    have K:=Ak0 K
    subst K
    obtain⟨L,v⟩:=C1 T U
    rw[Rep] at s u
    obtain⟨x1,Y,p1,⟨M,_⟩,rfl,G⟩:=s
    obtain⟨x2,k2,p2,⟨O,_⟩,rfl,A⟩:=u
    rw[L] at M O;simp at M O;subst M O
    rcases G with G | G
    ·rw[G] at v;cases v
    ·rcases A with A | A
     ·rw[A] at v;cases v
     ·rw[G] at A;simp at A;obtain⟨rfl,rfl⟩:=A
      refine⟨_,_,rfl,rfl,?_⟩
      simp at j
      unfold Op.equal Op.maxDepth Op.equalIn
      simp[D,hs,I,sameAddr]
      by_cases e:o1=o2
      ·subst e;simp at j;simp[j]
      ·rw[IE e] at j;subst j;simp;exact e
   ·cases j
  ·cases C
 ·cases C
theorem sG {g:A7} {op:BinOp} {t:TypeId} {x y:AV} {k:AV→O R} {vx vy:Value} (S:SimH J β h w) (u:Looks g h) (hh:np P g t op x y k=some r) (e:Rep J β h w x vx) (j:Rep J β h w y vy) (ox oy:Operand) :
  ∃ v vc,k v=some r∧(do eqGuard op t ox oy vx vy;binOp op t vx vy:Sem Value).run P w=.ok vc w∧Rep J β h w v vc:=by
 unfold np at hh
 split at hh
 ·rename_i b z
  obtain⟨A,hh⟩:=uc hh
  obtain⟨p,q,rfl,rfl,s⟩:=sF S u z A e j
  split at hh
  ·refine⟨_,.bool b,hh,?_,by rw[Rep]⟩
   simp[eqGuard,binOp,s]
  ·refine⟨_,.bool (!b),hh,?_,by rw[Rep]⟩
   simp[eqGuard,binOp,s]
  ·cases hh
 ·exact sE hh e j ox oy
end
end Gx
namespace Gx
open Go Go.MapKept
section
variable {R:Type} {r:R} {P:Program} {J:Bool→Nat→Prop} {β:B5} {h:Ap} {w:World} {g:A7}
theorem YZ:∀ (l:List Int) (n:Int),gT (l.map fun m=>.int .i64 m) n=true↔n ∈ l
 | [],n=>by simp[gT]
 | m::r,n=>by
  rw[Ak9,gT]
  by_cases e:n=m
  ·simp[e]
  ·simp[e,YZ r n]
theorem sH {c:LA} {es:Array MapEntry} {l:List Int} (j:es.toList.map (fun e=>(e.key,e.val))=l.map (fun n=>((.int .i64 n:Value),(.bool true:Value)))) {x:MapEntry} (k:x ∈ es.toList):∃ n,n ∈ l∧x.key=.int .i64 n∧x.val=.bool true:=by
 have:=Apb (f:=fun e:MapEntry=>(e.key,e.val)) k
 rw[j] at this
 obtain⟨n,hn,b⟩:=Als.1 this
 simp at b
 exact⟨n,hn,b.1.symm,b.2.symm⟩
theorem Aak {es:Array MapEntry} {l:List Int} (j:es.toList.map (fun e=>(e.key,e.val))=l.map (fun n=>((.int .i64 n:Value),(.bool true:Value)))) {n:Int} (hn:n ∈ l):∃ x ∈ es.toList,x.key=.int .i64 n:=by
 have:=Apb (f:=fun n:Int=>((.int .i64 n:Value),(.bool true:Value))) hn
 rw[←j] at this
 obtain⟨x,k,b⟩:=Als.1 this
 simp at b
 exact⟨x,k,b.1⟩
theorem sI {c:LA} {es:Array MapEntry} (F:Ae6 c es) (n:Int) :
  (gT c n=false∧Instr.findNow (.int .i64) (.int .i64 n) es.toList 0=some none) ∨
  (gT c n=true∧∃ j e,Instr.findNow (.int .i64) (.int .i64 n) es.toList 0=some (some (j,.bool true))∧es[j]?=some e∧e.key=.int .i64 n∧e.val=.bool true):=by
 obtain⟨l,rfl,y⟩:=F
 have z:∀ x ∈ es.toList,IsKey (.int .i64) x.key:=fun x A=>by
  obtain⟨m,_,q,_⟩:=sH (c:=[]) y A
  rw[q];simp[IsKey]
 rcases findNow_spec (d:=.int .i64) (k:=.int .i64 n) (by simp[IsKey]) es.toList 0 z with⟨q,v⟩ | ⟨j,e,q,v,D⟩
 ·left
  refine⟨?_,q⟩
  cases G:gT (l.map fun m=>.int .i64 m) n with
  | false=>rfl
  | true =>
   obtain⟨x,A,I⟩:=Aak y ((YZ l n).1 G)
   exact absurd I (v x A)
 ·right
  have s:e ∈ es.toList:=Ao5 v
  obtain⟨m,C,b,u⟩:=sH (c:=[]) y s
  rw[D] at b;simp at b;subst b
  refine⟨(YZ l n).2 C,j,e,?_,by simpa using v,D,u⟩
  rw[q,u,Akz]
theorem gh {t:TypeId} (hs:pa P t=true):∃ kt et,P.underlying t=some (.map kt et)∧P.underlying kt=some (.int .i64)∧∀ w,(zeroValue et).run P w=.ok (.bool false) w:=by
 unfold pa at hs
 split at hs
 ·rename_i kt et q
  simp only[Ak1] at hs
  obtain⟨j,k⟩:=hs
  refine⟨kt,et,q,?_,fun w=>?_⟩
  ·split at j
   ·assumption
   ·cases j
  ·split at k
   ·rename_i b
    unfold gO at b
    cases hi:P.info? et with
    | none=>rw[hi] at b;simp at b
    | some i =>
     rw[hi] at b
     cases e:i.zero with
     | none=>simp[e] at b
     | some z =>
      simp[e] at b
      have:z=.bool false:=by
       have h0:=DO (J:=fun _ _=>False) (β:=fun _=>none) (h:=[]) (w:=w) z
       rw[b,Rep] at h0;exact h0
      subst this
      simp[zeroValue,typeInfo,hi,e]
   ·cases k
 ·cases hs
theorem Aal {b:Nat} {x:Blk} {v:Value} (S:SimH J β h w) (q:Ai h b=some x) (s:x.dead=false) (hr:Rep J β h w (.omap b) v) :
  ∃ k ob,x.mp=true∧β b=some (k,0)∧v=Af5 x.sz k∧w.heap[k]?=some ob∧ObjIs x ob∧x.sealed=false∧x.pure=true:=by
 rw[Rep] at hr
 obtain⟨y,k,⟨e,u⟩,hr⟩:=hr
 rw[q] at e;simp at e;subst e
 rcases hr with hr | ⟨z,A⟩
 ·simp[s] at hr
 ·obtain⟨C,D,I,ob,j,F,G,_⟩:=S.mblk b x q s u
  rw[z] at j;simp at j;subst j
  exact⟨k,ob,u,z,A,F,G,D,C⟩
theorem xf {b:Nat} {x:Blk} {v:Value} (S:SimH J β h w) (q:Ai h b=some x) (s:x.dead=false) (u:x.sz=0) (hr:Rep J β h w (.omap b) v) :
  ∃ k es clk,x.mp=true∧β b=some (k,0)∧v=.map (some k)∧w.heap[k]?=some (.map es clk)∧Ae6 x.cells es∧x.sealed=false∧x.pure=true:=by
 obtain⟨k,ob,y,z,j,A,e,C,D⟩:=Aal S q s hr
 rw[u] at j
 rcases e with⟨_,es,clk,rfl,e⟩ | ⟨e,_⟩
 ·exact⟨k,es,clk,y,z,j,A,e,C,D⟩
 ·omega
theorem Ac8 {b:Nat} {x:Blk} {v:Value} (S:SimH J β h w) (q:Ai h b=some x) (u:x.dead=false) (y:x.sz=1) (hr:Rep J β h w (.omap b) v) :
  ∃ k s pos,x.mp=true∧β b=some (k,0)∧v=.pointer (some ⟨k,0,none⟩)∧w.heap[k]?=some (.stringIter ⟨⟨s⟩⟩ pos)∧x.cells=[.str s,.int .i64 (pos:Int)]∧x.sealed=false∧x.pure=true:=by
 obtain⟨k,ob,z,A,j,C,e,D,F⟩:=Aal S q u hr
 rw[y] at j
 rcases e with⟨e,_⟩ | ⟨_,s,pos,rfl,e⟩
 ·omega
 ·exact⟨k,s,pos,z,A,j,C,e,D,F⟩
theorem GR {k pos:Nat} {s:ByteArray} (b:w.heap[k]?=some (.stringIter s pos)):(getObj k).run P w=.ok (.stringIter s pos) w:=by
 simp[getObj,Sem.run,b]
theorem eh {k pos:Nat} {s:ByteArray} (ob:Obj) (b:w.heap[k]?=some (.stringIter s pos)):(setObj k ob).run P w=.ok () { w with heap:=w.heap.setIfInBounds k ob }:=by
 simp[setObj,Sem.run,b]
theorem qA {d:Nat} {t:TypeId} {x:AV} {vx:Value} {k:AV→D3→O R} (S:SimH J β h w) (hh:YQ P d t x k=some r) (b:Rep J β h w x vx) :
  ∃ val ups,k val ups=some r∧(UpsFree d h ups→∃ vc w',(Instr.range t vx).run P w=.ok vc w'∧OpDone J β h w ups val vc w'):=by
 unfold YQ at hh
 split at hh
 ·rename_i s e
  rw[Rep] at b;subst b
  refine⟨_,_,hh,fun j=>⟨.pointer (some ⟨w.heap.size,0,none⟩),w.alloc (.stringIter ⟨⟨s⟩⟩ 0),?_,?_⟩⟩
  ·simp only[Instr.range,Sem.run_bind,run_underlying e,Result.andThen_ok,Sem.run_pure];rfl
  have A:=Step.newObj (x:={ dead:=false,sealed:=false,pure:=true,taint:=false,sz:=1,cells:=[.str s,.int .i64 0],mp:=true }) (ob:=.stringIter ⟨⟨s⟩⟩ 0) S (j.nid (by simp[A3])) rfl rfl rfl (.inr ⟨rfl,s,0,rfl,rfl⟩) rfl
  refine⟨_,_,A,?_⟩
  rw[Rep]
  exact⟨{ dead:=false,sealed:=false,pure:=true,taint:=false,sz:=1,cells:=[.str s,.int .i64 0],mp:=true },w.heap.size,⟨by simp[Aj,Ad],rfl⟩,.inr ⟨by simp,rfl⟩⟩
 ·simp at hh
theorem sJ {d:Nat} {t:TypeId} {it:AV} {b:Bool} {vi:Value} {k:AV→D3→O R} (S:SimH J β h w) (L:Looks g h) (hh:nm g it b k=some r) (hi:Rep J β h w it vi) :
  ∃ val ups,k val ups=some r∧(UpsFree d h ups→∃ vc w',(Instr.next vi b t).run P w=.ok vc w'∧OpDone J β h w ups val vc w'):=by
 unfold nm at hh
 split at hh
 ·rename_i M
  obtain⟨x,T,U⟩:=ub hh
  obtain⟨I,u⟩:=uc U
  simp only[Ak1] at I
  obtain⟨v,z⟩:=I
  have z:=Ak0 z
  obtain⟨K,A⟩:=C1 L T
  obtain⟨kk,s,pos,_,V,rfl,y,C,D,F⟩:=Ac8 S K A z hi
  rw[C] at u
  simp only at u
  have G:=Pa y
  cases e:decide ((pos:Int)<(s.length:Int)) with
  | true =>
   rw[e] at u
   have e:pos<s.length:=by have:=of_decide_eq_true e;omega
   have q:pos<(⟨⟨s⟩⟩:ByteArray).size:=e
   refine⟨_,_,u,fun _=>⟨.tuple #[.bool true,goInt pos,.int .i32 ((yb s pos).1:Nat)],{ w with heap:=w.heap.setIfInBounds kk (.stringIter ⟨⟨s⟩⟩ (pos+(yb s pos).2)) },?_,J,β,?_,?_⟩⟩
   ·simp[Instr.next,GR y,q,eh _ y,yb]
   ·show Step J β h w J β (Dp h M _) _
    refine Step.setObj (ob:=.stringIter ⟨⟨s⟩⟩ pos) S K A v V y (by simp[G]) (fun j X=>by simp[Amn,Ne.symm X]) (by simp) rfl rfl rfl (.inr ⟨z,s,pos+(yb s pos).2,rfl,by simp⟩) A D F rfl v
   ·rw[Rep]
    refine⟨_,rfl,?_⟩
    simp[Reps,Rep,goInt]
  | false =>
   rw[e] at u
   have e:¬ pos<s.length:=by have:=of_decide_eq_false e;omega
   have q:¬ pos<(⟨⟨s⟩⟩:ByteArray).size:=e
   refine⟨_,_,u,fun _=>⟨.tuple #[.bool false],w,?_,J,β,Step.refl S,?_⟩⟩
   ·simp[Instr.next,GR y,q]
   ·rw[Rep]
    refine⟨_,rfl,?_⟩
    simp[Reps,Rep]
 ·simp at hh
theorem gi {d:Nat} {t:TypeId} {k:AV→D3→O R} (S:SimH J β h w) (hh:Wh d none k=some r) :
  ∃ val ups,k val ups=some r∧(UpsFree d h ups→∃ vc w',(Instr.makeMap t none).run P w=.ok vc w'∧OpDone J β h w ups val vc w'):=by
 unfold Wh at hh
 refine⟨_,_,hh,fun b=>⟨.map (some w.heap.size),w.alloc (.map #[] 0),rfl,?_⟩⟩
 have A:=Step.newObj (x:={ dead:=false,sealed:=false,pure:=true,taint:=false,sz:=0,cells:=[],mp:=true }) (ob:=.map #[] 0) S (b.nid (by simp[A3])) rfl rfl rfl (.inl ⟨rfl,#[],0,rfl,[],rfl,by simp⟩) rfl
 refine⟨_,_,A,?_⟩
 rw[Rep]
 exact⟨{ dead:=false,sealed:=false,pure:=true,taint:=false,sz:=0,cells:=[],mp:=true },w.heap.size,⟨by simp[Aj,Ad],rfl⟩,.inr ⟨by simp,rfl⟩⟩
theorem sK {t:TypeId} {m key:AV} {c:Bool} {vm vk:Value} {k:AV→O R} (S:SimH J β h w) (C:Looks g h) (hh:nk P g t m key c k=some r) (D:Rep J β h w m vm) (s:Rep J β h w key vk) :
  ∃ v vc,k v=some r∧(Instr.lookup t vm vk c).run P w=.ok vc w∧Rep J β h w v vc:=by
 unfold nk at hh
 split at hh
 ·rename_i b n
  obtain⟨hs,F⟩:=uc hh
  obtain⟨x,G,I⟩:=ub F
  obtain⟨q,K⟩:=uc I
  simp only[Ak1] at q
  obtain⟨q,y⟩:=q
  have y:=Ak0 y
  obtain⟨L,M⟩:=C1 C G
  rw[Rep] at s;subst s
  obtain⟨kk,es,clk,_,T,rfl,s,hr,_,_⟩:=xf S L M y D
  obtain⟨kt,et,u1,u2,u3⟩:=gh hs
  refine⟨_,.bool (gT x.cells n),K,?_,by rw[Rep]⟩
  have u:IsKey (.int .i64) (.int .i64 n):=by simp[IsKey]
  rcases sI hr n with⟨z,A⟩ | ⟨z,j,e,A,_,_,_⟩
  ·rw[z]
   simp[Instr.lookup,run_underlying u1,run_getObj_map s,run_checkKey u2 u,run_findKey u2 A,u3,Result.andThen]
  ·rw[z]
   simp[Instr.lookup,run_underlying u1,run_getObj_map s,run_checkKey u2 u,run_findKey u2 A,Result.andThen]
 ·simp at hh
theorem qB {t:TypeId} {m key val:AV} {vm vk vv:Value} {k:AV→D3→O R} (S:SimH J β h w) (X:Looks g h) (hh:YP P g t m key val k=some r) (Y:Rep J β h w m vm) (s:Rep J β h w key vk) (M:Rep J β h w val vv) :
  ∃ ups,k .undef ups=some r∧∃ J' β' w',(Instr.mapUpdate t vm vk vv).run P w=.ok () w'∧Step J β h w J' β' (Aj ups h) w':=by
 unfold YP at hh
 split at hh
 ·rename_i b n
  obtain⟨hs,h1⟩:=uc hh
  obtain⟨x,hx,h2⟩:=ub h1
  obtain⟨q,h3⟩:=uc h2
  simp only[Ak1] at q
  obtain⟨q,z⟩:=q
  have z:=Ak0 z
  obtain⟨F,A⟩:=C1 X hx
  simp only[Rep] at s M;subst s M
  obtain⟨kk,es,clk,_,T,rfl,s,hr,C,D⟩:=xf S F A z Y
  obtain⟨kt,et,u1,u2,u3⟩:=gh hs
  have u:IsKey (.int .i64) (.int .i64 n):=by simp[IsKey]
  have hlt:=Pa s
  refine⟨_,h3,J,β,?_⟩
  rcases sI hr n with⟨G,I⟩ | ⟨G,j,e,I,U,V,g5⟩
  ·refine⟨{ w with heap:=w.heap.setIfInBounds kk (.map (es.push { key:=.int .i64 n,val:=.bool true,born:=clk }) (clk+1)) },?_,?_⟩
   ·simp[Instr.mapUpdate,run_underlying u1,run_getObj_map s,run_checkKey u2 u,run_findKey u2 I,run_setObj_map _ s,Result.andThen]
   ·refine Step.setObj S F A q T s (heap_set s).1 (fun j K=>(heap_set s).2 j K) (by simp) rfl rfl rfl (.inl ⟨z,_,_,rfl,?_⟩) A C D rfl q
    obtain⟨l,v,y⟩:=hr
    refine⟨l++[n],?_,?_⟩
    ·show Aaa x.cells n=_
     unfold Aaa;rw[G,v];simp
    ·simp[y]
  ·refine⟨{ w with heap:=w.heap.setIfInBounds kk (.map (es.modify j fun e=>{ e with key:=.int .i64 n,val:=.bool true }) clk) },?_,?_⟩
   ·simp[Instr.mapUpdate,run_underlying u1,run_getObj_map s,run_checkKey u2 u,run_findKey u2 I,U,V,run_keyThatStays u,run_setObj_map _ s,Result.andThen]
   ·refine Step.setObj S F A q T s (heap_set s).1 (fun j K=>(heap_set s).2 j K) (by simp) rfl rfl rfl (.inl ⟨z,_,_,rfl,?_⟩) A C D rfl q
    obtain⟨l,v,y⟩:=hr
    refine⟨l,?_,?_⟩
    ·show Aaa x.cells n=_
     unfold Aaa;rw[G,v];rfl
    ·have:es.modify j (fun e=>{ e with key:=.int .i64 n,val:=.bool true })=es:=by
      apply Apf
      intro i
      rw[Amk]
      split
      ·rename_i L;subst L
       rw[U];simp;rw[←V,←g5]
      ·rfl
     rw[this];exact y
 ·simp at hh
end
end Gx
namespace Gx
open Go
def QZ (E:Env):Prop:=∀ (R:Type) (r:R) (k:AV→D3→O R) (J:Bool→Nat→Prop) (β:B5) (h:Ap) (w:World) (g:A7) (d f:Nat) (args:LA) (vs:List Value),
 SimH J β h w→Looks g h→nq E g d f args k=some r→Reps J β h w args vs →
 ∃ val ups,k val ups=some r∧(UpsFree d h ups→Calls E.P f vs.toArray w fun e w'=>∃ vc,e=.returned vc∧OpDone J β h w ups val vc w')
section
variable {R:Type} {r:R} {P:Program} {J J':Bool→Nat→Prop} {β:B5} {h:Ap} {w w':World} {g:A7} {o:Oper} {a:Act} {next:Act→World→Prop} {Q:Exit→Act→World→Prop}
theorem Fp {vc:Value} (b:(execOp a.eval o).run P w=.ok (.value vc) w') (hn:next (a.put o.dst vc) w'):o.wp P a w next Q:=by
 unfold Oper.wp;rw[b];exact hn
theorem sL (b:(execOp a.eval o).run P w=.ok .skip w') (hn:next (a.put o.dst undef) w'):o.wp P a w next Q:=by
 unfold Oper.wp;rw[b];exact hn
theorem OpDone.same (S:SimH J β h w) {v:AV} {vc:Value} (b:Rep J β h w v vc):OpDone J β h w [] v vc w:=⟨J,β,Step.refl S,b⟩
theorem gj {s:F8} (SS:SimS J β h w s a.tmps):∀ (xs:List Operand),Reps J β h w (xs.map (ev s)) (xs.map a.eval)
 | []=>by simp[Reps]
 | x::r=>by rw[Ak9,Ak9,Reps];exact⟨_,_,rfl,A5 SS x,gj SS r⟩
theorem Ut {s:F8} (SS:SimS J β h w s a.tmps):∀ (ps:List (Nat×Operand)),RepParts J β h w (ps.map fun p=>(p.1,ev s p.2)) (ps.map fun p=>(p.1,a.eval p.2))
 | []=>by simp[RepParts]
 | p::r=>by rw[Ak9,Ak9,RepParts];exact⟨_,_,rfl,A5 SS p.2,Ut SS r⟩
theorem gk {s:F8} (SS:SimS J β h w s a.tmps) (x:Option Operand):T7 J β h w (x.map (ev s)) (x.map a.eval):=by
 cases x with
 | none=>simp[T7]
 | some x=>simp[T7];exact A5 SS x
theorem Reps.append:∀ {c j:LA} {cs b:List Value},Reps J β h w c cs→Reps J β h w j b→Reps J β h w (c++j) (cs++b)
 | [],j,cs,b,e,k=>by rw[Reps] at e;subst e;exact k
 | x::r,j,cs,b,e,k=>by
  rw[Reps] at e
  obtain⟨u,us,rfl,q,s⟩:=e
  rw[Alh,Alh,Reps]
  exact⟨u,us++b,rfl,q,Reps.append s k⟩
theorem sM {J:Nat→Prop}:∀ {c:LA} {cs:List Value},Ax c=true→Reps (fun _ _=>False) (fun _=>none) [] w c cs→RepCs J w c (fun j=>cs[j]?) 0∧cs.length=c.length:=by
 intro c cs s hr
 rw[B6] at hr
 refine⟨?_,hr.1⟩
 rw[By]
 intro j x e
 have b:j<cs.length:=by rw[hr.1];exact(Ak4.1 e).1
 refine⟨cs[j],by simp[b],?_⟩
 have k:=hr.2 j x cs[j] e (Aky b)
 have u:Ax [x]=true:=by
  clear hr k b
  induction c generalizing j with
  | nil=>simp at e
  | cons y r v =>
   have q:Ax r=true:=by unfold Ax at s;split at s<;>simp_all
   cases j with
   | zero=>simp at e;subst e;cases y<;>simp_all[Ax]
   | succ j=>exact v q j (by simpa using e)
 cases x<;>simp[Ax] at u<;>(rw[Rep] at k;rw[RepC];exact k)
theorem yi {co:Bool} {v:AV} {vv:Value} (h0:∀ (J:Bool→Nat→Prop) (β:B5) (h:Ap),Rep J β h w v vv):Rep J β h w (zw co v) vv:=by
 unfold zw
 split
 ·rename_i c
  cases e:Ax c with
  | false=>exact h0 J β h
  | true =>
   have b:=h0 (fun _ _=>False) (fun _=>none) []
   rw[Rep] at b
   obtain⟨cs,rfl,j⟩:=b
   obtain⟨k,q⟩:=sM (J:=J false) e j
   rw[cond_true,Rep]
   exact⟨cs,rfl,q,k⟩
 ·exact h0 J β h
theorem Q_ {d:Nat}:∀ {l:List (Nat×Nat)} {j:Nat} {c:LA},1≤j→A3 (Fs d l j c).2 (nid d)=false
 | [],_,_,_=>by simp[Fs,A3]
 | (o,sz)::l,j,c,b=>by
  rw[Fs]
  split
  ·simp only[A3]
   rw[IE (by omega),cond_false]
   exact Q_ (by omega)
  ·exact Q_ (by omega)
theorem li {d:Nat} {t:TypeId} {k:AV→D3→O R} (S:SimH J β h w) (hh:ML P g d t k=some r) :
  ∃ v val ups,(∃ i,P.info? t=some i∧i.zero=some v)∧k val ups=some r∧(UpsFree d h ups→∃ vc w',(Instr.box t v).run P w=.ok vc w'∧OpDone J β h w ups val vc w'):=by
 unfold ML at hh
 split at hh
 ·rename_i c q
  obtain⟨F,L⟩:=uc hh
  simp only[Ak1] at F
  obtain⟨M,z⟩:=F
  obtain⟨v,T,U⟩:∃ v,(∃ i,P.info? t=some i∧i.zero=some v)∧YE v=.agg c:=by
   unfold gO at q
   cases hi:P.info? t with
   | none=>simp[hi] at q
   | some i =>
    cases e:i.zero with
    | none=>simp[hi,e] at q
    | some v=>simp[hi,e] at q;exact⟨v,⟨i,rfl,e⟩,q⟩
  have hr:=DO (J:=J) (β:=β) (h:=h) (w:=w) v
  rw[U,Rep] at hr
  obtain⟨cs,rfl,hr⟩:=hr
  refine⟨_,_,_,T,L,fun G=>⟨_,_,DR,?_⟩⟩
  have hn:=G.nid (by simp[Ha,O8,A3])
  obtain⟨β',A,hA⟩:=R5 (d:=d) (l:=O9 P t) (j:=1) S (Akw _) (by simp at M;omega) (fun i hi V C=>G _ (by rw[Ha,C];rfl) (by unfold AQ;simp;omega)) hr
  have D:Ai (Aj (Fs d (O9 P t) 1 c).2 h) (nid d)=none:=by rw[B9 _ _ _ (Q_ (Akw _))];exact hn
  have s:∀ (j:Nat) u,cs[j]?=some u→u.oneCell'=true:=fun j u I=>by
   rw[B6] at hr
   have b:j<c.length:=by rw[←hr.1];exact(Ak4.1 I).1
   exact Mc (Us z j c[j] (Aky b)) (hr.2 j c[j] u (Aky b) I)
  rw[B6] at hA
  refine OpDone.after A (MR A.sim D rfl rfl (by simp[Value.cells,hA.1]) ⟨fun X=>by simp at X,fun _ j y K=>?_⟩) (N7 _ _)
  have b:j<cs.length:=by rw[hA.1];exact(Ak4.1 K).1
  exact⟨cs[j],by simp[Value.cells,b],hA.2 j y _ K (Aky b),s j _ (Aky b)⟩
 ·simp at hh
theorem qC {co:Bool} {d:Nat} {t:TypeId} {k:AV→D3→O R} (S:SimH J β h w) (L:Looks g h) (hh:YK P g co d t k=some r) :
  ∃ v val ups,(∃ i,P.info? t=some i∧i.zero=some v)∧k val ups=some r∧(UpsFree d h ups→∃ vc w',(Instr.box t v).run P w=.ok vc w'∧OpDone J β h w ups val vc w'):=by
 have zv:∀ {z:AV},gO P t=some z→∃ v,(∃ i,P.info? t=some i∧i.zero=some v)∧YE v=z:=by
  intro z q
  unfold gO at q
  cases hi:P.info? t with
  | none=>simp[hi] at q
  | some i =>
   cases s:i.zero with
   | none=>simp[hi,s] at q
   | some v=>simp[hi,s] at q;exact⟨v,⟨i,rfl,s⟩,q⟩
 unfold YK at hh
 split at hh
 ·rename_i U V q
  obtain⟨v,u,C⟩:=zv q
  obtain⟨sz,hs,hh⟩:=ub hh
  refine⟨v,_,_,u,hh,fun K=>⟨_,_,DR,?_⟩⟩
  have hr:=DO (J:=J) (β:=β) (h:=h) (w:=w) v
  rw[C,Rep] at hr;subst hr
  have D:∀ b,b=nid d+1→AQ d b=true:=fun b M=>by subst M;unfold AQ nid;simp
  have F:Ai h (nid d+1)=none:=K _ (by simp[A3]) (D _ rfl)
  have G:Ai h (nid d)=none:=K.nid (by simp[A3])
  have A:=Step.newNone S (d:=nid d+1) (x:=Fo sz) F rfl
  have e:([(nid d+1,some (Fo sz)),(nid d,some { dead:=false,sealed:=false,pure:=false,taint:=false,sz:=0,cells:=[.own (nid d+1) 0 0] })]:D3)=[(nid d+1,some (Fo sz))]++[(nid d,some { dead:=false,sealed:=false,pure:=false,taint:=false,sz:=0,cells:=[.own (nid d+1) 0 0] })]:=rfl
  rw[e]
  refine OpDone.after A (MR A.sim ?_ rfl rfl (by simp[Value.cells]) ⟨fun T=>by simp at T,fun _ j y I=>?_⟩) (N7 _ _)
  ·simp only[Aj];rw[Ad,if_neg (by omega)];exact G
  ·cases j with
   | zero =>
    simp at I;subst I
    refine⟨.slice none 0 0,by simp[Value.cells],?_,rfl⟩
    rw[Rep]
    exact⟨Fo sz,none,0,⟨by simp[Aj,Ad],rfl⟩,rfl,Akw _,.inl rfl⟩
   | succ j=>simp at I
 ·rename_i z q _
  obtain⟨v,u,C⟩:=zv q
  obtain⟨val,ups,F,G⟩:=gZ S L hh (vv:=v) (yi fun J β h=>by rw[←C];exact DO v)
  exact⟨v,val,ups,u,F,G⟩
 ·simp at hh
theorem sN {c x y:AV} {vc vx vy:Value} {k:AV→O R} (hh:nr c x y k=some r) (e:Rep J β h w c vc) (j:Rep J β h w x vx) (q:Rep J β h w y vy) :
  ∃ v,k v=some r∧∃ t:Bool,vc=.bool t∧Rep J β h w v (if t then vx else vy):=by
 unfold nr at hh
 split at hh
 ·rename_i t a b
  rw[Rep] at e j q
  subst e j q
  exact⟨_,hh,t,rfl,by cases t<;>simp[Rep]⟩
 ·rename_i t x _
  rw[Rep] at e;subst e
  obtain⟨s,u⟩:=uc hh
  subst s
  exact⟨_,u,true,rfl,j⟩
 ·rename_i t _ _ _
  rw[Rep] at e;subst e
  obtain⟨s,u⟩:=uw hh
  subst s
  exact⟨_,u,false,rfl,q⟩
 ·rename_i t _ _ _
  rw[Rep] at e;subst e
  cases t
  ·exact⟨_,hh,false,rfl,q⟩
  ·exact⟨_,hh,true,rfl,j⟩
 ·simp at hh
theorem vE {E:Env} (hC:QZ E) {d:Nat} {s:F8} {k:AV→D3→O R} (S:SimH J β h w) (SS:SimS J β h w s a.tmps) (T:Looks g h)
  (hh:ld E g d (ev s) o.op k=some r) :
  ∃ val ups,k val ups=some r∧(UpsFree d h ups→(∀ vc w',OpDone J β h w ups val vc w'→next (a.put o.dst vc) w')→o.wp E.P a w next Q):=by
 unfold ld at hh
 have same:∀ {v:AV} {vc:Value},k v []=some r→(execOp a.eval o).run E.P w=.ok (.value vc) w→Rep J β h w v vc →
   ∃ val ups,k val ups=some r∧(UpsFree d h ups→(∀ vc w',OpDone J β h w ups val vc w'→next (a.put o.dst vc) w')→o.wp E.P a w next Q) :=
  fun hk Y hr=>⟨_,_,hk,fun _ hn=>Fp Y (hn _ _ (OpDone.same S hr))⟩
 split at hh
 ·rename_i x F
  exact same hh (by simp[execOp,F]) (A5 SS x)
 ·rename_i x F
  exact same hh (by simp[execOp,F]) (A5 SS x)
 ·rename_i c x y F
  obtain⟨v,A,C⟩:=sN hh (A5 SS c) (A5 SS x) (A5 SS y)
  obtain⟨t,ht,hr⟩:=C
  refine same A (vc:=if t then a.eval x else a.eval y) ?_ hr
  cases t<;>simp[execOp,F,ht,Go.asBool]
 ·rename_i t F
  obtain⟨v,val,ups,h0,A,C⟩:∃ v val ups,(∃ i,E.P.info? t=some i∧i.zero=some v)∧k val ups=some r∧(UpsFree d h ups→∃ vc w',(Instr.box t v).run E.P w=.ok vc w'∧OpDone J β h w ups val vc w'):=by
   cases hm:Hq E.cob (d+1000000) with
   | true=>rw[hm] at hh;exact li S hh
   | false=>rw[hm] at hh;exact qC S T hh
  refine⟨val,ups,A,fun M hn=>?_⟩
  obtain⟨vc,w',D,G⟩:=C M
  refine Fp ?_ (hn vc w' G)
  rw[DR] at D
  simp only[Result.ok.injEq] at D
  obtain⟨rfl,rfl⟩:=D
  obtain⟨i,hi,hiz⟩:=h0
  simp[execOp,F,Instr.alloc,zeroValue,typeInfo,hi,hiz,newVar,newRow]
 ·rename_i t x F
  obtain⟨v',h0,hv'⟩:=pm hh (A5 SS x)
  obtain⟨val,ups,A,C⟩:=gZ S T h0 hv'
  refine⟨val,ups,A,fun M hn=>?_⟩
  obtain⟨vc,w',D,G⟩:=C M
  exact Fp (by simp[execOp,F,D]) (hn vc w' G)
 ·rename_i t parts F
  rw[QX] at hh
  obtain⟨v,L,hh⟩:=ub hh
  obtain⟨u,A,C⟩:=pw (P:=E.P) S L (Ut SS parts.toList)
  obtain⟨val,ups,D,G⟩:=vB S hh C
  refine⟨val,ups,D,fun M hn=>Fp ?_ (hn _ _ (G M))⟩
  have:(parts.map fun p=>(p.1,a.eval p.2))=(parts.toList.map fun p=>(p.1,a.eval p.2)).toArray:=by apply Al7;simp
  simp[execOp,F,this,A]
 ·rename_i t len parts F
  have:(parts.map fun p=>(p.1,a.eval p.2))=(parts.toList.map fun p=>(p.1,a.eval p.2)).toArray:=by apply Al7;simp
  cases hhard:(parts.toList.map fun p=>(p.1,ev s p.2)).any fun p=>zx p.2 with
  | true =>
   rw[hhard] at hh
   obtain⟨val,ups,A,C⟩:=YY S hh (Ut SS parts.toList)
   refine⟨val,ups,A,fun M hn=>?_⟩
   obtain⟨vc,w',D,G⟩:=C M
   exact Fp (by simp[execOp,F,this,D]) (hn vc w' G)
  | false =>
   rw[hhard] at hh
   obtain⟨val,ups,A,C⟩:=TA S T hh (Ut SS parts.toList)
   refine⟨val,ups,A,fun M hn=>?_⟩
   obtain⟨vc,w',D,G⟩:=C M
   exact Fp (by simp[execOp,F,this,D]) (hn vc w' G)
 ·rename_i t p F
  obtain⟨v,vc,A,C,D⟩:=bU S T hh (A5 SS p)
  exact same A (by simp[execOp,F,C]) D
 ·rename_i t p x F
  obtain⟨val,ups,A,J',β',w',C,D,rfl⟩:=pk S T hh (A5 SS p) (A5 SS x)
  exact⟨.undef,ups,A,fun _ hn=>sL (w':=w') (by simp[execOp,F,C]) (hn undef w' ⟨J',β',D,by simp[Rep]⟩)⟩
 ·rename_i x F
  have A:=A5 SS x
  split at hh
  ·rename_i c oo V
   rw[V] at A
   refine same hh (vc:=a.eval x) ?_ A
   rw[Rep,RepC] at A
   obtain⟨ad,C,_⟩:=A
   simp[execOp,F,C]
  ·rename_i b oo V
   rw[V] at A
   refine same hh (vc:=a.eval x) ?_ A
   rw[Rep] at A
   obtain⟨_,kk,o',_,C,_⟩:=A
   simp[execOp,F,C]
  ·simp at hh
 ·rename_i op t x y t2 F
  obtain⟨v,vc,A,C,D⟩:=sG S T hh (A5 SS x) (A5 SS y) x y
  refine same A ?_ D
  simp only[execOp,F]
  rw[Sem.run_bind,C];simp
 ·rename_i op t x F
  obtain⟨v,L,hh⟩:=ub hh
  obtain⟨vc,C,D⟩:=ye (P:=E.P) L (A5 SS x)
  exact same hh (by simp[execOp,F,C]) D
 ·rename_i src dst x F
  obtain⟨val,ups,A,C⟩:=pu S T hh (A5 SS x)
  refine⟨val,ups,A,fun M hn=>?_⟩
  obtain⟨vc,w',D,G⟩:=C M
  exact Fp (by simp[execOp,F,D]) (hn vc w' G)
 ·rename_i f first caps F
  obtain⟨M,hh⟩:=uc hh
  have hf':f<1000000:=by simpa using M
  have key:∀ (a n:Nat),a<1000000→(a+1000000*n)%1000000=a∧(a+1000000*n)/1000000=n:=by intro a n h;omega
  have e1:=(key f first.toList.length hf').1
  have e2:=(key f first.toList.length hf').2
  refine same (vc:=.func (.func f) ⟨first.toList.map a.eval⟩ ⟨caps.toList.map a.eval⟩) hh ?_ ?_
  ·simp only[execOp,F,Instr.makeFunc]
   simp
   refine⟨?_,?_⟩<;>(apply Al7;simp)
  ·rw[Rep,e1,e2]
   refine⟨(first.toList++caps.toList).map a.eval,?_,gj SS _⟩
   simp
 ·rename_i t l c F
  obtain⟨val,ups,A,C⟩:=ry S hh (A5 SS l) (A5 SS c)
  refine⟨val,ups,A,fun M hn=>?_⟩
  obtain⟨vc,w',D,G⟩:=C M
  exact Fp (by simp[execOp,F,D]) (hn vc w' G)
 ·rename_i t x lo hi mx F
  obtain⟨v,vc,A,C,D⟩:=pj S T hh (A5 SS x) (gk SS lo) (gk SS hi) (gk SS mx)
  exact same A (by simp[execOp,F,C]) D
 ·rename_i t x f F
  obtain⟨v,vc,A,C,D⟩:=YV hh (A5 SS x)
  exact same A (by simp[execOp,F,C]) D
 ·rename_i t x f F
  obtain⟨v,vc,A,C,D⟩:=ph hh (A5 SS x)
  exact same A (by simp[execOp,F,C]) D
 ·rename_i t x i F
  obtain⟨v,vc,A,C,D⟩:=YU hh (A5 SS x) (A5 SS i)
  exact same A (by simp[execOp,F,C]) D
 ·rename_i t x i F
  obtain⟨v,vc,A,C,D⟩:=pi hh (A5 SS x) (A5 SS i)
  exact same A (by simp[execOp,F,C]) D
 ·rename_i t rr F
  cases rr with
  | some x=>simp[Wh] at hh
  | none =>
   obtain⟨val,ups,A,C⟩:=gi (P:=E.P) (t:=t) S hh
   refine⟨val,ups,A,fun M hn=>?_⟩
   obtain⟨vc,w',D,G⟩:=C M
   exact Fp (by simp[execOp,F,D]) (hn vc w' G)
 ·rename_i t m x y F
  obtain⟨ups,A,J',β',w',C,D⟩:=qB S T hh (A5 SS m) (A5 SS x) (A5 SS y)
  exact⟨.undef,ups,A,fun _ hn=>sL (w':=w') (by simp[execOp,F,C]) (hn undef w' ⟨J',β',D,by simp[Rep]⟩)⟩
 ·rename_i t m x c F
  obtain⟨v,vc,A,C,D⟩:=sK S T hh (A5 SS m) (A5 SS x)
  exact same A (by simp[execOp,F,C]) D
 ·rename_i t x F
  obtain⟨val,ups,A,C⟩:=qA (P:=E.P) S hh (A5 SS x)
  refine⟨val,ups,A,fun M hn=>?_⟩
  obtain⟨vc,w',D,G⟩:=C M
  exact Fp (by simp[execOp,F,D]) (hn vc w' G)
 ·rename_i x b F
  obtain⟨val,ups,A,C⟩:=sJ (P:=E.P) (d:=d) (t:=o.type) S T hh (A5 SS x)
  refine⟨val,ups,A,fun M hn=>?_⟩
  obtain⟨vc,w',D,G⟩:=C M
  exact Fp (by simp[execOp,F,D]) (hn vc w' G)
 ·rename_i t i F
  split at hh
  ·rename_i vs ht
   obtain⟨v,L,hh⟩:=ub hh
   have A:=A5 SS t
   rw[ht,Rep] at A
   obtain⟨cs,C,D⟩:=A
   rw[B6] at D
   have hlt:i<cs.length:=by rw[D.1];exact(Ak4.1 L).1
   refine same hh (vc:=cs[i]) ?_ (D.2 i v _ L (Aky hlt))
   simp[execOp,F,Instr.extract,C,hlt]
  ·simp at hh
 ·rename_i c F
  split at hh
  ·rename_i U
   split at hh
   ·rename_i x t A C
    obtain⟨v,L,hh⟩:=ub hh
    have e1:c.args=#[x]:=by apply Al7;simpa using A
    have e2:c.argTypes=#[t]:=by apply Al7;simpa using C
    obtain⟨vc,D,G⟩:=ux (P:=E.P) (ty:=o.type) L (A5 SS x)
    refine same hh ?_ G
    simp[execOp,F,resolve,U,e1,e2,invoke,builtin,D]
   ·simp at hh
  ·rename_i U
   split at hh
   ·rename_i x y t tx A C
    have e1:c.args=#[x,y]:=by apply Al7;simpa using A
    have e2:c.argTypes=#[t,tx]:=by apply Al7;simpa using C
    obtain⟨val,ups,D,G⟩:=lh (ty:=o.type) S T hh (A5 SS x) (A5 SS y)
    refine⟨val,ups,D,fun M hn=>?_⟩
    obtain⟨vc,w',h5,h6⟩:=G M
    refine Fp ?_ (hn vc w' h6)
    simp[execOp,F,resolve,U,e1,e2,invoke,builtin,h5]
   ·simp at hh
  ·rename_i U
   split at hh
   ·rename_i x y t tx A C
    have e1:c.args=#[x,y]:=by apply Al7;simpa using A
    have e2:c.argTypes=#[t,tx]:=by apply Al7;simpa using C
    obtain⟨val,ups,D,vc,w',h5,h6⟩:=sB (tx:=tx) (ty:=o.type) S T hh (A5 SS x) (A5 SS y)
    refine⟨val,ups,D,fun M hn=>?_⟩
    refine Fp ?_ (hn vc w' h6)
    simp[execOp,F,resolve,U,e1,e2,invoke,builtin,h5]
   ·simp at hh
  ·rename_i U
   split at hh
   ·rename_i x t A C
    have e1:c.args=#[x]:=by apply Al7;simpa using A
    have e2:c.argTypes=#[t]:=by apply Al7;simpa using C
    obtain⟨val,ups,D,vc,w',h5,h6⟩:=pt (ty:=o.type) S T hh (A5 SS x)
    refine⟨val,ups,D,fun M hn=>?_⟩
    refine Fp ?_ (hn vc w' h6)
    simp[execOp,F,resolve,U,e1,e2,invoke,builtin,h5]
   ·simp at hh
  ·rename_i U
   split at hh
   ·rename_i x y A
    obtain⟨v,L,hh⟩:=ub hh
    have e1:c.args=#[x,y]:=by apply Al7;simpa using A
    have C:=A5 SS x
    have D:=A5 SS y
    unfold yc at L
    split at L
    ·rename_i k1 a1 k2 a2 V hy
     simp at L;subst L
     rw[V,Rep] at C;rw[hy,Rep] at D
     refine same hh (vc:=.int k1 (Io a1 a2)) ?_ (by rw[Rep])
     simp[execOp,F,resolve,U,e1,invoke,builtin,C,D,Builtin.min_,Builtin.min2,Io,cond_eq_ite]
    ·simp at L
   ·rename_i x y z A
    obtain⟨q,hq,hh⟩:=ub hh
    obtain⟨v,L,hh⟩:=ub hh
    have e1:c.args=#[x,y,z]:=by apply Al7;simpa using A
    have C:=A5 SS x
    have D:=A5 SS y
    have G:=A5 SS z
    unfold yc at hq
    split at hq
    ·rename_i k1 a1 k2 a2 V hy
     simp at hq;subst hq
     unfold yc at L
     split at L
     ·rename_i k3 a3 k4 a4 hx2 hz
      simp at hx2;obtain⟨rfl,rfl⟩:=hx2
      simp at L;subst L
      rw[V,Rep] at C;rw[hy,Rep] at D;rw[hz,Rep] at G
      refine same hh (vc:=.int k1 (Io (Io a1 a2) a4)) ?_ (by rw[Rep])
      simp[execOp,F,resolve,U,e1,invoke,builtin,C,D,G,Builtin.min_,Builtin.min2,Io,cond_eq_ite]
     ·simp at L
    ·simp at hq
   ·simp at hh
  ·rename_i U
   split at hh
   ·rename_i x y A
    obtain⟨v,L,hh⟩:=ub hh
    have e1:c.args=#[x,y]:=by apply Al7;simpa using A
    have C:=A5 SS x
    have D:=A5 SS y
    unfold yd at L
    split at L
    ·rename_i k1 a1 k2 a2 V hy
     simp at L;subst L
     rw[V,Rep] at C;rw[hy,Rep] at D
     refine same hh (vc:=.int k1 (QU a1 a2)) ?_ (by rw[Rep])
     simp[execOp,F,resolve,U,e1,invoke,builtin,C,D,Builtin.max_,Builtin.max2,QU,cond_eq_ite]
    ·simp at L
   ·rename_i x y z A
    obtain⟨q,hq,hh⟩:=ub hh
    obtain⟨v,L,hh⟩:=ub hh
    have e1:c.args=#[x,y,z]:=by apply Al7;simpa using A
    have C:=A5 SS x
    have D:=A5 SS y
    have G:=A5 SS z
    unfold yd at hq
    split at hq
    ·rename_i k1 a1 k2 a2 V hy
     simp at hq;subst hq
     unfold yd at L
     split at L
     ·rename_i k3 a3 k4 a4 hx2 hz
      simp at hx2;obtain⟨rfl,rfl⟩:=hx2
      simp at L;subst L
      rw[V,Rep] at C;rw[hy,Rep] at D;rw[hz,Rep] at G
      refine same hh (vc:=.int k1 (QU (QU a1 a2) a4)) ?_ (by rw[Rep])
      simp[execOp,F,resolve,U,e1,invoke,builtin,C,D,G,Builtin.max_,Builtin.max2,QU,cond_eq_ite]
     ·simp at L
    ·simp at hq
   ·simp at hh
  ·rename_i U
   split at hh
   ·rename_i x A
    have e1:c.args=#[x]:=by apply Al7;simpa using A
    obtain⟨val,ups,D,G⟩:=YW (P:=E.P) (d:=d) (ts:=c.argTypes) (ty:=o.type) S T hh (A5 SS x)
    refine⟨val,ups,D,fun M hn=>?_⟩
    obtain⟨vc,w',h5,h6⟩:=G M
    refine Fp ?_ (hn vc w' h6)
    simp[execOp,F,resolve,U,e1,invoke,builtin,h5]
   ·simp at hh
  ·rename_i U
   split at hh
   ·rename_i x y t tx A C
    have e1:c.args=#[x,y]:=by apply Al7;simpa using A
    have e2:c.argTypes=#[t,tx]:=by apply Al7;simpa using C
    obtain⟨val,ups,D,G⟩:=YX (d:=d) (it:=tx) (ty:=o.type) S T hh (A5 SS x) (A5 SS y)
    refine⟨val,ups,D,fun M hn=>?_⟩
    obtain⟨vc,w',h5,h6⟩:=G M
    refine Fp ?_ (hn vc w' h6)
    simp[execOp,F,resolve,U,e1,e2,invoke,builtin,h5]
   ·simp at hh
  ·rename_i fo U
   split at hh
   ·rename_i f0 caps M
    have A:=A5 SS fo
    rw[M,Rep] at A
    obtain⟨cs0,C,X⟩:=A
    cases I:pd E.P (f0%1000000) with
    | false =>
     rw[I,cond_false] at hh
     obtain⟨hne,hh⟩:=uc hh
     split at hh
     ·rename_i x K hold
      rw[Reps] at X;subst X
      obtain⟨y,hy,rfl⟩:∃ y,c.args=#[y]∧x=ev s y:=by
       cases T:c.args.toList with
       | nil=>rw[T] at K;cases K
       | cons y l =>
        rw[T] at K;simp at K
        exact⟨y,by apply Al7;rw[T,K.2],K.1.symm⟩
      refine same (vc:=a.eval y) hh ?_ (A5 SS y)
      simp only[execOp,F,Sem.run_bind,resolve,U,C,Deferred.ofValue,Sem.run_pure,Result.andThen_ok,invoke,hy]
      simpa using yg hne (a.eval y) w
     ·simp at hh
    | true =>
    rw[I,cond_true] at hh
    have htk:Reps J β h w (caps.take (f0/1000000)) (cs0.take (f0/1000000))∧Reps J β h w (caps.drop (f0/1000000)) (cs0.drop (f0/1000000)):=by
     rw[B6] at X
     refine⟨B6.2 ⟨by simp[X.1],fun j x u V hu=>?_⟩,B6.2 ⟨by simp[X.1],fun j x u V hu=>?_⟩⟩
     ·rw[Al4] at V hu
      split at V
      ·rename_i hj;rw[if_pos hj] at hu;exact X.2 j x u V hu
      ·simp at V
     ·rw[Al8] at V hu;exact X.2 _ x u V hu
    generalize f0%1000000=f at *
    generalize cs0.take (f0/1000000)=fs at *
    generalize cs0.drop (f0/1000000)=cs at *
    obtain⟨val,ups,G,h5⟩:=hC R r k J β h w g d f _ _ S T hh (htk.1.append ((gj SS c.args.toList).append htk.2))
    refine⟨val,ups,G,fun hfr hn=>?_⟩
    have hcall:=h5 hfr
    unfold pd at I
    cases hfn:E.P.funcs[f]? with
    | none=>rw[hfn] at I;simp at I
    | some fn =>
     rw[hfn] at I
     simp at I
     obtain⟨hb1,hb2⟩:=I
     have hb3:fn.body.isNone=false:=by cases hq:fn.body<;>simp_all
     have K:(⟨fs⟩:Array Value)++c.args.map a.eval++(⟨cs⟩:Array Value)=(fs++(c.args.toList.map a.eval++cs)).toArray:=by apply Al7;simp
     have Y:(execOp a.eval o).run E.P w=.ok (.enter f (fs++(c.args.toList.map a.eval++cs)).toArray) w:=by
      simp only[execOp,F,Sem.run_bind,resolve,U,C,Deferred.ofValue,Sem.run_pure,Result.andThen_ok,invoke,callFunc,run_program,hfn]
      simp only[hb3,K]
      simp[hb2]
     unfold Oper.wp
     rw[Y]
     refine Calls.mono hcall ?_
     rintro e w' ⟨vc,rfl,hd⟩
     exact hn vc w' hd
   ·simp at hh
  ·simp at hh
 ·simp at hh
end
end Gx
namespace Gx
open Go
structure Start where
 J:Bool→Nat→Prop
 β:B5
 h:Ap
 w:World
structure Inv (Z:Start) (nt:Nat) (J:Bool→Nat→Prop) (β:B5) (st:St) (a:Act) (w:World):Prop where
 sim:SimH J β st.h w
 ss:SimS J β st.h w st.s a.tmps
 tmps:a.tmps.size=nt
 defers:a.defers=[]
 os:w.os=Z.w.os
 tape:w.tape=Z.w.tape
 output:w.output=Z.w.output
 size:Z.w.heap.size≤w.heap.size
 frame:∀ k,k<Z.w.heap.size→¬ rx Z.β Z.h k→w.heap[k]?=Z.w.heap[k]?
 wr:∀ k,rx β st.h k→k<Z.w.heap.size→rx Z.β Z.h k
 jsub:∀ o k,Z.J o k→J o k
 jup:∀ o k,J o k→Z.J o k∨rx Z.β Z.h k∨Z.w.heap.size≤k
 sizes:∀ k,At Z.w k≤At w k
 zlt:∀ b x0,Ai Z.h b=some x0→b<200000
 zge:∀ b x0,Ai Z.h b=some x0→100000≤b
 outs:∀ b x0 x,Ai Z.h b=some x0→Ai st.h b=some x→x.dead=false→(β b=Z.β b∧x.mp=x0.mp)∧x.sz=x0.sz∧(x0.mp=false→x.cells.length=x0.cells.length)∧x0.dead=false
section
variable {R:Type} {r:R} {Z:Start} {nt:Nat} {J J':Bool→Nat→Prop} {β β':B5} {st:St} {h':Ap} {a:Act} {w w':World} {ops:Array Oper} {o:Oper}
theorem Md {s:F8} {d:Option Nat} {v:AV} {i:Nat}:Fn (ut nt s d v) i=if d=some i∧i<nt then v else Fn s i:=by
 unfold ut
 cases d with
 | none=>simp
 | some d =>
  simp only[Alx]
  cases j:Nat.blt d nt with
  | true =>
   have b:d<nt:=by simpa using j
   simp only[cond_true]
   rw[Mb]
   by_cases e:i=d
   ·subst e;simp[b]
   ·rw[if_neg e,if_neg (fun hh=>e hh.1.symm)]
  | false =>
   have b:¬ d<nt:=by intro k;rw[show Nat.blt d nt=true by simpa using k] at j;cases j
   simp only[cond_false]
   rw[if_neg (fun hh=>by obtain⟨q,u⟩:=hh;subst q;exact b u)]
theorem SimS.put {h:Ap} {s:F8} {d:Option Nat} {v:AV} {vc:Value} (H:SimS J β h w s a.tmps) (hn:a.tmps.size=nt) (k:Rep J β h w v vc):SimS J β h w (ut nt s d v) (a.put d vc).tmps:=by
 refine⟨fun i u b=>?_,fun i hi=>?_⟩
 ·rw[Md]
  cases d with
  | none=>simp;exact H.slot i u b
  | some d =>
   simp only[Act.put] at b
   rw[Amn] at b
   by_cases e:d=i
   ·subst e
    simp only[if_true] at b
    by_cases j:d<a.tmps.size
    ·simp[j] at b;subst b
     rw[if_pos ⟨rfl,by omega⟩];exact k
    ·simp[j] at b
   ·rw[if_neg e] at b
    rw[if_neg (fun hh=>e (by simpa using hh.1))]
    exact H.slot i u b
 ·have hs:(a.put d vc).tmps.size=a.tmps.size:=by cases d<;>simp[Act.put]
  rw[hs] at hi
  rw[Md,if_neg (by omega)]
  exact H.out i hi
theorem SimS.ext {h:Ap} {s:F8} {t:Array Value} (E:Ext J β h w J' β' h' w') (H:SimS J β h w s t):SimS J' β' h' w' s t :=
 ⟨fun i v b=>Rep.ext E (H.slot i v b),H.out⟩
theorem Inv.step (I:Inv Z nt J β st a w) (A:Step J β st.h w J' β' h' w') (u:∀ b x,Ai h' b=some x→Ai st.h b=none→Gq≤b):Inv Z nt J' β' { s:=st.s,h:=h' } a w' where
 sim:=A.sim
 ss:=I.ss.ext A.ext
 tmps:=I.tmps
 defers:=I.defers
 os:=A.os.trans I.os
 tape:=A.tape.trans I.tape
 output:=A.output.trans I.output
 size:=Amp I.size A.size
 frame k e j:=(A.frame k (Ame e I.size) (fun C=>j (I.wr k C e))).trans (I.frame k e j)
 wr k j e:=I.wr k (A.wr k j (Ame e I.size)) e
 jsub o k D:=A.ext.jsub o k (I.jsub o k D)
 jup o k D:=by
  rcases A.jup o k D with v | v | v
  ·exact I.jup o k v
  ·by_cases e:k<Z.w.heap.size
   ·exact .inr (.inl (I.wr k v e))
   ·exact .inr (.inr (by omega))
  ·exact .inr (.inr (Amp I.size v))
 sizes k:=by
  refine Amp (I.sizes k) ?_
  by_cases j:∃ b o,β b=some (k,o)
  ·obtain⟨b,o,q⟩:=j;exact A.ext.size b k o q
  ·by_cases e:k<w.heap.size
   ·have:=A.frame k e (fun ⟨b,x,o,_,_,_,q⟩=>j ⟨b,o,q⟩)
    simp[At,this]
   ·simp[At,Alk (Amh e)]
 outs b x0 x h0 F K:=by
  cases q:Ai st.h b with
  | none=>have:=u b x F q;have:=I.zlt b x0 h0;unfold Gq at *;omega
  | some y =>
   obtain⟨x',⟨G,gm⟩,z⟩:=A.ext.blk b y q
   change Ai h' b=some x at F
   rw[F] at G;simp at G;subst G
   rcases z with z | ⟨z,L,M,O⟩
   ·simp[K] at z
   ·obtain⟨⟨e1,em⟩,S,e3,e4⟩:=I.outs b x0 y h0 q z
    exact⟨⟨L.trans e1,gm.trans em⟩,M.trans S,fun h=>(O (em.trans h)).trans (e3 h),e4⟩
 zlt:=I.zlt
 zge:=I.zge
theorem Inv.put (I:Inv Z nt J β st a w) {d:Option Nat} {v:AV} {vc:Value} (b:Rep J β st.h w v vc):Inv Z nt J β { s:=ut nt st.s d v,h:=st.h } (a.put d vc) w where
 sim:=I.sim
 ss:=I.ss.put I.tmps b
 tmps:=by cases d<;>simp[Act.put,I.tmps]
 defers:=by cases d<;>simp[Act.put,I.defers]
 os:=I.os
 tape:=I.tape
 output:=I.output
 size:=I.size
 frame:=I.frame
 wr:=I.wr
 jsub:=I.jsub
 jup:=I.jup
 sizes:=I.sizes
 zlt:=I.zlt
 zge:=I.zge
 outs:=I.outs
theorem gn {d:Nat} {F:List Nat} {h:Ap}:∀ {ups:D3},OT d F h ups=true→∀ b,A3 ups b=true→(AQ d b=true∧Ai h b=none)∨(AQ d b=false∧Hq F b=true∧∃ x,Ai h b=some x)
 | [],_,b,j=>by simp[A3] at j
 | (i,_)::r,e,b,j=>by
  rw[OT] at e
  simp at e
  rw[A3] at j
  cases hi:beq i b with
  | true =>
   have:i=b:=Ak0 hi
   subst this
   cases hn:AQ d i with
   | true=>rw[hn] at e;simp at e;exact .inl ⟨rfl,e.1⟩
   | false =>
    rw[hn] at e;simp at e
    obtain⟨⟨k,q⟩,_⟩:=e
    exact .inr ⟨rfl,k,Aom.1 q⟩
  | false=>rw[hi] at j;exact gn e.2 b (by simpa using j)
theorem Aam {d b:Nat} (hn:AQ d b=true):Gq≤b:=by
 unfold AQ nid at hn
 simp at hn
 unfold Gq;omega
theorem qD {d:Nat} {F:List Nat} {h:Ap} {ups:D3} (k:OT d F h ups=true) {b:Nat} {x:Blk} (e:Ai (Aj ups h) b=some x) (hn:Ai h b=none):Gq≤b:=by
 cases hi:A3 ups b with
 | false=>rw[B9 _ _ _ hi,hn] at e;cases e
 | true =>
  rcases gn k b hi with⟨q,_⟩ | ⟨_,_,y,j⟩
  ·exact Aam q
  ·rw[hn] at j;cases j
theorem vF {h:Ap} {F:List Nat}:Looks (fun b=>cond (Hq F b) (Ai h b) none) h:=fun b x e=>by
 cases j:Hq F b with
 | true=>simpa[j] using e
 | false=>simp[j] at e
theorem lj {h:Ap} {s:F8} (H:SimS J β h w s a.tmps) {t:Bool} (e:DK ops s o=some t):Region.wanted o (yielded ops a.tmps)=t:=by
 unfold DK at e
 unfold Region.wanted
 split at e
 ·rename_i k;rw[k];simpa using e
 ·rename_i j want k
  rw[k]
  simp only
  unfold yielded
  split at e
  ·rename_i t' q
   rw[q]
   simp only[Alj]
   cases y:a.tmps[t']? with
   | none =>
    have:=H.out t' (by simpa using y)
    rw[this] at e;simp at e
   | some v =>
    have hr:=H.slot t' v y
    split at e
    ·rename_i b u
     rw[u,Rep] at hr;subst hr
     simp at e;subst e
     simp
    ·rename_i u
     rw[u,Rep] at hr
     obtain⟨cs,rfl,z⟩:=hr
     rw[Reps] at z;subst z
     simp at e;subst e
     simp
    ·simp at e
  ·rename_i q
   rw[q]
   simp at e;subst e
   simp
theorem gp {E:Env} (hC:QZ E) (I:Inv Z E.nt J β st a w) {k:St→Foot→O R} (hh:rp E ops o st k=some r) {K:Act→World→Prop} {Q:Exit→Act→World→Prop} :
  ∃ st' f,k st' f=some r∧((∀ j w' J' β',Inv Z E.nt J' β' st' j w'→K j w')→if Region.wanted o (yielded ops a.tmps) then o.wp E.P a w K Q else K (a.put o.dst undef) w):=by
 unfold rp at hh
 obtain⟨t,s,e⟩:=ub hh
 rw[lj I.ss s]
 cases t with
 | false =>
  refine⟨_,_,e,fun hK=>?_⟩
  simp only[Amr,if_false]
  exact hK _ _ J β (I.put (by rw[Rep];exact⟨[],rfl,by rw[Reps]⟩))
 | true =>
  rw[cond_true] at e
  obtain⟨val,ups,u,v⟩:=vE (o:=o) (next:=K) (Q:=Q) hC I.sim I.ss vF e
  obtain⟨q,y⟩:=uc u
  refine⟨_,_,y,fun hK=>?_⟩
  simp only[if_true]
  refine v (fun b z hn=>?_) (fun vc w' C=>?_)
  ·rcases gn q b z with⟨_,g⟩ | ⟨g,_⟩
   ·exact g
   ·rw[hn] at g;cases g
  ·obtain⟨J',β',A,D⟩:=C
   exact hK _ _ J' β' ((I.step A (fun b x F hn=>qD q F hn)).put D)
def Eqv (a b:St):Prop:=(∀ t,Fn a.s t=Fn b.s t)∧(∀ b',Ai a.h b'=Ai b.h b')
theorem Eqv.refl (a:St):Eqv a a:=⟨fun _=>rfl,fun _=>rfl⟩
theorem Eqv.symm {a b:St} (h:Eqv a b):Eqv b a:=⟨fun t=>(h.1 t).symm,fun t=>(h.2 t).symm⟩
theorem Eqv.trans {a b c:St} (h:Eqv a b) (k:Eqv b c):Eqv a c:=⟨fun t=>(h.1 t).trans (k.1 t),fun t=>(h.2 t).trans (k.2 t)⟩
theorem Inv.eqv {nt:Nat} {J:Bool→Nat→Prop} {β:B5} {st st2:St} {a:Act} {w:World} (I:Inv Z nt J β st a w) (h:Eqv st st2):Inv Z nt J β st2 a w:=by
 have hr:∀ {x v},Rep J β st.h w x v→Rep J β st2.h w x v:=fun s=>Rep.ext ⟨fun _ _ y=>y,fun _ _ _=>rfl,fun b x e=>⟨x,⟨by rw[←h.2 b];exact e,rfl⟩,by cases q:x.dead<;>simp⟩,fun _ _ _ _=>Akw _⟩ s
 refine⟨⟨I.sim.jlt,I.sim.jft,I.sim.gl,fun b x e q z=>?_,fun b x e q z=>I.sim.mblk b x (by rw[h.2];exact e) q z,fun b F x x' k o o' e A=>I.sim.sep b F x x' k o o' (by rw[h.2];exact e) (by rw[h.2];exact A)⟩,⟨fun i v G=>by rw[←h.1 i];exact hr (I.ss.slot i v G),fun i hi=>by rw[←h.1 i];exact I.ss.out i hi⟩,I.tmps,I.defers,I.os,I.tape,I.output,I.size,I.frame,?_,I.jsub,I.jup,I.sizes,I.zlt,I.zge,fun b x0 x h0 s=>I.outs b x0 x h0 (by rw[h.2];exact s)⟩
 ·rcases I.sim.blk b x (by rw[h.2];exact e) q z with C | ⟨k,o,cs,ty,fr,C,K,L,M,D,O⟩
  ·exact .inl C
  ·exact .inr ⟨k,o,cs,ty,fr,C,K,L,M,⟨D.1,fun S j c y=>by
    obtain⟨u,T,U,V⟩:=D.2 S j c y
    exact⟨u,T,hr U,V⟩⟩,O⟩
 ·rintro k ⟨b,x,o,e,q,hs,X⟩ Y
  exact I.wr k ⟨b,x,o,by rw[h.2];exact e,q,hs,X⟩ Y
theorem gq {st:St} {k:St→O R} (hh:YR ops o st k=some r):∃ st',Eqv st st'∧k st'=some r:=by
 unfold YR at hh
 split at hh
 ·exact⟨st,Eqv.refl _,hh⟩
 ·rename_i j want y
  split at hh
  ·exact⟨st,Eqv.refl _,hh⟩
  ·rename_i t z
   split at hh
   ·rename_i b u
    have key:∀ c:Bool,b=c→Eqv st { s:=QQ st.s t (.bool c),h:=st.h }:=by
     intro c v
     refine⟨fun i=>?_,fun _=>rfl⟩
     simp only
     rw[Mb]
     by_cases e:i=t
     ·subst e;rw[if_pos rfl,u,v]
     ·rw[if_neg e]
    cases q:(b==want) with
    | true =>
     rw[q] at hh
     exact⟨_,key want (by simpa using q),hh⟩
    | false =>
     rw[q] at hh
     exact⟨_,key (!want) (by cases b<;>cases want<;>simp_all),hh⟩
   ·exact⟨st,Eqv.refl _,hh⟩
theorem gr {E:Env} (hC:QZ E) {Q:Exit→Act→World→Prop}:∀ (l:List Oper) {st:St} {tr:List Foot} {k:St→List Foot→O R} {a:Act} {w:World} {J:Bool→Nat→Prop} {β:B5},
  Inv Z E.nt J β st a w→gU E ops l st tr k=some r→(∀ st' b e w' J' β',Inv Z E.nt J' β' st' e w'→k st' b=some r→Q .normal e w')→wpList E.P ops Q l a w
 | [],st,tr,k,a,w,J,β,I,hh,hQ=>hQ st tr a w J β I hh
 | o::l,st,tr,k,a,w,J,β,I,hh,hQ=>by
  rw[gU] at hh
  obtain⟨Ad7,q,hh⟩:=gq hh
  obtain⟨st',f,s,u⟩:=gp (K:=wpList E.P ops Q l) (Q:=Q) hC (I.eqv q) hh
  have:=u (fun e w' J' β' I'=>gr hC l I' s hQ)
  rw[wpList]
  split
  ·rename_i j;rw[if_pos j] at this;exact .inl this
  ·rename_i j;rw[if_neg j] at this;exact this
end
end Gx
