/- A part of the proof; each theorem says what it holds. -/
import GoSem.Step
import Derived.KernelRfl
import Derived.WalkKit
import Derived.Deep.MidRow
import Derived.Deep.AppendSrc
import Derived.Laws.IdiomStrings
import Derived.Deep.Upon
import Derived.Lib.Builder
import Derived.Laws.BytesString
import Derived.Lib.UnsafeStr
import Derived.Laws.Externs
import Derived.Laws.Tables
import Derived.Laws.StructEq
import Derived.ChangeKeysEq
import Derived.MapKept
set_option linter.unusedVariables false
set_option linter.defProp false
set_option linter.unusedSimpArgs false
open Nat (ble beq)
open List (take drop replicate)
open Go.IntKind (wrap)
namespace Gx
abbrev Lu:=List UInt8
def Abz:=@Option.bind_assoc
def Ab0:=@List.take_of_length_le
def Ab1:=@List.getElem?_eq_getElem
def Ab2:=@Int.toNat_natCast
def Ab3:=@Nat.le_refl
def Ab4:=@List.length_append
def Ab5:=@Nat.eq_of_beq_eq_true
def Ab6:=@Bool.and_eq_true
def Ab7:=@List.getElem?_eq_some_iff
def Ab8:=@Nat.zero_add
def Ab9:=@List.getD_eq_getElem?_getD
def Aca:=@List.mem_append
def Acb:=@List.drop_zero
def Acc:=@List.map_cons
def Acd:=@List.length_cons
def Ace:=@List.take_succ_eq_append_getElem
def Acf:=@Nat.mul_one
def Acg:=@List.getElem_mem
def Ach:=@List.mem_cons
def Aci:=@List.drop_succ_cons
def Acj:=@List.take_left'
def Ack:=@List.drop_eq_getElem_cons
def Acl:=@List.all_cons
def Acm:=@List.head?_eq_getElem?
def Acn:=@Option.bind_some
def Aco:=@Nat.mul_le_mul_right
def Acp:=@List.append_nil
def Acq:=@Array.getElem?_eq_none
def Acr:=@List.getElem?_append
def Acs:=@List.mem_map
def Acu:=@List.nodup_cons
def Acv:=@Bool.not_false
def Acw:=@Nat.pow_succ
def Acx:=@Nat.add_assoc
def Acy:=@Bool.and_true
def Acz:=@Int.natCast_zero
def Ac0:=@Option.some.injEq
def Ac1:=@List.take_zero
def Ac2:=@List.getElem?_drop
def Ac3:=@Array.getElem?_eq_some_iff
def Ac4:=@Nat.add_zero
def Ac5:=@List.length_nil
def Ac6:=@Nat.min_eq_left
def Ac7:=@List.length_take
def Ac8:=@List.drop_eq_nil_of_le
def Ac9:=@List.getElem?_take
def Ada:=@List.cons_append
def Adb:=@Array.ext'
def Adc:=@List.mem_cons_of_mem
def Add:=@Nat.le_trans
def Ade:=@List.map_append
def Adf:=@List.nil_append
def Adg:=@Nat.mod_eq_of_lt
def Adh:=@List.all_nil
def Adi:=@Bool.or_true
def Adj:=@Nat.lt_of_lt_of_le
def Adk:=@Nat.eq_zero_or_pos
def Adl:=@List.length_map
def Adm:=@Nat.le_of_not_lt
def Adn:=@List.filter_cons
def Ado:=@Nat.mul_comm
def Adp:=@Nat.mul_le_mul_left
def Adq:=@List.eq_nil_of_length_eq_zero
def Adr:=@List.getElem?_map
def Ads:=@List.append_assoc
def Adt:=@Array.getElem?_modify
def Adu:=@List.getElem?_eq_none
def Adv:=@Bool.true_or
def Adw:=@Array.getElem?_setIfInBounds
def Adx:=@Bool.false_eq_true
def Ady:=@List.take_length
def Adz:=@Array.getD_eq_getD_getElem?
def Ad0:=@List.flatMap_cons
def Ad1:=@List.take_succ_cons
def Ad2:=@List.foldl_cons
def Ad3:=@List.mem_filter
def Ad4:=@Nat.div_add_mod
def Ad5:=@List.length_drop
def Ad6:=@Bool.false_or
def Ad7:=@Nat.mul_add
def Ad8:=@Nat.add_mul
def Ad9:=@Int.sign_eq_one_of_pos
def Aea:=@Bool.not_true
def Aeb:=@Int.sign_eq_neg_one_of_neg
def Aec:=@List.getElem?_append_right
def Aed:=@Int.mul_ediv_cancel_left
def Aee:=@Nat.mul_assoc
def Aef:=@Array.length_toList
def Aeg:=@Nat.mod_lt
def Aeh:=@List.map_map
def Aei:=@List.map_nil
def Aej:=@Bool.true_and
def Aek:=@List.drop_nil
def Ael:=@Nat.pow_le_pow_right
def Aem:=@Array.getElem?_append_left
def Aen:=@Nat.div_eq_of_lt
def Aeo:=@Nat.gcd_comm
def Aep:=@List.getElem?_append_left
def Aeq:=@List.map_congr_left
def Aer:=@List.getElem_of_mem
def Aes:=@List.filter_eq_self
def Aet:=@Nat.div_le_self
def Aeu:=@Nat.lt_of_le_of_lt
def Aev:=@BitVec.toNat_ofNat
def Aew:=@Array.getElem?_setIfInBounds_ne
def Aex:=@Option.bind_none
def Aey:=@List.all_eq_true
def Aez:=@List.mem_of_mem_take
def Ae0:=@Nat.zero_le
def Ae1:=@Nat.pow_add
def Ae2:=@Nat.le_max_left
def Ae3:=@Int.toNat_of_nonneg
def Ae4:=@List.replicate_succ
def Ae5:=@Nat.lt_or_ge
def Ae6:=@List.pairwise_cons
def Ae7:=@Nat.beq_eq
def Ae8:=@Int.natAbs_natCast
def Ae9:=@List.any_eq_false
def Afa:=@List.filter_congr
def Afb:=@Nat.dvd_mul_right
def Afc:=@Bool.not_eq_true'
def Afd:=@Nat.mul_left_comm
def Afe:=@Option.isSome_iff_exists
def Aff:=@List.getElem?_take_of_lt
def Afg:=@Array.size_setIfInBounds
def Afh:=@Nat.gcd_pos_of_pos_right
def Afi:=@List.getLast_eq_getElem
def Afj:=@Nat.mul_div_cancel_left
def Afk:=@List.length_eq_zero_iff
def Afl:=@List.flatMap_map
def Afm:=@List.not_mem_nil
def Afn:=@Nat.le_max_right
def Afo:=@Nat.add_comm
def Afp:=@Nat.ble_eq
def Afq:=@List.getElem_cons_succ
def Afr:=@Bool.or_comm
def Afs:=@Option.map_eq_some_iff
def Aft:=@List.getElem_cons_zero
def Afu:=@Nat.le_of_lt
def Afv:=@Nat.div_div_eq_div_mul
def Afw:=@Array.getElem?_toList
def Afx:=@List.set_getElem_self
def Afy:=@List.set_append_right
def Afz:=@Bool.false_and
def Af0:=@List.mem_of_getElem?
def Af1:=@Nat.add_mul_div_left
def Af2:=@List.getElem?_zipIdx
def Af3:=@List.pairwise_append
def Af4:=@Nat.pow_pos
def Af5:=@List.mapM_cons
def Af6:=@List.nodup_nil
def Af7:=@List.mem_map_of_mem
def Af8:=@List.flatMap_append
def Af9:=@Prod.mk.injEq
def Aga:=@Rat.den_mkRat
def Agb:=@Rat.num_mkRat
def Agc:=@List.set_cons_zero
def Agd:=@List.contains_cons
def Age:=@Nat.gcd_zero_right
def Agf:=@Array.ext_getElem?
def Agg:=@Nat.add_sub_cancel
def Agi:=@Nat.succ_mul
def Ags:=@Nat.pow_mul
end Gx
namespace Gx
open Go
inductive AV where
 | int (k:IntKind) (n:Int)
 | bool (b:Bool)
 | str (s:List UInt8)
 | nsl
 | imm (c:List AV) (len sz:Nat) (tight org:Bool)
 | iptr (c:List AV) (org:Bool)
 | pagg (c:List AV) (org:Bool)
 | own (b off len:Nat)
 | optr (b off:Nat)
 | agg (c:List AV)
 | tup (c:List AV)
 | fn (f:Nat) (caps:List AV)
 | nilptr
 | nilfn
 | undef
 | omap (b:Nat)
structure Blk where
 dead:Bool
 sealed:Bool
 pure:Bool
 taint:Bool
 sz:Nat
 cells:List AV
 mp:Bool:=false
 ty:Option (Nat×Nat):=none
abbrev LA:=List AV
abbrev O (R:Type):=Option R
abbrev Ao:=List (Nat×Blk)
abbrev Fe:=List (Nat×AV)
def Ag:Ao→Nat→Option Blk
 | [],_=>none
 | (i,x)::r,b=>cond (beq i b) (some x) (Ag r b)
def Dd:Ao→Nat→Blk→Ao
 | [],b,y=>[(b,y)]
 | (i,x)::r,b,y=>cond (beq i b) ((b,y)::r) (cond (Nat.blt b i) ((b,y)::(i,x)::r) ((i,x)::Dd r b y))
def Et:Fe→Nat→AV
 | [],_=>.undef
 | (i,x)::r,b=>cond (beq i b) x (Et r b)
def KK:Fe→Nat→AV→Fe
 | [],b,y=>[(b,y)]
 | (i,x)::r,b,y=>cond (beq i b) ((b,y)::r) (cond (Nat.blt b i) ((b,y)::(i,x)::r) ((i,x)::KK r b y))
structure St where
 s:Fe
 h:Ao
mutual
def RE:Value→AV
 | .int k n=>.int k n
 | .bool b=>.bool b
 | .string ⟨⟨s⟩⟩=>.str s
 | .slice none 0 0=>.nsl
 | .pointer none=>.nilptr
 | .nilFunc=>.nilfn
 | .agg ⟨cs⟩=>.agg (I8 cs)
 | _=>.undef
def I8:List Value→List AV
 | []=>[]
 | v::r=>RE v::I8 r
end
def ev (s:Fe):Operand→AV
 | .tmp t=>Et s t
 | .const v=>RE v
 | .func f=>cond (Nat.blt f 1000000) (.fn f []) .undef
 | .global _=>.undef
def Bh (P:Program) (t:TypeId):Option Nat:=(P.info? t).map (·.size)
def jO (P:Program) (t:TypeId):Option Nat:=(P.info? t).map (·.bytes)
def qk (P:Program) (t:TypeId):Bool:=((P.info? t).map (·.hasPointers)).getD true
def aG (P:Program) (t:TypeId):Option AV:=((P.info? t).bind (·.zero)).map RE
def Aw:LA→Bool
 | []=>true
 | .int ..::r=>Aw r
 | .bool _::r=>Aw r
 | .str _::r=>Aw r
 | .nsl::r=>Aw r
 | .nilptr::r=>Aw r
 | .nilfn::r=>Aw r
 | _=>false
def MA (P:Program) (t:TypeId):Option (LA) :=
 (P.info? t).bind fun i=>(i.zero).bind fun v=>cond (Aw (I8 v.cells.toList)&&beq v.cells.toList.length i.size) (some (I8 v.cells.toList)) none
def RF (op:BinOp) (k:IntKind) (a b:Int):Option AV :=
 match op with
 | .add=>some (.int k (k.wrap (a+b)))
 | .sub=>some (.int k (k.wrap (a - b)))
 | .mul=>some (.int k (k.wrap (a*b)))
 | .and=>some (.int k (k.wrap ((BitVec.ofInt k.bits a &&& BitVec.ofInt k.bits b).toNat:Int)))
 | .or=>some (.int k (k.wrap ((BitVec.ofInt k.bits a ||| BitVec.ofInt k.bits b).toNat:Int)))
 | .xor=>some (.int k (k.wrap ((BitVec.ofInt k.bits a ^^^ BitVec.ofInt k.bits b).toNat:Int)))
 | .andNot=>some (.int k (k.wrap ((BitVec.ofInt k.bits a &&& ~~~ (BitVec.ofInt k.bits b)).toNat:Int)))
 | .eql=>some (.bool (a==b))
 | .neq=>some (.bool (a != b))
 | .lss=>some (.bool (decide (a<b)))
 | .leq=>some (.bool (decide (a≤b)))
 | .gtr=>some (.bool (decide (a>b)))
 | .geq=>some (.bool (decide (a≥b)))
 | _=>none
def Jp (k k':IntKind):Bool:=decide (k=k')
def GB (P:Program) (t:TypeId):Bool:=match P.underlying t with | some .bool=>true | _=>false
def rj {R:Type} (P:Program) (t:TypeId) (op:BinOp) (x y:AV) (r:AV→O R):O R :=
 match x,y with
 | .int k a,.int k' b =>
  match op with
  | .shl=>cond (decide (b<0)) none (r (.int k (k.wrap (a*2 ^ (min b.toNat k.bits)))))
  | .shr=>cond (decide (b<0)) none (r (.int k (a.fdiv (2 ^ (min b.toNat k.bits)))))
  | .quo=>cond (Jp k k') (cond (b==0) none (r (.int k (k.wrap (a.tdiv b))))) none
  | .rem=>cond (Jp k k') (cond (b==0) none (r (.int k (a.tmod b)))) none
  | op=>cond (Jp k k') ((RF op k a b).bind r) none
 | .bool a,.bool b =>
  match op with
  | .eql=>cond (GB P t) (r (.bool (a==b))) none
  | .neq=>cond (GB P t) (r (.bool (!(a==b)))) none
  | _=>none
 | .str a,.str b =>
  match op with
  | .add=>cond (ble (a.length+b.length) 140737488355328) (r (.str (a++b))) none
  | .eql=>r (.bool (a==b))
  | .neq=>r (.bool (!(a==b)))
  | .lss=>r (.bool (Op.bytesLess a b))
  | .leq=>r (.bool (Op.bytesLess a b||a==b))
  | .gtr=>r (.bool (!(Op.bytesLess a b||a==b)))
  | .geq=>r (.bool (!Op.bytesLess a b))
  | _=>none
 | _,_=>none
def zT (op:UnOp) (x:AV):Option AV :=
 match op,x with
 | .neg,.int k n=>some (.int k (k.wrap (0 - n)))
 | .xor,.int k n=>RF .xor k (cond k.signed (-1) k.max) n
 | .not,.bool b=>some (.bool (!b))
 | _,_=>none
def CU (k:IntKind):AV→Option Int
 | .int k' n=>cond (Jp k k') (some n) none
 | _=>none
def asBool:AV→Option Bool
 | .bool b=>some b
 | _=>none
def UO:AV→Option Lu
 | .str s=>some s
 | _=>none
def l7 (sz:Nat):AV→Option (LA×Nat)
 | .imm c len sz' _ _=>cond (beq sz sz') (some (c,len)) none
 | .nsl=>some ([],0)
 | _=>none
def tL:AV→Option UInt8
 | .int .u8 n=>some (UInt8.ofNat n.toNat)
 | _=>none
def MB:LA→Option Lu
 | []=>some []
 | x::r=>(tL x).bind fun b=>(MB r).bind fun l=>some (b::l)
def Xa {R:Type} (step:TypeId→LA→LA→(Bool→O R)→O R) (x y:LA):List (Nat×TypeId)→(Bool→O R)→O R
 | [],k=>k true
 | (off,t)::r,k=>step t (x.drop off) (y.drop off) fun b=>Xa step x y r fun c=>k (b&&c)
def jP (P:Program) (sz:Nat) (f:Field):Bool:=match Bh P f.type with
 | some s => ble 1 s && (ble (f.offset + s) sz && !(f.name == "_"))
 | none=>false
def XY {R:Type} (P:Program):Nat→TypeId→LA→LA→(Bool→O R)→O R
 | 0,_,_,_,_=>none
 | d+1,t,x,y,k=>match P.underlying t with
  | some (.int kd)=>(x.head?).bind fun u=>(CU kd u).bind fun a=>(y.head?).bind fun v=>(CU kd v).bind fun b=>k (a==b)
  | some .bool=>(x.head?).bind fun u=>(asBool u).bind fun a=>(y.head?).bind fun v=>(asBool v).bind fun b=>k (a==b)
  | some .string=>(x.head?).bind fun u=>(UO u).bind fun a=>(y.head?).bind fun v=>(UO v).bind fun b=>k (a==b)
  | some (.struct fs)=>(Bh P t).bind fun sz=>cond (P.stoodInHeld t||!(fs.toList.all (jP P sz))) none (Xa (XY P d) x y (fs.toList.map fun f=>(f.offset,f.type)) k)
  | some (.array n e)=>(Bh P e).bind fun s=>(Bh P t).bind fun sz=>cond (ble 1 s&&ble (n*s) sz) (Xa (XY P d) x y ((List.range n).map fun i=>(i*s,e)) k) none
  | _=>none
def jQ:AV→Option (LA)
 | .pagg c _=>some c
 | .agg c=>some c
 | _=>none
def tM (P:Program) (t:TypeId):Bool:=match P.underlying t with | some (.struct _)=>true | some (.array _ _)=>true | _=>false
def hI {R:Type} (P:Program) (t:TypeId) (op:BinOp) (x y:AV) (r:AV→O R):O R :=
 match jQ x,jQ y with
 | some a,some b=>(Bh P t).bind fun s=>cond (ble 1 s&&(beq a.length s&&(beq b.length s&&(tM P t&&!(P.eqGuardType P.depth t)))))
  (match op with
   | .eql=>XY P 8 t a b fun c=>r (.bool c)
   | .neq=>XY P 8 t a b fun c=>r (.bool (!c))
   | _=>none) none
 | _,_=>rj P t op x y r
def R7 {R:Type} (P:Program) (t:TypeId) (c:LA) (org:Bool) (k:Bool→O R):O R :=
 cond (qk P t) (k org) (cond (!org||Aw c) (k false) none)
def CV {R:Type} (P:Program) (t:TypeId) (c:LA) (org:Bool) (k:AV→O R):O R :=
 match P.underlying t with
 | some (.int kd)=>(c.head?).bind fun x=>(CU kd x).bind fun n=>k (.int kd n)
 | some .bool=>(c.head?).bind fun x=>(asBool x).bind fun b=>k (.bool b)
 | some .string=>(c.head?).bind fun x=>(UO x).bind fun s=>k (.str s)
 | some (.slice e)=>(Bh P e).bind fun sz=>(c.head?).bind fun x=>(l7 sz x).bind fun p=>k (.imm p.1 p.2 sz false org)
 | some (.struct _)=>(Bh P t).bind fun n=>cond (ble n c.length) (R7 P t (c.take n) org fun o=>k (.pagg (c.take n) o)) none
 | some (.array _ _)=>(Bh P t).bind fun n=>cond (ble n c.length) (R7 P t (c.take n) org fun o=>k (.pagg (c.take n) o)) none
 | _=>none
def Y0 {R:Type} (n:Nat) (k:AV→O R):LA→Nat→O R
 | [],_=>none
 | v::r,i=>cond (beq n i) (k v) (Y0 n k r (i+1))
def UP {R:Type} (P:Program) (t:TypeId) (c:LA) (k:AV→O R):O R :=
 match P.underlying t with
 | some (.struct _)=>(Bh P t).bind fun n=>cond (ble n c.length) (k (.agg (c.take n))) none
 | some (.array _ _)=>(Bh P t).bind fun n=>cond (ble n c.length) (k (.agg (c.take n))) none
 | some _=>(c.head?).bind k
 | none=>none
def CW {R:Type} (P:Program) (t:TypeId) (c:LA) (off:Nat) (k:AV→O R):O R :=
 match P.underlying t with
 | some (.struct _)=>(Bh P t).bind fun n=>cond (ble n (c.drop off).length) (k (.agg ((c.drop off).take n))) none
 | some (.array _ _)=>(Bh P t).bind fun n=>cond (ble n (c.drop off).length) (k (.agg ((c.drop off).take n))) none
 | some _=>Y0 off k c 0
 | none=>none
abbrev A6:=Nat→Option Blk
def Em (g:A6) (b:Nat):Option Blk:=(g b).bind fun x=>cond x.dead none (some x)
def aH {R:Type} (P:Program) (g:A6) (t:TypeId) (p:AV) (k:AV→O R):O R :=
 match p with
 | .iptr c org=>CV P t c org k
 | .optr b off=>(Em g b).bind fun x=>cond x.pure (CV P t (x.cells.drop off) x.taint k) (CW P t x.cells off k)
 | _=>none
def Af (i:Int) (n:Nat):Bool:=decide (0≤i)&&decide (i<(n:Int))
def Om {R:Type} (P:Program) (t:TypeId) (x i:AV) (k:AV→O R):O R :=
 match P.underlying t,x,i with
 | some (.slice el),.imm c len sz _ org,.int _ i=>(Bh P el).bind fun sz'=>cond (beq sz sz') (cond (Af i len) (k (.iptr (c.drop (i.toNat*sz)) org)) none) none
 | some (.slice el),.own b off len,.int _ i=>(Bh P el).bind fun sz=>cond (Af i len) (k (.optr b (off+i.toNat*sz))) none
 | some (.array len el),.iptr c org,.int _ i=>(Bh P el).bind fun sz=>cond (Af i len) (k (.iptr (c.drop (i.toNat*sz)) org)) none
 | some (.array len el),.optr b off,.int _ i=>(Bh P el).bind fun sz=>cond (Af i len) (k (.optr b (off+i.toNat*sz))) none
 | _,_,_=>none
def ZY (P:Program) (t:TypeId) (f:Nat):Option (Nat×TypeId) :=
 match P.underlying t with
 | some (.struct fs)=>(fs[f]?).map fun x=>(x.offset,x.type)
 | _=>none
def On {R:Type} (P:Program) (t:TypeId) (x:AV) (f:Nat) (k:AV→O R):O R :=
 (ZY P t f).bind fun p=>(Bh P p.2).bind fun n=>cond (beq n 0) none
 (match x with
 | .iptr c org=>k (.iptr (c.drop p.1) org)
 | .optr b off=>k (.optr b (off+p.1))
 | _=>none)
def RG {R:Type} (P:Program) (t:TypeId) (x:AV) (f:Nat) (k:AV→O R):O R :=
 (ZY P t f).bind fun p =>
 match x with
 | .pagg c org=>CV P p.2 (c.drop p.1) org k
 | .agg c=>UP P p.2 (c.drop p.1) k
 | _=>none
def RH {R:Type} (P:Program) (t:TypeId) (x i:AV) (k:AV→O R):O R :=
 match P.underlying t,x,i with
 | some .string,.str s,.int _ i=>cond (Af i s.length) (k (.int .u8 ((s.getD i.toNat 0).toNat:Int))) none
 | some (.array len el),.pagg c org,.int _ i=>(Bh P el).bind fun sz=>cond (Af i len) (CV P el (c.drop (i.toNat*sz)) org k) none
 | some (.array len el),.agg c,.int _ i=>(Bh P el).bind fun sz=>cond (Af i len) (CW P el c (i.toNat*sz) k) none
 | _,_,_=>none
def MC (o:Option AV) (d:Nat):Option Int:=match o with | none=>some (d:Int) | some (.int _ i)=>some i | _=>none
def R8 {R:Type} (lo hi mx:Option AV) (n:Nat) (k:Nat→Nat→O R):O R :=
 (MC lo 0).bind fun l=>(MC hi n).bind fun h=>(MC mx n).bind fun m=>cond (mx.isSome&&!hi.isSome) none <|
 cond (decide (0≤l)&&(decide (l≤h)&&(decide (h≤m)&&decide (m≤(n:Int))))) (k l.toNat h.toNat) none
def ql (tight:Bool) (hi mx:Option AV):Bool:=match hi,mx with | none,none=>tight | some (.int _ a),some (.int _ b)=>a==b | _,_=>false
def RI {R:Type} (P:Program) (g:A6) (t:TypeId) (x:AV) (lo hi mx:Option AV) (k:AV→O R):O R :=
 match P.underlying t,x with
 | some .string,.str s=>cond mx.isSome none (R8 lo hi none s.length fun l h=>k (.str ((s.drop l).take (h - l))))
 | some (.slice el),.nsl=>(Bh P el).bind fun _=>R8 lo hi mx 0 fun _ _=>k .nsl
 | some (.slice el),.imm c n sz tight org=>(Bh P el).bind fun sz'=>cond (beq sz sz') (R8 lo hi mx n fun l h =>
   k (.imm ((c.drop (l*sz)).take ((h - l)*sz)) (h - l) sz (ql tight hi mx) org)) none
 | some (.slice el),.own b off n=>(Bh P el).bind fun sz=>(Em g b).bind fun y=>cond (beq sz y.sz) (R8 lo hi mx n fun l h=>k (.own b (off+l*sz) (h - l))) none
 | some (.array n el),.optr b off=>(Bh P el).bind fun _=>(Em g b).bind fun y=>cond (beq y.sz 0&&(ble (off+n) y.cells.length&&(lo.isNone&&(hi.isNone&&mx.isNone)))) (k (.own b off n)) none
 | _,_=>none
def wk (P:Program) (t:TypeId) (x:AV):Option AV :=
 match P.underlying t,x with
 | some (.slice _),.nsl=>some (.int .i64 0)
 | some (.slice _),.imm _ n _ _ _=>some (.int .i64 n)
 | some (.slice _),.own _ _ n=>some (.int .i64 n)
 | some .string,.str s=>some (.int .i64 s.length)
 | some (.array n _),_=>some (.int .i64 n)
 | _,_=>none
def IE (g:A6) (sz:Nat):AV→Option (LA×Nat×Bool)
 | .nsl=>some ([],0,false)
 | .imm c n sz' _ org=>cond (beq sz sz') (some (c,n,org)) none
 | .own b off n=>(Em g b).bind fun x=>cond (x.pure&&beq sz x.sz) (some ((x.cells.drop off).take (n*sz),n,x.taint)) none
 | .str s=>cond (beq sz 1) (some (s.map fun b=>.int .u8 (b.toNat:Int),s.length,false)) none
 | _=>none
def KL {R:Type} (P:Program) (el:TypeId) (g:A6) (sz:Nat) (x:AV) (k:LA×Nat×Bool→O R):O R :=
 (IE g sz x).bind fun q=>R7 P el q.1 q.2.2 fun o=>k (q.1,q.2.1,o)
abbrev Do:=List (Nat×Option Blk)
def IF (g:A6):AV→Option (AV×Do×Bool)
 | .own b off n=>(Em g b).bind fun x=>cond x.pure (some (.imm ((x.cells.drop off).take (n*x.sz)) n x.sz false x.taint,[(b,some { x with sealed:=true })],x.taint)) none
 | .optr .. | .agg _ | .tup _ | .undef | .fn .. | .omap _=>none
 | .imm c n sz t org=>some (.imm c n sz t org,[],org)
 | .iptr c org=>some (.iptr c org,[],org)
 | .pagg _ _=>none
 | v=>some (v,[],false)
def Tp (g:A6):LA→Option (LA×Do×Bool)
 | []=>some ([],[],false)
 | v::r=>(IF g v).bind fun p=>(Tp g r).bind fun q=>some (p.1::q.1,p.2.1++q.2.1,p.2.2||q.2.2)
def Th (g:A6):AV→Option (LA×Do×Bool)
 | .pagg c org=>some (c,[],org)
 | .agg c=>Tp g c
 | v=>Tp g [v]
def Cy (c:LA) (off:Nat) (vs:LA):LA:=c.take off++vs++c.drop (off+vs.length)
def A3:Do→Nat→Bool
 | [],_=>false
 | (i,_)::r,b=>cond (beq i b) true (A3 r b)
def Xb (g:A6):AV→Bool
 | .own b _ _=>(Em g b).isSome
 | .optr b _=>(Em g b).isSome
 | .agg _=>false
 | .pagg _ _=>false
 | .tup _=>false
 | .undef=>false
 | .omap _=>false
 | _=>true
def Kk (g:A6):LA→Bool
 | []=>true
 | v::r=>Xb g v&&Kk g r
def setCells (c:LA) (off:Nat) (vs:LA):LA:=match vs with | [y]=>c.set off y | ys=>Cy c off ys
def RK {R:Type} (P:Program) (g:A6) (t:TypeId) (p v:AV) (k:AV→Do→O R):O R :=
  match p with
  | .optr b off=>(Em g b).bind fun x=>(Bh P t).bind fun n =>
    cond x.sealed none
    (cond x.pure
      ((Th g v).bind fun q=>cond (beq q.1.length n&&(ble (off+n) x.cells.length&&!A3 q.2.1 b))
        (k .undef (q.2.1++[(b,some { x with cells:=setCells x.cells off q.1,taint:=x.taint||q.2.2 })])) none)
      (match v with
        | .agg c=>cond (Kk g c&&(beq c.length n&&ble (off+n) x.cells.length)) (k .undef [(b,some { x with cells:=Cy x.cells off c })]) none
        | .pagg c org=>cond (beq off 0&&(beq c.length n&&beq x.cells.length n)) (k .undef [(b,some { x with pure:=true,taint:=org,cells:=c })]) none
        | v=>cond (Xb g v&&(beq n 1&&Nat.blt off x.cells.length)) (k .undef [(b,some { x with cells:=x.cells.set off v })]) none))
  | _=>none
def Fu:Nat:=1000000
def nid (d:Nat):Nat:=1000000+d*16
def jR (P:Program) (t:TypeId):Option (Nat×Nat) :=
 match P.underlying t with
 | some (.struct fs)=>(fs[0]?).bind fun f=>match P.underlying f.type with
  | some (.pointer u)=>cond (beq u t) ((Bh P t).map fun n=>(t,n)) none
  | some (.struct gs)=>(gs[0]?).bind fun g=>match P.underlying g.type with
   | some (.pointer u)=>cond (beq u f.type) ((Bh P t).map fun n=>(t,n)) none
   | _=>none
  | _=>none
 | _=>none
def Nc (d:Nat) (pure taint:Bool) (sz:Nat) (cells:LA):Do :=
 [(nid d,some { dead:=false,sealed:=false,pure,taint,sz,cells })]
def l8 {R:Type} (P:Program) (g:A6) (d:Nat) (t:TypeId) (v:AV) (k:AV→Do→O R):O R :=
 match v with
 | .pagg c org=>k (.optr (nid d) 0) (Nc d true org 0 c)
 | .agg c =>
  cond (qk P t) (cond (Kk g c&&beq c.length ((Bh P t).getD 0)) (k (.optr (nid d) 0) [(nid d,some { dead:=false,sealed:=false,pure:=false,taint:=false,sz:=0,cells:=c,ty:=jR P t })]) none)
   ((Tp g c).bind fun q=>k (.optr (nid d) 0) (q.2.1++Nc d true q.2.2 0 q.1))
 | v=>cond (Xb g v) (k (.optr (nid d) 0) (Nc d false false 0 [v])) none
def Eu (sz:Nat):Blk:={ dead:=false,sealed:=false,pure:=true,taint:=false,sz,cells:=[] }
def tN (co:Bool) (v:AV):AV:=match co,v with
 | true,.agg c=>cond (Aw c) (.pagg c false) (.agg c)
 | _,v=>v
def RL {R:Type} (P:Program) (g:A6) (co:Bool) (d:Nat) (t:TypeId) (k:AV→Do→O R):O R :=
 match P.underlying t,aG P t with
 | some (.slice el),some .nsl=>(Bh P el).bind fun sz=>k (.optr (nid d) 0) [(nid d+1,some (Eu sz)),(nid d,some { dead:=false,sealed:=false,pure:=false,taint:=false,sz:=0,cells:=[.own (nid d+1) 0 0] })]
 | _,some z=>l8 P g d t (tN co z) k
 | _,none=>none
def K3 (place:Nat→Option (Nat×Nat)):List (Nat×LA)→LA→Option (LA)
 | [],c=>some c
 | (i,vs)::r,c=>(place i).bind fun p=>cond (beq vs.length p.2&&ble (p.1+p.2) c.length) (K3 place r (setCells c p.1 vs)) none
def aI {R:Type} (place:Nat→Option (Nat×Nat)):List (Nat×LA)→LA→(LA→O R)→O R
 | [],c,k=>k c
 | (i,vs)::r,c,k=>(place i).bind fun p=>cond (beq vs.length p.2&&ble (p.1+p.2) c.length) (aI place r (setCells c p.1 vs) k) none
def Dy (n:Nat) (z:LA):LA:=match z with | [v]=>replicate n v | z=>(replicate n z).flatten
def Xc (g:A6):List (Nat×AV)→Option (List (Nat×LA)×Do×Bool)
 | []=>some ([],[],false)
 | (i,v)::r=>(Th g v).bind fun q=>(Xc g r).bind fun q'=>some ((i,q.1)::q'.1,q.2.1++q'.2.1,q.2.2||q'.2.2)
def tO:AV→Bool
 | .optr ..=>true
 | .fn _ (_::_)=>true
 | _=>false
def Oo {R:Type} (P:Program) (g:A6) (d:Nat) (t:TypeId) (len:Nat) (parts:List (Nat×AV)) (k:AV→Do→O R):O R :=
 match P.underlying t with
 | some (.slice el)=>(Bh P el).bind fun sz=>(MA P el).bind fun z =>
  cond (beq sz 1&&(ble len 16777216&&Kk g (parts.map (·.2)))) ((K3 (fun i=>some (i*1,1)) (parts.map fun p=>(p.1,[p.2])) (Dy len z)).bind fun cells =>
   k (.own (nid d) 0 len) (Nc d false false 1 cells)) none
 | _=>none
def Mu {R:Type} (P:Program) (g:A6) (d:Nat) (t:TypeId) (len:Nat) (parts:List (Nat×AV)) (k:AV→Do→O R):O R :=
 match P.underlying t with
 | some (.slice el)=>(Bh P el).bind fun sz=>(MA P el).bind fun z=>(Xc g parts).bind fun q =>
  cond (ble (len*sz) 16777216) (aI (fun i=>some (i*sz,sz)) q.1 (Dy len z) fun cells =>
   k (.own (nid d) 0 len) (q.2.1++Nc d true q.2.2 sz cells)) none
 | _=>none
def KM:AV→Bool
 | .own .. | .optr .. | .fn .. | .undef | .agg _ | .pagg _ _ | .tup _ | .omap _=>true
 | _=>false
def aJ:AV→Bool
 | .agg c=>c.any KM
 | .pagg _ _=>false
 | v=>KM v
def cellsOf:AV→LA
 | .agg c=>c
 | .pagg c _=>c
 | v=>[v]
def jS:AV→Bool
 | .imm _ _ _ _ o=>o
 | .iptr _ o=>o
 | _=>false
def UQ:AV→Bool
 | .pagg _ o=>o
 | .agg c=>c.any jS
 | v=>jS v
def Y1:AV→Bool
 | .pagg _ _=>true
 | _=>false
def MD (P:Program) (t:TypeId):Option (Nat→Option (Nat×Nat)) :=
 match P.underlying t with
 | some (.array _ e)=>(P.info? e).map fun ie=>fun i=>some (i*ie.size,ie.size)
 | some (.struct fs)=>(fs.toList.mapM fun f=>(P.info? f.type).map fun i=>(f.offset,i.size)).map fun pl=>fun i=>pl[i]?
 | _=>none
def hU (P:Program) (t:TypeId):Option (LA):=(P.info? t).bind fun i=>(i.zero).map fun v=>I8 v.cells.toList
def Ek:List (Nat×AV)→List (Nat×LA)
 | []=>[]
 | (i,v)::r=>(i,cellsOf v)::Ek r
def l_ (o:Bool):AV→AV
 | .imm c n s t _=>.imm c n s t o
 | .iptr c _=>.iptr c o
 | v=>v
def aK:AV→LA
 | .agg c=>c
 | .pagg c o=>c.map (l_ o)
 | v=>[v]
def Hn:List (Nat×AV)→List (Nat×LA)
 | []=>[]
 | (i,v)::r=>(i,aK v)::Hn r
def CX:AV→Bool
 | .undef=>false
 | .tup _=>false
 | .omap _=>false
 | _=>true
def jT (P:Program) (t:TypeId) (parts:List (Nat×AV)):Option AV :=
 (MD P t).bind fun place=>cond (parts.all fun p=>CX p.2) (
 cond (parts.any fun p=>Y1 p.2)
  (cond (parts.any fun p=>aJ p.2) ((hU P t).bind fun z=>(K3 place (Hn parts) z).map fun c=>.agg c) ((MA P t).bind fun z=>(K3 place (Ek parts) z).map fun c=>.pagg c (parts.any fun p=>UQ p.2)))
  ((hU P t).bind fun z=>(K3 place (Ek parts) z).map fun c=>.agg c)) none
def jU {R:Type} (P:Program) (t:TypeId) (parts:List (Nat×AV)) (k:AV→O R):O R :=
 (MD P t).bind fun place=>cond (parts.all fun p=>CX p.2) (
 cond (parts.any fun p=>Y1 p.2)
  (cond (parts.any fun p=>aJ p.2) ((hU P t).bind fun z=>aI place (Hn parts) z fun c=>k (.agg c)) ((MA P t).bind fun z=>aI place (Ek parts) z fun c=>k (.pagg c (parts.any fun p=>UQ p.2))))
  ((hU P t).bind fun z=>aI place (Ek parts) z fun c=>k (.agg c))) none
def rk (P:Program) (t:TypeId):List (Nat×Nat) :=
 match P.underlying t with
 | some (.struct fs)=>fs.toList.filterMap fun f=>match P.underlying f.type with | some (.slice el)=>(Bh P el).map fun s=>(f.offset,s) | _=>none
 | _=>[]
def Nf (P:Program) (t:TypeId):List (Nat×Nat) :=
 match P.underlying t with
 | some (.struct fs)=>fs.toList.flatMap fun f=>match P.underlying f.type with
  | some (.slice el)=>((Bh P el).map fun s=>(f.offset,s)).toList
  | some (.struct _)=>(rk P f.type).map fun p=>(f.offset+p.1,p.2)
  | _=>[]
 | _=>[]
def Ew (d:Nat):List (Nat×Nat)→Nat→LA→LA×Do
 | [],_,c=>(c,[])
 | (o,sz)::r,j,c=>match c[o]? with
  | some .nsl=>((Ew d r (j+1) (c.set o (.own (nid d+j) 0 0))).1,(nid d+j,some (Eu sz))::(Ew d r (j+1) (c.set o (.own (nid d+j) 0 0))).2)
  | _=>Ew d r (j+1) c
def rm {R:Type} (P:Program) (t:TypeId) (co:Bool) (d:Nat) (v:AV) (k:AV→Do→O R):O R :=
 match co,v with
 | true,.agg c=>cond (ble (Nf P t).length 14) (k (.agg (Ew d (Nf P t) 1 c).1) (Ew d (Nf P t) 1 c).2) none
 | _,v=>k v []
def GC {R:Type} (P:Program) (g:A6) (d:Nat) (t:TypeId) (k:AV→Do→O R):O R :=
 match aG P t with
 | some (.agg c)=>cond (ble (Nf P t).length 14&&Kk g c) (k (.optr (nid d) 0) ((Ew d (Nf P t) 1 c).2++Nc d false false 0 (Ew d (Nf P t) 1 c).1)) none
 | _=>none
def qn (P:Program):Nat→TypeId→Nat→List (Nat×TypeId)
 | 0,t,off=>[(off,t)]
 | d+1,t,off=>match P.underlying t with
  | some (.struct fs)=>fs.toList.flatMap fun f=>qn P d f.type (off+f.offset)
  | _=>[(off,t)]
def tP (P:Program) (t:TypeId):Bool:=match P.underlying t with
 | some (.int _)=>true | some .bool=>true | some .string=>true | some (.slice _)=>true | _=>false
def ME {R:Type} (P:Program) (c:LA) (org:Bool):List (Nat×TypeId)→LA→(LA→O R)→O R
 | [],acc,k=>k acc
 | (off,t)::r,acc,k=>cond (beq off acc.length&&tP P t) (CV P t (c.drop off) org fun v=>ME P c org r (acc++[v]) k) none
def RM {R:Type} (P:Program) (co:Bool) (t:TypeId) (v:AV) (k:AV→O R):O R :=
 match co,v with
 | true,.pagg c org=>ME P c org (qn P 4 t 0) [] fun l=>cond (beq c.length l.length) (k (.agg l)) none
 | _,v=>k v
def hY {R:Type} (P:Program) (d:Nat) (t:TypeId) (len cap:AV) (k:AV→Do→O R):O R :=
 match P.underlying t,len,cap with
 | some (.slice el),.int .i64 l,.int .i64 c=>(Bh P el).bind fun sz=>(jO P el).bind fun by_=>(MA P el).bind fun z =>
  cond (decide (0≤l)&&(decide (l≤c)&&(decide (c≤140737488355328)&&decide (c*(by_:Int)≤140737488355328)))) (
   k (.own (nid d) 0 l.toNat) (Nc d true false sz (Dy l.toNat z))) none
 | _,_,_=>none
def qo (g:A6) (sz:Nat) (s:AV):Option (LA×Nat×Bool×Do) :=
 match s with
 | .nsl=>some ([],0,false,[])
 | .imm _ n _ true _=>cond (beq n 0) (some ([],0,false,[])) none
 | .own b off n=>(Em g b).bind fun x=>cond (x.pure&&(!x.sealed&&beq sz x.sz)) (some ((x.cells.drop off).take (n*sz),n,x.taint,[(b,none)])) none
 | _=>none
def UR (P:Program) (g:A6) (el tx:TypeId) (s:AV):Option (Nat×Nat) :=
 match s with
 | .nsl=>match P.underlying tx with | some .string=>some (el,0) | _=>none
 | .own b off _=>(Em g b).bind fun x=>(x.ty).bind fun q=>cond (beq q.1 el&&(beq q.2 0&&beq off 0)) (some (el,0)) none
 | _=>none
def jV (P:Program) (t:TypeId):Bool:=match P.underlying t with | some (.slice _)=>true | some .string=>true | _=>false
def GD {R:Type} (P:Program) (g:A6) (d:Nat) (t tx:TypeId) (s x:AV) (k:AV→Do→O R):O R :=
 match P.underlying t with
 | some (.slice el)=>cond (jV P tx) ( (Bh P el).bind fun sz=>(jO P el).bind fun by_=>(MA P el).bind fun _ =>
  (qo g sz s).bind fun old=>KL P el g sz x fun new =>
  cond (ble (old.2.1+new.2.1) 140737488355328&&ble ((old.2.1+new.2.1)*by_) 140737488355328) (
   k (.own (nid d) 0 (old.2.1+new.2.1)) (old.2.2.2++[(nid d,some { dead:=false,sealed:=false,pure:=true,taint:=old.2.2.1||new.2.2,sz,cells:=old.1++new.1,ty:=UR P g el tx s })])) none) none
 | _=>none
def KN {R:Type} (kd:IntKind):Nat→LA→(LA→O R)→O R
 | 0,_,k=>k []
 | n+1,c,k=>(c.head?).bind fun x=>(CU kd x).bind fun v=>KN kd n (c.drop 1) fun l=>k (.int kd v::l)
def RN {R:Type} (P:Program) (el sz b off n:Nat) (y:Blk) (new:LA×Nat×Bool) (k:AV→Do→O R):O R :=
 match P.underlying el with
 | some (.int kd)=>cond (beq sz 1&&(ble 1 n&&(beq y.sz 0&&(!y.sealed&&(!y.pure&&(ble n new.2.1&&ble (off+n) y.cells.length)))))) (
   KN kd n new.1 fun vs=>k (.int .i64 (n:Nat)) [(b,some { y with cells:=Cy y.cells off vs })]) none
 | _=>none
def hZ {R:Type} (P:Program) (g:A6) (t:TypeId) (s x:AV) (k:AV→Do→O R):O R :=
 match P.underlying t,s with
 | some (.slice el),.own b off n=>(Bh P el).bind fun sz=>(Em g b).bind fun y=>KL P el g sz x fun new =>
  cond (y.pure&&(!y.sealed&&beq sz y.sz)) (
   k (.int .i64 (min new.2.1 n:Nat)) [(b,some { y with cells:=Cy y.cells off (new.1.take ((min new.2.1 n)*sz)),taint:=y.taint||new.2.2 })]) (RN P el sz b off n y new k)
 | some (.slice el),.nsl=>(Bh P el).bind fun sz=>KL P el g sz x fun _=>k (.int .i64 0) []
 | _,_=>none
def RO {R:Type} (P:Program) (g:A6) (t:TypeId) (s:AV) (k:AV→Do→O R):O R :=
 match P.underlying t,s with
 | some (.slice el),.own b off n=>(Bh P el).bind fun sz=>(MA P el).bind fun z=>(Em g b).bind fun y =>
  cond (y.pure&&(!y.sealed&&beq sz y.sz)) (k (.tup []) [(b,some { y with cells:=Cy y.cells off (Dy n z) })]) none
 | _,_=>none
def h_ {R:Type} (P:Program) (g:A6) (d:Nat) (src dst:TypeId) (x:AV) (k:AV→Do→O R):O R :=
 match P.underlying dst with
 | some (.int kd)=>match x with | .int _ n=>cond (P.underlying src).isSome (k (.int kd (kd.wrap n)) []) none | _=>none
 | some .string=>match P.underlying src with
  | some .string=>match x with | .str s=>k (.str s) [] | _=>none
  | some (.slice el)=>match P.underlying el with
   | some (.int .u8)=>match x with
    | .str _=>none
    | x=>(IE g 1 x).bind fun q=>(MB q.1).bind fun s=>k (.str s) []
   | _=>none
  | _=>none
 | some (.slice el)=>match P.underlying src,P.underlying el,x with
  | some (.slice _),some (.int .u8),.own b off n=>cond (beq src dst&&ble 1 n) ((Em g b).bind fun x=>cond x.sealed none (k (.own b off n) [])) none
  | some .string,some (.int .u8),.str s=>k (.own (nid d) 0 s.length) (Nc d true false 1 (s.map fun b=>.int .u8 (b.toNat:Int)))
  | _,_,_=>none
 | _=>none
def RP {R:Type} (P:Program) (g:A6) (d:Nat) (src dst:TypeId) (x:AV) (k:AV→Do→O R):O R :=
 match P.underlying dst with
 | some .unsafePointer=>match P.underlying src,x with
  | some (.pointer t),.optr b off=>(Bh P t).bind fun n=>(Em g b).bind fun y=>cond (!(beq n 0)&&Nat.blt off y.cells.length) (k (.optr b off) []) none
  | _,_=>none
 | some (.pointer u)=>match P.underlying src,x with
  | some .unsafePointer,.optr b off=>(Bh P u).bind fun _=>(Em g b).bind fun y=>(y.ty).bind fun q =>
    cond (Nat.blt 0 q.2&&(Nat.blt 0 y.cells.length&&liesAt P P.depth q.1 (q.2/P.cellsOf q.1) off u 1)) (k (.optr b off) []) none
  | _,_=>none
 | _=>h_ P g d src dst x k
def jX:AV→Option UInt8
 | .int .u8 n=>cond (decide (((UInt8.ofNat n.toNat).toNat:Int)=n)) (some (UInt8.ofNat n.toNat)) none
 | _=>none
def CY:LA→Option Lu
 | []=>some []
 | x::r=>(jX x).bind fun b=>(CY r).bind fun l=>some (b::l)
def Oq {R:Type} (g:A6) (x:AV) (k:AV→Do→O R):O R :=
 match x with
 | .nsl=>k .nilptr []
 | .own b off n=>(Em g b).bind fun _=>cond (Nat.blt 0 n) (k (.optr b off) []) none
 | _=>none
def Ot {R:Type} (P:Program) (g:A6) (t:TypeId) (x n:AV) (k:AV→Do→O R):O R :=
 match x,n with
 | .nilptr,.int .i64 n=>cond (n==0) (k (.str []) []) none
 | .optr b off,.int .i64 n=>(Em g b).bind fun y=>(y.ty).bind fun q=>match P.underlying t with
  | some (.pointer e)=>cond (beq q.1 e&&(beq (P.cellsOf e) 1&&(y.pure&&(!y.sealed&&(beq off 0&&(decide (0<n)&&(decide (n≤(y.cells.length:Int))&&decide (n≤9223372036854775807))))))))
    ((CY (y.cells.take n.toNat)).bind fun s=>k (.str s) [(b,none)]) none
  | _=>none
 | _,_=>none
def aL:LA→Int→Bool
 | [],_=>false
 | .int _ m::r,n=>cond (n==m) true (aL r n)
 | _::r,n=>aL r n
def tQ (c:LA) (n:Int):LA:=cond (aL c n) c (c++[.int .i64 n])
def jY (P:Program) (t:TypeId):Bool:=match P.underlying t with
 | some (.map k e)=>(match P.underlying k with | some (.int .i64)=>true | _=>false)&&(match aG P e with | some (.bool false)=>true | _=>false)
 | _=>false
def Tq {R:Type} (d:Nat) (r:Option AV) (k:AV→Do→O R):O R :=
 match r with
 | none=>k (.omap (nid d)) [(nid d,some { dead:=false,sealed:=false,pure:=true,taint:=false,sz:=0,cells:=[],mp:=true })]
 | some _=>none
def RQ {R:Type} (P:Program) (g:A6) (t:TypeId) (m key val:AV) (k:AV→Do→O R):O R :=
 match m,key,val with
 | .omap b,.int .i64 n,.bool true=>cond (jY P t) ((Em g b).bind fun x=>cond (x.mp&&beq x.sz 0) (k .undef [(b,some { x with cells:=tQ x.cells n })]) none) none
 | _,_,_=>none
def iA {R:Type} (P:Program) (g:A6) (t:TypeId) (m key:AV) (comma:Bool) (k:AV→O R):O R :=
 match m,key,comma with
 | .omap b,.int .i64 n,false=>cond (jY P t) ((Em g b).bind fun x=>cond (x.mp&&beq x.sz 0) (k (.bool (aL x.cells n))) none) none
 | _,_,_=>none
def rn (s:Lu) (p:Int):Nat×Nat:=Utf8.decode ⟨⟨s⟩⟩ p.toNat
def RR {R:Type} (P:Program) (d:Nat) (t:TypeId) (x:AV) (k:AV→Do→O R):O R :=
 match P.underlying t,x with
 | some .string,.str s=>k (.omap (nid d)) [(nid d,some { dead:=false,sealed:=false,pure:=true,taint:=false,sz:=1,cells:=[.str s,.int .i64 0],mp:=true })]
 | _,_=>none
def iB {R:Type} (g:A6) (it:AV) (isString:Bool) (k:AV→Do→O R):O R :=
 match it,isString with
 | .omap b,true=>(Em g b).bind fun x=>cond (x.mp&&beq x.sz 1)
  (match x.cells with
   | [.str s,.int .i64 p]=>cond (decide (p<(s.length:Int)))
     (k (.tup [.bool true,.int .i64 p,.int .i32 ((rn s p).1:Nat)]) [(b,some { x with cells:=[.str s,.int .i64 (p+((rn s p).2:Nat))] })]) (k (.tup [.bool false]) [])
   | _=>none) none
 | _,_=>none
def tR (g:A6) (x y:AV):Option Bool :=
 match x,y with
 | .nilptr,.nilptr=>some true
 | .nilptr,.optr _ _=>some false
 | .optr _ _,.nilptr=>some false
 | .nilptr,.iptr _ _=>some false
 | .iptr _ _,.nilptr=>some false
 | .optr b o,.optr b' o'=>(Em g b).bind fun _=>cond (beq b b') (some (beq o o')) none
 | _,_=>none
def o7 (P:Program) (t:TypeId):Bool:=match P.underlying t with
 | some (.pointer e)=>match Bh P e with | some n=>!(beq n 0) | none=>false
 | _=>false
def iC {R:Type} (P:Program) (g:A6) (t:TypeId) (op:BinOp) (x y:AV) (r:AV→O R):O R :=
 match tR g x y with
 | some b=>cond (o7 P t) (match op with
  | .eql=>r (.bool b)
  | .neq=>r (.bool (!b))
  | _=>none) none
 | none=>hI P t op x y r
mutual
def Ff:AV→List Nat
 | .own b _ _=>[b]
 | .optr b _=>[b]
 | .omap b=>[b]
 | .agg c=>Gl c
 | .tup c=>Gl c
 | .fn _ c=>Gl c
 | _=>[]
def Gl:List AV→List Nat
 | []=>[]
 | v::r=>Ff v++Gl r
end
mutual
def HN (ρ:Nat→Nat):AV→AV
 | .own b off n=>.own (ρ b) off n
 | .optr b off=>.optr (ρ b) off
 | .omap b=>.omap (ρ b)
 | .agg c=>.agg (Rs ρ c)
 | .tup c=>.tup (Rs ρ c)
 | .fn f c=>.fn f (Rs ρ c)
 | v=>v
def Rs (ρ:Nat→Nat):List AV→List AV
 | []=>[]
 | v::r=>HN ρ v::Rs ρ r
end
def Y2 (g:A6):AV→Option (AV×Bool)
 | .own b off n=>(Em g b).bind fun x=>cond x.pure (some (.imm ((x.cells.drop off).take (n*x.sz)) n x.sz false (!x.sealed||x.taint),!x.sealed||x.taint)) none
 | .imm c n sz _ org=>some (.imm c n sz false org,org)
 | .iptr c org=>some (.iptr c org,org)
 | .optr .. | .agg _ | .tup _ | .undef | .fn .. | .pagg .. | .omap _=>none
 | v=>some (v,false)
def CZ (g:A6):LA→Option (LA×Bool)
 | []=>some ([],false)
 | v::r=>(Y2 g v).bind fun p=>(CZ g r).bind fun q=>some (p.1::q.1,p.2||q.2)
def jZ (g:A6):AV→Option (AV×Bool)
 | .own b off n=>(Em g b).bind fun x=>cond x.pure (some (.imm ((x.cells.drop off).take (n*x.sz)) n x.sz false (!x.sealed||x.taint),!x.sealed)) none
 | .imm c n sz _ org=>some (.imm c n sz false org,false)
 | .optr b off=>(Em g b).bind fun x=>cond x.pure (some (.iptr (x.cells.drop off) (!x.sealed||x.taint),!x.sealed)) none
 | .agg c=>(CZ g c).bind fun q=>some (.pagg q.1 q.2,true)
 | .fn f []=>some (.fn f [],false)
 | .fn _ _ | .tup _ | .undef | .omap _=>none
 | v=>some (v,false)
def Gz (d:Nat):List (Nat×Nat)→Nat→Nat
 | [],_=>d
 | (i,x)::r,b=>cond (beq i b) x (Gz d r b)
def Gm:List Nat→Nat→Bool
 | [],_=>false
 | i::r,b=>cond (beq i b) true (Gm r b)
def US:List Nat→List Nat→List Nat
 | [],acc=>acc.reverse
 | i::r,acc=>cond (Gm acc i) (US r acc) (US r (i::acc))
def C_:List Nat→Bool
 | []=>true
 | i::r=>!Gm r i&&C_ r
def At (base:Nat):List Nat→List (Nat×Nat)
 | []=>[]
 | i::r=>(i,base)::At (base+1) r
def Iq (g:A6):List Nat→List Nat
 | []=>[]
 | b::r=>(match g b with | some x=>cond x.pure [] (Gl x.cells) | none=>[])++Iq g r
def Tr (g:A6) (ids:List Nat):List Nat:=US (ids++Iq g (ids++Iq g ids)) []
def C' (g:A6):List Nat→Bool
 | []=>true
 | b::r=>(match g b with | some x=>!x.dead | none=>false)&&C' g r
def U3 (ρ:Nat→Nat) (x:Blk):Blk:={ x with cells:=cond x.pure x.cells (Rs ρ x.cells) }
def sub (g:A6) (ρ:Nat→Nat):List Nat→Ao
 | []=>[]
 | b::r=>match g b with
  | some x=>Dd (sub g ρ r) (ρ b) (U3 ρ x)
  | none=>sub g ρ r
structure Tw where
 runK:{R:Type}→List AV→Ao→(AV→Ao→O R)→O R
 eq:∀ {R:Type} (args:List AV) (h:Ao) (k:AV→Ao→O R),runK args h k=(runK args h fun v h'=>some (v,h')).bind fun p=>k p.1 p.2
def MF {R:Type}:List (Nat×Tw)→Nat→LA→Ao→(AV→Ao→O R)→O R
 | [],_,_,_,_=>none
 | (g,t)::r,f,args,h,k=>cond (beq g f) (t.runK args h k) (MF r f args h k)
structure Env where
 P:Program
 nt:Nat
 muts:Nat→List Bool
 nils:List (Nat×Nat)
 free:List Nat
 cob:List Nat
 tbl:List (Nat×Tw)
mutual
def Wk:AV→Bool
 | .imm _ _ _ _ o=>o
 | .iptr _ o=>o
 | .pagg _ o=>o
 | .agg c=>Pm c
 | .tup c=>Pm c
 | .fn _ c=>Pm c
 | _=>false
def Pm:List AV→Bool
 | []=>false
 | v::r=>Wk v||Pm r
end
def MG:Ao→Bool
 | []=>false
 | (_,x)::r=>x.taint||(cond x.pure false (Pm x.cells))||MG r
def Ho (g:A6):LA→List Nat
 | []=>[]
 | .own b _ _::r=>match g b with | some x=>cond x.sealed (Ho g r) (b::Ho g r) | none=>Ho g r
 | _::r=>Ho g r
def Xd (g:A6):AV→List Nat
 | .own b _ _=>match g b with | some x=>cond x.sealed [] [b] | none=>[]
 | .optr b _=>match g b with | some x=>cond x.sealed [] [b] | none=>[]
 | .agg c=>Ho g c
 | _=>[]
def Xe (g:A6):List Bool→LA→Option (LA×List Nat×List Nat)
 | _,[]=>some ([],[],[])
 | ms,v::r =>
  cond (ms.headD false)
   ((Xe g ms.tail r).bind fun q=>some (v::q.1,Ff v++q.2.1,q.2.2))
   ((jZ g v).bind fun p=>(Xe g ms.tail r).bind fun q=>some (p.1::q.1,q.2.1,Xd g v++q.2.2))
def BF (ids:List Nat):List Nat→Bool
 | []=>true
 | b::r=>Gm ids b&&BF ids r
def lc:List Nat→List Nat→Bool
 | [],_=>true
 | i::r,l=>!Gm l i&&lc r l
def j0:List Nat→Bool
 | []=>true
 | _=>false
def iD {R:Type} (E:Env) (g:A6) (d:Nat) (f:Nat) (args:LA) (k:AV→Do→O R):O R :=
 (Xe g (E.muts f) args).bind fun q =>
 let ids:=Tr g q.2.1
 let tin:=At 100000 ids
 let outs:=tin.map (·.2)
 cond (C' g ids&&(BF ids q.2.1&&(BF ids (Iq g ids)&&(lc q.2.2 ids&&(C_ (ids.map (Gz 0 tin))&&ble ids.length 100000))))) (
  MF E.tbl f (Rs (Gz 0 tin) q.1) (sub g (Gz 0 tin) ids) fun rv rh =>
  let all:=Tr (Ag rh) (Ff rv++outs)
  let new:=all.filter fun b=>!Gm outs b
  let tnew:=At (nid d) new
  let σ:=Gz 0 ((tin.map fun p=>(p.2,p.1))++tnew)
  cond (!j0 q.2.2&&(Wk rv||MG rh)) none
   (cond (C' (Ag rh) new&&(ble new.length 16&&(BF all (Ff rv)&&(BF all outs&&(BF all (Iq (Ag rh) all)&&C_ (all.map σ))))))
    (k (HN σ rv) ((tin.map fun p=>(p.1,(Ag rh p.2).map (U3 σ)))++tnew.map fun p=>(p.2,(Ag rh p.1).map (U3 σ)))) none)) none
def iE {R:Type} (c a b:AV) (k:AV→O R):O R :=
 match c,a,b with
 | .bool t,.bool x,.bool y=>k (.bool (cond t x y))
 | .bool t,x,.tup []=>cond t (k x) none
 | .bool t,.tup [],y=>cond t none (k y)
 | .bool t,x,y=>cond t (k x) (k y)
 | _,_,_=>none
def j1 (P : Program) (f : Nat) : Bool := match P.funcs[f]? with | some fn => fn.body.isSome && !(fn.name == "runtime.NumGoroutine") | none => false
def tS (P : Program) (f : Nat) : Bool := match P.funcs[f]? with | some fn => fn.body.isNone && (fn.name == "internal/abi.NoEscape" && fn.origin == "") | none => false
def Hi (a b:Int):Int:=cond (decide (b<a)) b a
def KO (a b:Int):Int:=cond (decide (b>a)) b a
def ro:AV→AV→Option AV
 | .int k a,.int _ b=>some (.int k (Hi a b))
 | _,_=>none
def rp:AV→AV→Option AV
 | .int k a,.int _ b=>some (.int k (KO a b))
 | _,_=>none
def f3 {R:Type} (E:Env) (g:A6) (d:Nat) (v:Operand→AV) (o:Op) (k:AV→Do→O R):O R :=
 match o with
 | .move x=>k (v x) []
 | .assign x=>k (v x) []
 | .pick c a b=>iE (v c) (v a) (v b) fun r=>k r []
 | .alloc t=>cond (Gm E.cob (d+1000000)) (GC E.P g d t k) (RL E.P g (Gm E.cob d) d t k)
 | .box t x=>RM E.P (Gm E.cob d) t (v x) fun u=>l8 E.P g d t u k
 | .build t parts=>jU E.P t (parts.toList.map fun p=>(p.1,v p.2)) fun r=>rm E.P t (Gm E.cob d) d r k
 | .buildSlice t len parts=>cond ((parts.toList.map fun p=>(p.1,v p.2)).any fun p=>tO p.2) (Oo E.P g d t len (parts.toList.map fun p=>(p.1,v p.2)) k) (Mu E.P g d t len (parts.toList.map fun p=>(p.1,v p.2)) k)
 | .load t a=>aH E.P g t (v a) fun r=>k r []
 | .store t a x=>RK E.P g t (v a) (v x) k
 | .nilCheck x=>match v x with | .iptr c o=>k (.iptr c o) [] | .optr b o=>k (.optr b o) [] | _=>none
 | .binOp op t x y _=>iC E.P g t op (v x) (v y) fun r=>k r []
 | .unOp op _ x=>(zT op (v x)).bind fun r=>k r []
 | .convert s t x=>RP E.P g d s t (v x) k
 | .makeFunc (.func f) first caps=>cond (Nat.blt f 1000000) (k (.fn (f+1000000*first.toList.length) ((first.toList++caps.toList).map v)) []) none
 | .makeSlice t l c=>hY E.P d t (v l) (v c) k
 | .slice t x lo hi mx=>RI E.P g t (v x) (lo.map v) (hi.map v) (mx.map v) fun r=>k r []
 | .fieldAddr t x f=>On E.P t (v x) f fun r=>k r []
 | .field t x f=>RG E.P t (v x) f fun r=>k r []
 | .indexAddr t x i=>Om E.P t (v x) (v i) fun r=>k r []
 | .index t x i=>RH E.P t (v x) (v i) fun r=>k r []
 | .makeMap _ r=>Tq d (r.map v) k
 | .mapUpdate t m x y=>RQ E.P g t (v m) (v x) (v y) k
 | .lookup t m x c=>iA E.P g t (v m) (v x) c fun r=>k r []
 | .range t x=>RR E.P d t (v x) k
 | .next it s=>iB g (v it) s k
 | .extract t i=>match v t with | .tup vs=>(vs[i]?).bind fun r=>k r [] | _=>none
 | .call c=>match c.callee with
  | .builtin .len=>match c.args.toList,c.argTypes.toList with | [x],[t]=>(wk E.P t (v x)).bind fun r=>k r [] | _,_=>none
  | .builtin .append=>match c.args.toList,c.argTypes.toList with | [s,x],[t,tx]=>GD E.P g d t tx (v s) (v x) k | _,_=>none
  | .builtin .copy=>match c.args.toList,c.argTypes.toList with | [s,x],[t,_]=>hZ E.P g t (v s) (v x) k | _,_=>none
  | .builtin .clear=>match c.args.toList,c.argTypes.toList with | [x],[t]=>RO E.P g t (v x) k | _,_=>none
  | .builtin .min=>match c.args.toList with | [x,y]=>(ro (v x) (v y)).bind fun r=>k r [] | [x,y,z]=>(ro (v x) (v y)).bind fun q=>(ro q (v z)).bind fun r=>k r [] | _=>none
  | .builtin .max=>match c.args.toList with | [x,y]=>(rp (v x) (v y)).bind fun r=>k r [] | [x,y,z]=>(rp (v x) (v y)).bind fun q=>(rp q (v z)).bind fun r=>k r [] | _=>none
  | .builtin .unsafeSliceData=>match c.args.toList with | [x]=>Oq g (v x) k | _=>none
  | .builtin .unsafeString=>match c.args.toList,c.argTypes.toList with | [x,y],[t,_]=>Ot E.P g t (v x) (v y) k | _,_=>none
  | .value fo=>match v fo with
   | .fn f caps=>cond (j1 E.P (f%1000000)) (iD E g d (f%1000000) (caps.take (f/1000000)++(c.args.toList.map v++caps.drop (f/1000000))) k)
     (cond (tS E.P (f%1000000)) (match caps,c.args.toList.map v with | [],[x]=>k x [] | _,_=>none) none)
   | _=>none
  | _=>none
 | _=>none
structure Foot where
 r:List Nat
 w:Option Nat
 f:List Nat
 u:List Nat
def KP:List Operand→List Nat
 | []=>[]
 | .tmp t::r=>t::KP r
 | _::r=>KP r
def Ah:Do→Ao→Ao
 | [],h=>h
 | (b,some x)::r,h=>Ah r (Dd h b x)
 | (b,none)::r,h=>Ah r (match Ag h b with | some x=>Dd h b { x with dead:=true,pure:=true,cells:=[] } | none=>h)
def GE (ops:Array Oper) (o:Oper):Option (Nat×Bool) :=
 match o.guard with
 | none=>none
 | some (j,want)=>((ops[j]?).bind (·.dst)).map fun t=>(t,want)
def Y3 (ops:Array Oper) (s:Fe) (o:Oper):Option Bool :=
 match o.guard with
 | none=>some true
 | some (j,want)=>match (ops[j]?).bind (·.dst) with
  | some t=>match Et s t with
   | .bool b=>some (b==want)
   | .tup []=>some false
   | _=>none
  | none=>some false
def o8 (nt:Nat) (s:Fe) (d:Option Nat) (v:AV):Fe:=match d with | some d=>cond (Nat.blt d nt) (KK s d v) s | none=>s
def qp:Op→Bool
 | .binOp op ..=>match op with | .eql | .neq=>true | _=>false
 | .move _ | .assign _ | .pick .. | .build .. | .unOp .. | .makeFunc .. | .fieldAddr .. | .field .. | .indexAddr .. | .index .. | .extract .. | .nilCheck _=>false
 | .call c=>match c.callee with
  | .builtin .len | .builtin .min | .builtin .max=>false
  | _=>true
 | _=>true
def qq:Op→Bool
 | .load .. | .binOp ..=>true
 | _=>false
def Rj (h:Ao) (op:Op) (vals:LA):List Nat:=cond (qp op) (cond (qq op) (US (Gl vals) []) (Tr (Ag h) (Gl vals))) []
def Xf (d b:Nat):Bool:=ble (nid d) b&&Nat.blt b (nid d+16)
def IG (d:Nat) (F:List Nat) (h:Ao):Do→Bool
 | []=>true
 | (b,_)::r=>cond (Xf d b) (Ag h b).isNone (Gm F b&&(Ag h b).isSome)&&IG d F h r
def ld {R:Type} (E:Env) (ops:Array Oper) (o:Oper) (st:St) (k:St→Foot→O R):O R :=
 (Y3 ops st.s o).bind fun wanted=>cond wanted (
  f3 E (fun b=>cond (Gm (Rj st.h o.op (o.op.operands.toList.map (ev st.s))) b) (Ag st.h b) none) (o.dst.getD 50000) (ev st.s) o.op fun v ups =>
  cond (IG (o.dst.getD 50000) (Rj st.h o.op (o.op.operands.toList.map (ev st.s))) st.h ups)
   (k { s:=o8 E.nt st.s o.dst v,h:=Ah ups st.h } { r:=(match GE ops o with | some p=>[p.1] | none=>[])++KP o.op.operands.toList,w:=o.dst,f:=Rj st.h o.op (o.op.operands.toList.map (ev st.s)),u:=ups.map (·.1) }) none)
  (k { st with s:=o8 E.nt st.s o.dst (.tup []) } { r:=(match GE ops o with | some p=>[p.1] | none=>[]),w:=o.dst,f:=[],u:=[] })
def RS {R:Type} (ops:Array Oper) (o:Oper) (st:St) (k:St→O R):O R :=
 match o.guard with
 | none=>k st
 | some (j,want)=>match (ops[j]?).bind (·.dst) with
  | none=>k st
  | some t=>match Et st.s t with
   | .bool b=>cond (b==want) (k { s:=KK st.s t (.bool want),h:=st.h }) (k { s:=KK st.s t (.bool (!want)),h:=st.h })
   | _=>k st
def aM {R:Type} (E:Env) (ops:Array Oper):List Oper→St→List Foot→(St→List Foot→O R)→O R
 | [],st,tr,k=>k st tr
 | o::r,st,tr,k=>RS ops o st fun st=>ld E ops o st fun st f=>aM E ops r st (f::tr) k
def zK:Option Nat→List Nat→Bool
 | none,_=>false
 | some d,l=>Gm l d
def UT (a b:Foot):Bool :=
 !zK a.w b.r&&!zK b.w a.r&&(match a.w,b.w with | some x,some y=>!beq x y | _,_=>true)&&lc a.u (b.f++b.u)&&lc b.u a.f
def DA (e:Edge):Bool:=match e.ground with | .textOnly _=>false | .gcOnly _=>false | _=>true
def Y4 (o:Oper):List Nat:=(o.after.toList.filter DA).map (·.on)
def j2 {α:Type}:List Nat→(List Nat→α)→α
 | [],k=>k []
 | i::r,k=>j2 r fun s=>k (i::s)
theorem Xg {α:Type}:∀ (l:List Nat) (k:List Nat→α),j2 l k=k l
 | [],_=>rfl
 | i::r,k=>by rw[j2,Xg r]
def E7:List Oper→List (List Nat)→List (List Nat)
 | [],acc=>acc
 | o::r,acc=>j2 (US (Y4 o++((Y4 o).flatMap fun i=>(acc[i]?).getD [])) []) fun a=>E7 r (acc++[a])
def Ti:Nat→List Oper→Bool
 | _,[]=>true
 | i,o::r=>(o.after.toList.all fun e=>!DA e||Nat.blt e.on i)&&Ti (i+1) r
def MH (f:Foot) (anc:List Nat):Nat→List Foot→Bool
 | _,[]=>true
 | i,g::r=>(Gm anc i||UT g f)&&MH f anc (i+1) r
def GF:List Foot→List (List Nat)→List Foot→Bool
 | [],_,_=>true
 | f::r,a::az9,seen=>MH f a 0 seen&&GF r az9 (seen++[f])
 | _::_,[],_=>false
def Ir (b:Nat):Nat:=cond (ble Fu b) (b - Fu) b
mutual
def Ts (g:A6):AV→AV
 | .own b off n=>match Em g b with | some _=>.own (Ir b) off n | none=>.undef
 | .optr b off=>match Em g b with | some _=>.optr (Ir b) off | none=>.undef
 | .omap b=>match Em g b with | some _=>.omap (Ir b) | none=>.undef
 | .agg c=>.agg (Hp g c)
 | .tup c=>.tup (Hp g c)
 | .fn f c=>.fn f (Hp g c)
 | v=>v
def Hp (g:A6):List AV→List AV
 | []=>[]
 | v::r=>Ts g v::Hp g r
end
def RT (g:A6) (K:List Nat):Fe→Fe
 | []=>[]
 | (t,v)::r=>cond (Gm K t) ((t,Ts g v)::RT g K r) (RT g K r)
def aN (K:List Nat):Fe→List Nat
 | []=>[]
 | (t,v)::r=>cond (Gm K t) (Ff v++aN K r) (aN K r)
def Tt (g:A6):List Nat→Ao
 | []=>[]
 | b::r=>match Em g b with
  | some x=>Dd (Tt g r) (Ir b) { x with cells:=cond x.pure x.cells (Hp g x.cells) }
  | none=>Tt g r
def U8 (g:A6) (ids:List Nat):List Nat:=ids.filter fun b=>match Em g b with | some _=>true | none=>false
def aO (g:A6) (ids:List Nat):List Nat→Bool
 | []=>true
 | b::r=>(Gm ids b||(Em g b).isNone)&&aO g ids r
def qr:List Nat→Bool
 | []=>true
 | b::r=>cond (ble Fu b) (Nat.blt (Ir b) 100000) true&&qr r
def clean (K roots:List Nat) (st:St):Option St :=
 let g:=Ag st.h
 let ids:=U8 g (Tr g (aN K st.s++roots))
 cond (C_ (ids.map Ir)&&(aO g ids (aN K st.s)&&(aO g ids (Iq g ids)&&qr ids))) (some { s:=RT g K st.s,h:=Tt g ids }) none
def Y5 {R:Type} (E:Env) (roots:List Nat) (ops:Array Oper) (draw:Bool) (st:St) (k:St→O R):O R :=
 aM E ops ops.toList st [] fun st tr =>
  cond (!draw||(Ti 0 ops.toList&&GF tr.reverse (E7 ops.toList []) [])) ((clean (st.s.map (·.1)) roots st).bind k) none
def aP (b:Nat):Bool:=ble 100000 b&&Nat.blt b 200000
def Y6 (live:List Nat):List (Nat×Nat)→St→Option St
 | [],st=>some st
 | (t,sz)::r,st=>cond (ble 1000000 sz)
  (match Gm live t,Et st.s t with
  | true,.nsl=>Y6 live r { s:=KK st.s t (.imm [] 0 (sz - 1000000) false false),h:=st.h }
  | true,.own b off n=>(IF (Ag st.h) (.own b off n)).bind fun q=>Y6 live r { s:=KK st.s t q.1,h:=Ah q.2.1 st.h }
  | _,_=>Y6 live r st)
  (match Gm live t,Et st.s t with
  | true,.nsl=>cond (Ag st.h (nid t+15)).isSome none (Y6 live r { s:=KK st.s t (.own (nid t+15) 0 0),h:=Dd st.h (nid t+15) (Eu sz) })
  | _,_=>Y6 live r st)
def Xh (free:List Nat) (b:Nat):Bool:=aP b&&!Gm free b
def tT (free ids:List Nat):List (Nat×Nat):=At 300000 (ids.filter fun b=>!Xh free b)
def Tu (free ids:List Nat) (b:Nat):Nat:=cond (Xh free b) b (Gz 0 (tT free ids) b)
def tU (ρ:Nat→Nat) (K:List Nat):Fe→Fe
 | []=>[]
 | (t,v)::r=>cond (Gm K t) ((t,HN ρ v)::tU ρ K r) (tU ρ K r)
def BG (E:Env) (live roots:List Nat) (st:St):Option St :=
 (Y6 live E.nils st).bind fun st =>
 let g:=Ag st.h
 let ids:=U8 g (Tr g (aN live st.s++roots))
 cond (C_ (ids.map (Tu E.free ids))&&(BF ids (aN live st.s)&&(BF ids (Iq g ids)&&ble ids.length 100000))) (some { s:=tU (Tu E.free ids) live st.s,h:=sub g (Tu E.free ids) ids }) none
inductive Hint where
 | leaf
 | node (live:List Nat) (a b:Hint)
 | join (live:List Nat) (a b:Hint)
def Hint.live:Hint→List Nat
 | .leaf=>[]
 | .node l _ _=>l
 | .join l _ _=>l
def Hint.a:Hint→Hint
 | .leaf=>.leaf
 | .node _ a _=>a
 | .join _ a _=>a
def Hint.b:Hint→Hint
 | .leaf=>.leaf
 | .node _ _ b=>b
 | .join _ _ b=>b
def Hint.isJoin:Hint→Bool
 | .join _ _ _=>true
 | _=>false
noncomputable def Ai {α:Type} (a:α):{ x:α // x=a }:=Classical.choice ⟨⟨a,rfl⟩⟩
noncomputable def tV {R:Type} (j:Bool) (f:St→O R):St→O R:=cond j (Ai f).1 f
theorem Pn {R:Type} (j:Bool) (f:St→O R):tV j f=f:=by cases j;rfl;exact(Ai f).2
noncomputable def lf {R:Type} (E:Env) (roots:List Nat) (H:Hint) (f:St→O R) (st:St):O R:=cond H.isJoin ((BG E H.live roots st).bind (tV true f)) (f st)
def BH {R:Type} (cn:St→Option St) (body:(St→O R)→St→O R):Nat→St→O R
 | 0,_=>none
 | n+1,st=>body (fun st=>(cn st).bind (BH cn body n)) st
noncomputable def De {R:Type} (E:Env) (roots:List Nat) (N:Nat):Code→Hint→(St→O R)→(Nat→St→O R)→(St→O R)→St→O R
 | .skip,_,k,_,_,st=>k st
 | .region _ ops draw,_,k,_,_,st=>Y5 E roots ops draw st k
 | .seq a b,H,k,x,r,st=>De E roots N a H.a (lf E roots H fun st=>De E roots N b H.b k x r st) x r st
 | .cond c a b,H,k,x,r,st=>match ev st.s c with
  | .bool t=>cond t (De E roots N a H.a k x r st) (De E roots N b H.b k x r st)
  | _=>none
 | .block id c,H,k,x,r,st=>De E roots N c H.a k (fun j st=>cond (beq j id) (k st) (x j st)) r st
 | .loop c,H,_,x,r,st=>(BG E H.live roots st).bind (tV true (BH (BG E H.live roots) (fun k st=>De E roots N c H.a k x r st) N))
 | .exit id,_,_,x,_,st=>x id st
 | .ret,_,_,_,r,st=>r st
 | _,_,_,_,_,_=>none
def Kl {R:Type} (E:Env) (st:St):List ResultVar→LA→(LA→O R)→O R
 | [],acc,k=>k acc.reverse
 | .tmp t::r,acc,k=>Kl E st r (Et st.s t::acc) k
 | .cell a t::r,acc,k=>aH E.P (Ag st.h) t (Et st.s a) fun v=>Kl E st r (v::acc) k
def wl (g:A6) (i:Nat) (m:Nat×Nat) (v:AV):Option (AV×Do) :=
 cond (beq m.1 0) (some (v,[]))
 (cond (beq m.1 1) (match v with
  | .nsl=>some (.imm [] 0 m.2 false false,[])
  | .imm c n sz _ o=>some (.imm c n sz false o,[])
  | .own b off n=>(IF g (.own b off n)).bind fun q=>some (q.1,q.2.1)
  | _=>none)
 (cond (beq m.1 2) (match v with
  | .nsl=>cond (g (nid 90000+i)).isSome none (some (.own (nid 90000+i) 0 0,[(nid 90000+i,some (Eu m.2))]))
  | v=>some (v,[]))
 (match v with
  | .agg c=>(Tp g c).bind fun q=>some (.pagg q.1 q.2.2,q.2.1)
  | .pagg c o=>some (.pagg c o,[])
  | _=>none)))
def lg (h:Ao):Nat→List (Nat×Nat)→LA→Option (LA×Ao)
 | _,_,[]=>some ([],h)
 | i,ms,v::r=>(wl (Ag h) i (ms.headD (0,0)) v).bind fun p=>(lg (Ah p.2 h) (i+1) ms.tail r).bind fun q=>some (p.1::q.1,q.2)
def wm (l:LA):AV:=match l with | [v]=>v | l=>.tup l
def Po {R:Type} (E:Env) (fn:Func) (modes:List (Nat×Nat)) (outs:List Nat) (k:AV→Ao→O R) (st:St):O R :=
 Kl E st fn.results.toList [] fun l =>
 (lg st.h 0 modes l).bind fun q =>
 let v:=wm q.1
 let g:=Ag q.2
 let ids:=U8 g (Tr g (Ff v++outs))
 cond (C_ (ids.map (Tu E.free ids))&&(BF ids (Ff v)&&(BF ids (Iq g ids)&&ble ids.length 100000))) (k (HN (Tu E.free ids) v) (sub g (Tu E.free ids) ids)) none
def aQ:Nat→LA→Fe
 | _,[]=>[]
 | i,v::r=>(i,v)::aQ (i+1) r
structure Hints where
 H:Hint
 nils:List (Nat×Nat):=[]
 modes:List (Nat×Nat):=[]
 free:List Nat:=[]
 cob:List Nat:=[]
def MI:Ao→Bool
 | []=>true
 | (b,_)::r=>aP b&&MI r
noncomputable def UU {R:Type} (P:Program) (muts:Nat→List Bool) (T:List (Nat×Tw)) (hs:Hints) (N f:Nat) (args:LA) (h:Ao) (k:AV→Ao→O R):O R :=
 match P.funcs[f]? with
 | none=>none
 | some fn=>match fn.body with
  | none=>none
  | some c =>
   let E:Env:={ P,nt:=fn.ntmps,muts,nils:=hs.nils,free:=hs.free,cob:=hs.cob,tbl:=T }
   let outs:=h.map (·.1)
   let fin:=Po E fn hs.modes outs k
   cond (ble args.length fn.ntmps&&MI h) (De E outs N c hs.H fin (fun _ _=>none) fin { s:=aQ 0 args,h }) none
end Gx
namespace Gx
open Go
mutual
def RepC (J:Nat→Prop) (w:World):AV→Value→Prop
 | .int k n,v=>v=.int k n
 | .bool b,v=>v=.bool b
 | .str s,v=>v=.string ⟨⟨s⟩⟩
 | .nsl,v=>v=.slice none 0 0
 | .imm c len sz tight _,v=>c.length=len*sz∧∃ A cap,v=.slice A len cap∧len≤cap∧(tight=true→cap=len) ∧
   (len=0∨∃ a,A=some a∧J a.block∧RepCs J w c (fun j=>w.cell? (a.add j)) 0)
 | .iptr c _,v=>∃ a,v=.pointer (some a)∧J a.block∧RepCs J w c (fun j=>w.cell? (a.add j)) 0
 | .nilptr,v=>v=.pointer none
 | .nilfn,v=>v=.nilFunc
 | .fn f [],v=>v=.func (.func (f%1000000)) #[] #[]
 | _,_=>False
def RepCs (J:Nat→Prop) (w:World):List AV→(Nat→Option Value)→Nat→Prop
 | [],_,_=>True
 | x::r,rd,i=>(∃ u,rd i=some u∧RepC J w x u)∧RepCs J w r rd (i+1)
end
theorem Bg {J:Nat→Prop} {w:World}:∀ {c:LA} {rd:Nat→Option Value} {i:Nat},
  RepCs J w c rd i↔∀ j x,c[j]?=some x→∃ u,rd (i+j)=some u∧RepC J w x u:=by
 intro c
 induction c with
 | nil=>intro rd i;simp[RepCs]
 | cons x r d =>
  intro rd i
  rw[RepCs,d]
  constructor
  ·rintro⟨h0,e⟩ j y b
   cases j with
   | zero=>simp at b;subst b;simpa using h0
   | succ j=>have:=e j y (by simpa using b);rwa [show i+1+j=i+(j+1) by omega] at this
  ·intro h
   refine⟨by simpa using h 0 x (by simp),fun j y b=>?_⟩
   have:=h (j+1) y (by simpa using b)
   rwa [show i+(j+1)=i+1+j by omega] at this
def lh (J:Nat→Prop) (w w':World):Prop:=∀ k,J k→w'.heap[k]?=w.heap[k]?
theorem RU {J:Nat→Prop} {w w':World} (h:lh J w w') {a:Addr} (b:J a.block):w'.cell? a=w.cell? a:=by
 unfold World.cell?;rw[h a.block b]
theorem Mv (a:Addr) (n:Nat):(a.add n).block=a.block:=by unfold Addr.add;split<;>rfl
mutual
theorem RepC.keep {J J':Nat→Prop} {w w':World} (hJ:∀ k,J k→J' k) (hk:lh J w w'):∀ {x:AV} {v:Value},RepC J w x v→RepC J' w' x v
 | .int ..,_,h=>h
 | .bool _,_,h=>h
 | .str _,_,h=>h
 | .nsl,_,h=>h
 | .imm c _ _ _ _,_,h=>by
  rw[RepC] at h ⊢
  obtain⟨h1,A,cap,h2,h3,h4,h5⟩:=h
  refine⟨h1,A,cap,h2,h3,h4,?_⟩
  rcases h5 with h5 | ⟨a,ha,hj,hc⟩
  ·exact .inl h5
  ·refine .inr ⟨a,ha,hJ _ hj,RepCs.keep hJ hk (c:=c) (fun j=>?_) hc⟩
   exact RU hk (by rw[Mv];exact hj)
 | .iptr c _,_,h=>by
  rw[RepC] at h ⊢
  obtain⟨a,ha,hj,hc⟩:=h
  exact⟨a,ha,hJ _ hj,RepCs.keep hJ hk (c:=c) (fun j=>RU hk (by rw[Mv];exact hj)) hc⟩
 | .nilptr,_,h=>h
 | .nilfn,_,h=>h
 | .fn _ [],_,h=>h
 | .fn _ (_::_),_,h=>by simp[RepC] at h
 | .pagg ..,_,h=>by simp[RepC] at h
 | .agg _,_,h=>by simp[RepC] at h
 | .tup _,_,h=>by simp[RepC] at h
 | .own ..,_,h=>by simp[RepC] at h
 | .optr ..,_,h=>by simp[RepC] at h
 | .undef,_,h=>by simp[RepC] at h
 | .omap _,_,h=>by simp[RepC] at h
theorem RepCs.keep {J J':Nat→Prop} {w w':World} (hJ:∀ k,J k→J' k) (hk:lh J w w'):∀ {c:List AV} {rd rd':Nat→Option Value} {i:Nat},(∀ j,rd' j=rd j)→RepCs J w c rd i→RepCs J' w' c rd' i
 | [],_,_,_,_,_=>trivial
 | x::r,rd,rd',i,he,h=>by
  rw[RepCs] at h ⊢
  obtain⟨⟨u,hu,hx⟩,hr⟩:=h
  exact⟨⟨u,by rw[he];exact hu,RepC.keep hJ hk (x:=x) hx⟩,RepCs.keep hJ hk (c:=r) he hr⟩
end
abbrev Bu:=Nat→Option (Nat×Nat)
def Ar (w:World) (k:Nat):Nat:=match w.heap[k]? with | some (.cells cs _ _)=>cs.size | _=>0
def xk (sz k:Nat):Value:=match sz with | 0=>.map (some k) | _+1=>.pointer (some ⟨k,0,none⟩)
mutual
def Rep (J:Bool→Nat→Prop) (β:Bu) (h:Ao) (w:World):AV→Value→Prop
 | .own b off n,v=>∃ x A cap,(Ag h b=some x∧x.mp=false)∧v=.slice A n cap∧n≤cap∧(cap=0∨∃ k o,A=some ⟨k,o+off,none⟩ ∧
   (x.dead=true∨(β b=some (k,o)∧o+off+cap*x.sz≤Ar w k∧off+n*x.sz≤x.cells.length)))
 | .omap b,v=>∃ x k,(Ag h b=some x∧x.mp=true)∧(x.dead=true∨(β b=some (k,0)∧v=xk x.sz k))
 | .optr b off,v=>∃ x k o,(Ag h b=some x∧x.mp=false)∧v=.pointer (some ⟨k,o+off,none⟩)∧(x.dead=true∨β b=some (k,o))
 | .pagg c org,v=>∃ cs,v=.agg ⟨cs⟩∧cs.length=c.length∧RepCs (J org) w c (fun j=>cs[j]?) 0
 | .agg c,v=>∃ cs,v=.agg ⟨cs⟩∧Reps J β h w c cs
 | .tup c,v=>∃ cs,v=.tuple ⟨cs⟩∧Reps J β h w c cs
 | .fn f c,v=>∃ cs:List Value,v=.func (.func (f%1000000)) ⟨cs.take (f/1000000)⟩ ⟨cs.drop (f/1000000)⟩∧Reps J β h w c cs
 | .undef,_=>True
 | .imm c n sz t org,v=>RepC (J org) w (.imm c n sz t org) v
 | .iptr c org,v=>RepC (J org) w (.iptr c org) v
 | .int k n,v=>v=.int k n
 | .bool b,v=>v=.bool b
 | .str s,v=>v=.string ⟨⟨s⟩⟩
 | .nsl,v=>v=.slice none 0 0
 | .nilptr,v=>v=.pointer none
 | .nilfn,v=>v=.nilFunc
def Reps (J:Bool→Nat→Prop) (β:Bu) (h:Ao) (w:World):List AV→List Value→Prop
 | [],cs=>cs=[]
 | x::r,cs=>∃ u us,cs=u::us∧Rep J β h w x u∧Reps J β h w r us
end
structure Ext (J:Bool→Nat→Prop) (β:Bu) (h:Ao) (w:World) (J':Bool→Nat→Prop) (β':Bu) (h':Ao) (w':World):Prop where
 jsub:∀ o k,J o k→J' o k
 keep:∀ o,lh (J o) w w'
 blk:∀ b x,Ag h b=some x→∃ x',(Ag h' b=some x'∧x'.mp=x.mp)∧(x'.dead=true∨(x.dead=false∧β' b=β b∧x'.sz=x.sz∧(x.mp=false→x'.cells.length=x.cells.length)))
 size:∀ b k o,β b=some (k,o)→Ar w k≤Ar w' k
mutual
theorem Rep.ext {J J':Bool→Nat→Prop} {β β':Bu} {h h':Ao} {w w':World} (E:Ext J β h w J' β' h' w'):∀ {x:AV} {v:Value},Rep J β h w x v→Rep J' β' h' w' x v
 | .own b off n,v,hr=>by
  rw[Rep] at hr ⊢
  obtain⟨x,A,cap,⟨hx,hm⟩,h1,h2,hr⟩:=hr
  obtain⟨x',⟨hx',hm'⟩,hd⟩:=E.blk b x hx
  refine⟨x',A,cap,⟨hx',by rw[hm',hm]⟩,h1,h2,?_⟩
  rcases hr with hr | ⟨k,o,h3,hr⟩
  ·exact .inl hr
  ·refine .inr ⟨k,o,h3,?_⟩
   rcases hd with hd | ⟨hd,hβ,hs,hl⟩
   ·exact .inl hd
   ·rcases hr with hr | ⟨h4,h5,h6⟩
    ·simp[hd] at hr
    ·exact .inr ⟨by rw[hβ];exact h4,by rw[hs];exact Add h5 (E.size b k o h4),by rw[hs,hl hm];exact h6⟩
 | .optr b off,v,hr=>by
  rw[Rep] at hr ⊢
  obtain⟨x,k,o,⟨hx,hm⟩,h1,hr⟩:=hr
  obtain⟨x',⟨hx',hm'⟩,hd⟩:=E.blk b x hx
  refine⟨x',k,o,⟨hx',by rw[hm',hm]⟩,h1,?_⟩
  rcases hd with hd | ⟨hd,hβ,hs,hl⟩
  ·exact .inl hd
  ·rcases hr with hr | hr
   ·simp[hd] at hr
   ·exact .inr (by rw[hβ];exact hr)
 | .omap b,v,hr=>by
  rw[Rep] at hr ⊢
  obtain⟨x,k,⟨hx,hm⟩,hr⟩:=hr
  obtain⟨x',⟨hx',hm'⟩,hd⟩:=E.blk b x hx
  refine⟨x',k,⟨hx',by rw[hm',hm]⟩,?_⟩
  rcases hd with hd | ⟨hd,hβ,hs,hl⟩
  ·exact .inl hd
  ·rcases hr with hr | ⟨hr,hv⟩
   ·simp[hd] at hr
   ·exact .inr ⟨by rw[hβ];exact hr,by rw[hs];exact hv⟩
 | .pagg c org,v,hr=>by
  rw[Rep] at hr ⊢
  obtain⟨cs,h1,h2,h3⟩:=hr
  exact⟨cs,h1,h2,RepCs.keep (E.jsub org) (E.keep org) (fun _=>rfl) h3⟩
 | .agg c,v,hr=>by
  rw[Rep] at hr ⊢
  obtain⟨cs,h1,h2⟩:=hr
  exact⟨cs,h1,Reps.ext E (c:=c) h2⟩
 | .tup c,v,hr=>by
  rw[Rep] at hr ⊢
  obtain⟨cs,h1,h2⟩:=hr
  exact⟨cs,h1,Reps.ext E (c:=c) h2⟩
 | .fn f c,v,hr=>by
  rw[Rep] at hr ⊢
  obtain⟨cs,h1,h2⟩:=hr
  exact⟨cs,h1,Reps.ext E (c:=c) h2⟩
 | .undef,_,_=>by rw[Rep];trivial
 | .imm c n sz t org,v,hr=>by rw[Rep] at hr ⊢;exact RepC.keep (E.jsub org) (E.keep org) hr
 | .iptr c org,v,hr=>by rw[Rep] at hr ⊢;exact RepC.keep (E.jsub org) (E.keep org) hr
 | .int ..,_,hr=>hr
 | .bool _,_,hr=>hr
 | .str _,_,hr=>hr
 | .nsl,_,hr=>hr
 | .nilptr,_,hr=>hr
 | .nilfn,_,hr=>hr
theorem Reps.ext {J J':Bool→Nat→Prop} {β β':Bu} {h h':Ao} {w w':World} (E:Ext J β h w J' β' h' w'):∀ {c:List AV} {cs:List Value},Reps J β h w c cs→Reps J' β' h' w' c cs
 | [],_,hr=>hr
 | x::r,cs,hr=>by
  rw[Reps] at hr ⊢
  obtain⟨u,us,h1,h2,h3⟩:=hr
  exact⟨u,us,h1,Rep.ext E (x:=x) h2,Reps.ext E (c:=r) h3⟩
end
end Gx
namespace Gx
open Go
def qs:List (Nat×List Value):=[(3,(List.range 20).map fun i=>.int .u64 ((10 ^ i:Nat):Int))]
def o9:List Nat:=[0]
end Gx
namespace Gx
open Go
def CellsRep (J:Bool→Nat→Prop) (β:Bu) (h:Ao) (w:World) (x:Blk) (rd:Nat→Option Value):Prop :=
 (x.pure=true→RepCs (J x.taint) w x.cells rd 0) ∧
 (x.pure=false→∀ j c,x.cells[j]?=some c→∃ u,rd j=some u∧Rep J β h w c u∧u.oneCell'=true)
def FrOk (n:Nat) (fr:Nat×Nat):Prop:=fr.1=fr.2∨n≤fr.1
theorem FrOk.at {n:Nat} {fr:Nat×Nat} (h:FrOk n fr) (j:Nat) (b:j<n):¬ (fr.1≤j∧j<fr.2):=by rcases h with h | h<;>omega
def TyOk (X:Option (Nat×Nat)) (ty:TypeId) (o n:Nat):Prop:=∀ t m,X=some (t,m)→ty=t∧o=0∧(m=0∨n=m)
def FrTy (X:Option (Nat×Nat)) (ty:TypeId) (o n:Nat) (fr:Nat×Nat):Prop:=FrOk n fr∧TyOk X ty o n
theorem TyOk.none {ty:TypeId} {o n:Nat}:TyOk .none ty o n:=fun _ _ h=>by cases h
theorem FrOk.un {n:Nat} {fr:Nat×Nat} (h:FrOk n fr) {ty:TypeId} {o:Nat}:FrTy .none ty o n fr:=⟨h,TyOk.none⟩
theorem FrTy.un0 {ty:TypeId} {o n a:Nat}:FrTy .none ty o n (a,a):=⟨.inl rfl,TyOk.none⟩
def wn (J:Bool→Nat→Prop) (β:Bu) (h:Ao) (w:World) (b:Nat) (x:Blk):Prop :=
 (β b=none∧x.cells=[])∨∃ k o cs ty fr,β b=some (k,o)∧w.heap[k]?=some (.cells cs ty fr) ∧
  FrTy x.ty ty o cs.size fr∧o+x.cells.length≤cs.size∧CellsRep J β h w x (fun j=>cs[o+j]?) ∧
  (x.sealed=false→∀ g,¬ J g k)∧(x.sealed=true→J x.taint k)
def wo (c:LA) (es:Array MapEntry):Prop:=∃ l:List Int,c=l.map (fun n=>.int .i64 n)∧es.toList.map (fun e=>(e.key,e.val))=l.map (fun n=>(.int .i64 n,.bool true))
def ObjIs (x:Blk) (ob:Obj):Prop:=(x.sz=0∧∃ es clk,ob=.map es clk∧wo x.cells es)∨(x.sz=1∧∃ s pos,ob=.stringIter ⟨⟨s⟩⟩ pos∧x.cells=[.str s,.int .i64 (pos:Int)])
def MapRep (J:Bool→Nat→Prop) (β:Bu) (w:World) (b:Nat) (x:Blk):Prop :=
 x.pure=true∧x.sealed=false∧∃ k ob,β b=some (k,0)∧w.heap[k]?=some ob∧ObjIs x ob∧∀ g,¬ J g k
theorem ObjIs.row {x:Blk} {ob:Obj} (h:ObjIs x ob) {cs:Array Value} {ty:TypeId} {fr:Nat×Nat}:ob≠.cells cs ty fr:=by
 rcases h with⟨_,es,clk,rfl,_⟩ | ⟨_,s,pos,rfl,_⟩<;>exact fun h=>by cases h
def GlobOk (J:Bool→Nat→Prop) (w:World):Prop:=(∀ p ∈ qs,J false p.1∧∃ ty fr,w.heap[p.1]?=some (.cells p.2.toArray ty fr))∧∀ g ∈ o9,J false g∧∃ m,w.cell? ⟨g,0,none⟩=some (.int .i64 m)
theorem GlobOk.to {J J':Bool→Nat→Prop} {w w':World} (h:GlobOk J w) (e:∀ k,J false k→J' false k) (i:lh (J false) w w'):GlobOk J' w':=⟨fun p b =>
 ⟨e _ (h.1 p b).1,by rw[i _ (h.1 p b).1];exact(h.1 p b).2⟩,fun g d=>⟨e _ (h.2 g d).1,by rw[RU i (by exact(h.2 g d).1)];exact(h.2 g d).2⟩⟩
theorem GlobOk.ext {J J':Bool→Nat→Prop} {β β':Bu} {h h':Ao} {w w':World} (G:GlobOk J w) (E:Ext J β h w J' β' h' w'):GlobOk J' w':=G.to (E.jsub false) (E.keep false)
structure SimH (J:Bool→Nat→Prop) (β:Bu) (h:Ao) (w:World):Prop where
 jlt:∀ o k,J o k→k<w.heap.size
 jft:∀ k,J false k→J true k
 gl:GlobOk J w
 blk:∀ b x,Ag h b=some x→x.dead=false→x.mp=false→wn J β h w b x
 mblk:∀ b x,Ag h b=some x→x.dead=false→x.mp=true→MapRep J β w b x
 sep:∀ b b' x x' k o o',Ag h b=some x→Ag h b'=some x'→x.dead=false→x'.dead=false→x.sealed=false→β b=some (k,o)→β b'=some (k,o')→b=b'
mutual
theorem Y7 {J:Bool→Nat→Prop} {β:Bu} {h:Ao} {w:World}:∀ v:Value,Rep J β h w (RE v) v
 | .int ..=>by simp[RE,Rep]
 | .bool _=>by simp[RE,Rep]
 | .string ⟨⟨s⟩⟩=>by simp[RE,Rep]
 | .slice none 0 0=>by simp[RE,Rep]
 | .slice none 0 (_+1)=>by simp[RE,Rep]
 | .slice none (_+1) _=>by simp[RE,Rep]
 | .slice (some _) _ _=>by simp[RE,Rep]
 | .pointer none=>by simp[RE,Rep]
 | .pointer (some _)=>by simp[RE,Rep]
 | .nilFunc=>by simp[RE,Rep]
 | .agg ⟨cs⟩=>by rw[RE,Rep];exact⟨cs,rfl,GG cs⟩
 | .float ..=>by simp[RE,Rep]
 | .complex ..=>by simp[RE,Rep]
 | .map _=>by simp[RE,Rep]
 | .chan _=>by simp[RE,Rep]
 | .func ..=>by simp[RE,Rep]
 | .iface ..=>by simp[RE,Rep]
 | .nilIface=>by simp[RE,Rep]
 | .tuple _=>by simp[RE,Rep]
theorem GG {J:Bool→Nat→Prop} {β:Bu} {h:Ao} {w:World}:∀ cs:List Value,Reps J β h w (I8 cs) cs
 | []=>by simp[I8,Reps]
 | v::r=>by rw[I8,Reps];exact⟨v,r,rfl,Y7 v,GG r⟩
end
structure SimS (J:Bool→Nat→Prop) (β:Bu) (h:Ao) (w:World) (s:Fe) (t:Array Value):Prop where
 slot:∀ i v,t[i]?=some v→Rep J β h w (Et s i) v
 out:∀ i,t.size≤i→Et s i=.undef
theorem A5 {J:Bool→Nat→Prop} {β:Bu} {h:Ao} {w:World} {s:Fe} {a:Act} (H:SimS J β h w s a.tmps) (x:Operand):Rep J β h w (ev s x) (a.eval x):=by
 cases x with
 | tmp t =>
  rw[ev,Act.eval,Adz]
  cases b:a.tmps[t]? with
  | some v=>exact H.slot t v b
  | none =>
   have:a.tmps.size≤t:=by simpa using b
   rw[H.out t this];simp[Rep]
 | const v=>exact Y7 v
 | global g=>simp[ev,Rep]
 | func f =>
  rw[ev]
  cases d:Nat.blt f 1000000 with
  | false=>simp[Rep]
  | true =>
   have:f<1000000:=by simpa using d
   simp[Rep,Act.eval,Reps,Adg this]
section
variable {R:Type} {r:R} {P:Program} {J:Bool→Nat→Prop} {β:Bu} {h:Ao} {w:World}
theorem j3 {t:TypeId} {op:BinOp} {k:IntKind} {a b:Int} {v:AV} (d:RF op k a b=some v) :
  ∃ vc,(binOp op t (.int k a) (.int k b)).run P w=.ok vc w∧Rep J β h w v vc:=by
 cases op<;>simp[RF] at d<;>subst d<;>simp[binOp,Op.intArith,Op.intBits,Op.intCmp,Rep]
theorem o_ {op:BinOp} {t:TypeId} {x y:AV} {k:AV→O R} {vx vy:Value} (e:rj P t op x y k=some r) (z:Rep J β h w x vx) (A:Rep J β h w y vy) (ox oy:Operand) :
  ∃ v vc,k v=some r∧(do eqGuard op t ox oy vx vy;binOp op t vx vy:Sem Value).run P w=.ok vc w∧Rep J β h w v vc:=by
 unfold rj at e
 split at e
 ·rename_i q a u b
  rw[Rep] at z A;subst z A
  have j:(eqGuard op t ox oy (.int q a) (.int u b)).run P w=.ok () w:=by
   unfold eqGuard;cases op<;>simp
  split at e
  ·cases i:decide (b<0)<;>rw[i] at e<;>simp at e i
   refine⟨_,_,e,?_,by rw[Rep]⟩
   simp[j,binOp,Op.shift];intro F;omega
  ·cases i:decide (b<0)<;>rw[i] at e<;>simp at e i
   refine⟨_,_,e,?_,by rw[Rep]⟩
   simp[j,binOp,Op.shift];intro F;omega
  ·cases s:Jp q u<;>rw[s] at e<;>simp at e
   have m:q=u:=by simpa[Jp] using s
   subst m
   cases i:(b==0)<;>rw[i] at e<;>simp at e i
   refine⟨_,_,e,?_,by rw[Rep]⟩
   simp[j,binOp,Op.intDiv,i]
  ·cases s:Jp q u<;>rw[s] at e<;>simp at e
   have m:q=u:=by simpa[Jp] using s
   subst m
   cases i:(b==0)<;>rw[i] at e<;>simp at e i
   refine⟨_,_,e,?_,by rw[Rep]⟩
   simp[j,binOp,Op.intDiv,i]
  ·cases s:Jp q u<;>rw[s] at e<;>simp at e
   have m:q=u:=by simpa[Jp] using s
   subst m
   cases hi:RF op q a b with
   | none=>rw[hi] at e;simp at e
   | some v =>
    rw[hi] at e
    obtain⟨vc,G,I⟩:=j3 (P:=P) (J:=J) (β:=β) (h:=h) (w:=w) (t:=t) hi
    exact⟨v,vc,by simpa using e,by simp[j,G],I⟩
 ·rename_i a b
  rw[Rep] at z A;subst z A
  split at e
  ·cases i:GB P t<;>rw[i] at e<;>simp at e
   have C:P.underlying t=some .bool:=by unfold GB at i;split at i<;>simp_all
   refine⟨_,_,e,?_,by rw[Rep]⟩
   have D:(Op.equal t (.bool a) (.bool b)).run P w=.ok (a==b) w:=by
    have:∀ d,(Op.equalIn (d+1) t (.bool a) (.bool b)).run P w=.ok (a==b) w:=fun d=>by
     unfold Op.equalIn;simp only[Sem.run_bind,run_underlying C,Result.andThen_ok,Sem.run_pure]
    exact this 9999
   have j:∀ op,(eqGuard op t ox oy (.bool a) (.bool b)).run P w=.ok () w:=fun op=>by unfold eqGuard;cases op<;>simp
   simp only[Sem.run_bind,j,Result.andThen_ok,binOp,D,Sem.run_pure]
  ·cases i:GB P t<;>rw[i] at e<;>simp at e
   have C:P.underlying t=some .bool:=by unfold GB at i;split at i<;>simp_all
   refine⟨_,_,e,?_,by rw[Rep]⟩
   have D:(Op.equal t (.bool a) (.bool b)).run P w=.ok (a==b) w:=by
    have:∀ d,(Op.equalIn (d+1) t (.bool a) (.bool b)).run P w=.ok (a==b) w:=fun d=>by
     unfold Op.equalIn;simp only[Sem.run_bind,run_underlying C,Result.andThen_ok,Sem.run_pure]
    exact this 9999
   have j:∀ op,(eqGuard op t ox oy (.bool a) (.bool b)).run P w=.ok () w:=fun op=>by unfold eqGuard;cases op<;>simp
   simp only[Sem.run_bind,j,Result.andThen_ok,binOp,D,Sem.run_pure]
  ·simp at e
 ·rename_i a b
  rw[Rep] at z A;subst z A
  have K:(⟨⟨a⟩⟩:ByteArray).toList=a:=by simp[ByteArray.toList_eq]
  have eb:(⟨⟨b⟩⟩:ByteArray).toList=b:=by simp[ByteArray.toList_eq]
  have j:∀ op,(eqGuard op t ox oy (.string ⟨⟨a⟩⟩) (.string ⟨⟨b⟩⟩)).run P w=.ok () w:=fun op=>by unfold eqGuard;cases op<;>simp
  split at e
  ·cases i:ble (a.length+b.length) 140737488355328<;>rw[i] at e<;>simp at e i
   refine⟨_,_,e,?_,by rw[Rep]⟩
   have L:¬ (((⟨⟨a⟩⟩:ByteArray).size+(⟨⟨b⟩⟩:ByteArray).size:Nat):Int)>IntKind.i64.max:=by
    show ¬ ((a.length+b.length:Nat):Int)>9223372036854775807
    omega
   have M:(⟨⟨a⟩⟩:ByteArray)++⟨⟨b⟩⟩=⟨⟨a++b⟩⟩:=by
    apply ByteArray.ext;simp[ByteArray.data_append]
   simp only[Sem.run_bind,j,Result.andThen_ok,binOp,Op.stringOp,if_neg L,Sem.run_pure,M]
  all_goals first
   | (refine⟨_,_,e,?_,by rw[Rep]⟩;simp only[Sem.run_bind,j,Result.andThen_ok,binOp,Op.stringOp,Sem.run_pure,K,eb];done)
   | simp at e
 ·simp at e
end
end Gx
namespace Gx
open Go
section
variable {R:Type} {r:R} {P:Program} {J:Bool→Nat→Prop} {β:Bu} {h:Ao} {w:World}
theorem ub {α:Type} {o:Option α} {f:α→O R} (b:o.bind f=some r):∃ x,o=some x∧f x=some r:=by
 cases o with
 | none=>simp at b
 | some x=>exact⟨x,rfl,by simpa using b⟩
theorem uc {b:Bool} {x:O R} (d:cond b x none=some r):b=true∧x=some r:=by
 cases b<;>simp at d;exact⟨rfl,d⟩
theorem oa {b:Bool} {x:O R} (d:cond b none x=some r):b=false∧x=some r:=by
 cases b<;>simp at d;exact⟨rfl,d⟩
theorem rq {op:UnOp} {x v:AV} {vx:Value} (d:zT op x=some v) (i:Rep J β h w x vx) :
  ∃ vc,(Op.unary op vx).run P w=.ok vc w∧Rep J β h w v vc:=by
 unfold zT at d
 split at d
 ·rename_i k n
  rw[Rep] at i;subst i;simp at d;subst d
  refine⟨.int k (k.wrap (-n)),by simp[Op.unary,Op.intArith],?_⟩
  rw[Rep]
 ·rename_i k n
  rw[Rep] at i;subst i
  have e:=d
  rw[RF] at e
  simp only[Ac0] at e;subst e
  refine⟨_,rfl,?_⟩
  rw[Rep];cases k.signed<;>rfl
 ·rename_i b
  rw[Rep] at i;subst i;simp at d;subst d
  exact⟨.bool (!b),by simp[Op.unary],by rw[Rep]⟩
 ·simp at d
def UV (P:Program) (J:Bool→Nat→Prop) (β:Bu) (h:Ao) (w:World) (t:TypeId) (rd:Nat→Option Value) (v:AV):Prop :=
 (∃ d,P.underlying t=some d∧d.isRow=false∧∃ u,rd 0=some u∧Rep J β h w v u) ∨
 (∃ d,P.underlying t=some d∧d.isRow=true∧∃ us:List Value,(P.info? t).map (·.size)=some us.length∧(∀ j u,us[j]?=some u→rd j=some u)∧Rep J β h w v (.agg us.toArray))
theorem RepCs.at {J:Nat→Prop} {c:LA} {rd:Nat→Option Value} (b:RepCs J w c rd 0) {j:Nat} {x:AV} (d:c[j]?=some x):∃ u,rd j=some u∧RepC J w x u:=by
 have:=Bg.1 b j x d;simpa using this
theorem RepCs.drop {J:Nat→Prop} {c:LA} {rd:Nat→Option Value} (b:RepCs J w c rd 0) (n:Nat):RepCs J w (c.drop n) (fun j=>rd (n+j)) 0:=by
 rw[Bg] at b ⊢
 intro j x d
 rw[Ac2] at d
 simpa using b (n+j) x d
theorem RepCs.take {J:Nat→Prop} {c:LA} {rd:Nat→Option Value} (d:RepCs J w c rd 0) (n:Nat):RepCs J w (c.take n) rd 0:=by
 rw[Bg] at d ⊢
 intro j x b
 rw[Ac9] at b
 split at b
 ·exact d j x b
 ·simp at b
theorem RepCs.list {J:Nat→Prop} {c:LA} {rd:Nat→Option Value} (k:RepCs J w c rd 0) :
  ∃ e:List Value,e.length=c.length∧(∀ j u,e[j]?=some u→rd j=some u)∧RepCs J w c (fun j=>e[j]?) 0:=by
 refine⟨c.zipIdx.map fun p=>(rd p.2).getD undef,by simp,fun j u b=>?_,?_⟩
 ·rw[Adr,Af2] at b
  cases i:c[j]? with
  | none=>rw[i] at b;simp at b
  | some x =>
   rw[i] at b
   obtain⟨m,d,_⟩:=k.at i
   simp[d] at b
   rw[d,b]
 ·rw[Bg]
  intro j x b
  obtain⟨u,d,hr⟩:=k.at b
  refine⟨u,?_,hr⟩
  simp[b,d]
theorem UW {J1 J2:Nat→Prop}:∀ {c:LA} {rd:Nat→Option Value} {i:Nat},Aw c=true→RepCs J1 w c rd i→RepCs J2 w c rd i
 | [],_,_,_,_=>trivial
 | x::r,rd,i,b,d=>by
  rw[RepCs] at d ⊢
  obtain⟨⟨u,e,k⟩,j⟩:=d
  have hr:Aw r=true:=by unfold Aw at b;split at b<;>simp_all
  refine⟨⟨u,e,?_⟩,UW hr j⟩
  unfold Aw at b
  split at b<;>simp_all[RepC]
theorem IH {t:TypeId} {c:LA} {org:Bool} {k:Bool→O R} {rd:Nat→Option Value} {i:Nat} (b:R7 P t c org k=some r) (d:RepCs (J org) w c rd i):∃ o,k o=some r∧RepCs (J o) w c rd i:=by
 unfold R7 at b
 cases e:qk P t with
 | true=>rw[e] at b;exact⟨org,b,d⟩
 | false =>
  rw[e,cond_false] at b
  obtain⟨j,m⟩:=uc b
  refine⟨false,m,?_⟩
  cases org with
  | false=>exact d
  | true=>exact UW (by simpa using j) d
theorem Qq {t:TypeId} {c:LA} {org:Bool} {k:AV→O R} {rd:Nat→Option Value} (b:CV P t c org k=some r) (y:RepCs (J org) w c rd 0) :
  ∃ v,k v=some r∧UV P J β h w t rd v:=by
 unfold CV at b
 have agg:∀ {d:TypeDesc},P.underlying t=some d→d.isRow=true→((Bh P t).bind fun n=>cond (ble n c.length) (R7 P t (c.take n) org fun o=>k (.pagg (c.take n) o)) none)=some r →
   ∃ v,k v=some r∧UV P J β h w t rd v:=by
  intro d j M b
  obtain⟨n,hn,b⟩:=ub b
  obtain⟨F,b⟩:=uc b
  have L:n≤c.length:=by simpa using F
  obtain⟨G,m,i,I⟩:=(y.take n).list
  have S:G.length=n:=by rw[m];simp;omega
  obtain⟨o,b,K⟩:=IH b I
  refine⟨_,b,.inr ⟨d,j,M,G,?_,i,?_⟩⟩
  ·rw[S];exact hn
  ·rw[Rep];exact⟨G,rfl,by rw[m],K⟩
 split at b
 ·rename_i X j
  obtain⟨x,q,b⟩:=ub b
  obtain⟨n,hn,b⟩:=ub b
  obtain⟨u,m,i⟩:=y.at (by rw[←Acm];exact q)
  refine⟨_,b,.inl ⟨_,j,rfl,u,m,?_⟩⟩
  unfold CU at hn
  split at hn
  ·obtain⟨z,C⟩:=uc hn
   simp[Jp] at z C;subst z;subst C
   rw[RepC] at i;rw[Rep];exact i
  ·simp at hn
 ·rename_i j
  obtain⟨x,q,b⟩:=ub b
  obtain⟨n,hn,b⟩:=ub b
  obtain⟨u,m,i⟩:=y.at (by rw[←Acm];exact q)
  refine⟨_,b,.inl ⟨_,j,rfl,u,m,?_⟩⟩
  unfold asBool at hn
  split at hn
  ·simp at hn;subst hn
   rw[RepC] at i;rw[Rep];exact i
  ·simp at hn
 ·rename_i j
  obtain⟨x,q,b⟩:=ub b
  obtain⟨n,hn,b⟩:=ub b
  obtain⟨u,m,i⟩:=y.at (by rw[←Acm];exact q)
  refine⟨_,b,.inl ⟨_,j,rfl,u,m,?_⟩⟩
  unfold UO at hn
  split at hn
  ·simp at hn;subst hn
   rw[RepC] at i;rw[Rep];exact i
  ·simp at hn
 ·rename_i e j
  obtain⟨sz,T,b⟩:=ub b
  obtain⟨x,q,b⟩:=ub b
  obtain⟨p,s,b⟩:=ub b
  obtain⟨u,m,i⟩:=y.at (by rw[←Acm];exact q)
  refine⟨_,b,.inl ⟨_,j,rfl,u,m,?_⟩⟩
  unfold l7 at s
  rw[Rep,RepC]
  split at s
  ·obtain⟨z,D⟩:=uc s
   simp at z D;subst z;subst D
   rw[RepC] at i
   obtain⟨I,A,cap,K,U,Y,V⟩:=i
   exact⟨I,A,cap,K,U,by simp,V⟩
  ·simp at s;subst s
   rw[RepC] at i
   exact⟨by simp,none,0,i,by simp,by simp,.inl rfl⟩
  ·simp at s
 ·rename_i j;exact agg j rfl b
 ·rename_i j;exact agg j rfl b
 ·simp at b
theorem Bx:∀ {c:LA} {cs:List Value},Reps J β h w c cs↔cs.length=c.length∧∀ (j:Nat) (x:AV) (u:Value),c[j]?=some x→cs[j]?=some u→Rep J β h w x u
 | [],cs=>by rw[Reps];simp
 | x::r,cs=>by
  rw[Reps]
  constructor
  ·rintro⟨u,k,rfl,e,i⟩
   rw[Bx] at i
   refine⟨by simp[i.1],fun j y v b d=>?_⟩
   cases j with
   | zero=>simp at b d;subst b d;exact e
   | succ j=>exact i.2 j y v (by simpa using b) (by simpa using d)
  ·rintro⟨m,e⟩
   cases cs with
   | nil=>simp at m
   | cons u k =>
    refine⟨u,k,rfl,e 0 x u (by simp) (by simp),?_⟩
    rw[Bx]
    exact⟨by simpa using m,fun j y v b d=>e (j+1) y v (by simpa using b) (by simpa using d)⟩
theorem DB {t:TypeId} {c:LA} {k:AV→O R} {rd:Nat→Option Value} (b:UP P t c k=some r)
  (y:∀ j x,c[j]?=some x→∃ u,rd j=some u∧Rep J β h w x u) :
  ∃ v,k v=some r∧UV P J β h w t rd v:=by
 unfold UP at b
 have agg:∀ {d:TypeDesc},P.underlying t=some d→d.isRow=true→((Bh P t).bind fun n=>cond (ble n c.length) (k (.agg (c.take n))) none)=some r →
   ∃ v,k v=some r∧UV P J β h w t rd v:=by
  intro d i A b
  obtain⟨n,hn,b⟩:=ub b
  obtain⟨z,b⟩:=uc b
  have s:n≤c.length:=by simpa using z
  refine⟨_,b,.inr ⟨d,i,A,(c.take n).zipIdx.map fun p=>(rd p.2).getD undef,?_,fun j u q=>?_,?_⟩⟩
  ·simp;rw[Ac6 s];exact Afs.1 hn
  ·rw[Adr,Af2] at q
   cases e:(c.take n)[j]? with
   | none=>rw[e] at q;simp at q
   | some x =>
    rw[e] at q
    rw[Ac9] at e
    split at e
    ·obtain⟨C,m,_⟩:=y j x e
     simp[m] at q
     rw[m,q]
    ·simp at e
  ·rw[Rep]
   refine⟨_,rfl,Bx.2 ⟨by simp,fun j x u e i=>?_⟩⟩
   simp[e] at i
   rw[Ac9] at e
   split at e
   ·obtain⟨C,m,hr⟩:=y j x e
    simp[m] at i;subst i;exact hr
   ·simp at e
 split at b
 ·rename_i i;exact agg i rfl b
 ·rename_i i;exact agg i rfl b
 ·rename_i d _ _ i
  obtain⟨x,e,b⟩:=ub b
  obtain⟨u,D,F⟩:=y 0 x (by rw[←Acm];exact e)
  refine⟨x,b,.inl ⟨d,i,?_,u,D,F⟩⟩
  cases d<;>simp_all
 ·simp at b
theorem iF {n:Nat} {k:AV→O R}:∀ {c:LA} {i:Nat},Y0 n k c i=some r→i≤n∧∃ x,c[n - i]?=some x∧k x=some r
 | [],i,b=>by simp[Y0] at b
 | v::c,i,b=>by
  rw[Y0] at b
  cases d:beq n i with
  | true =>
   rw[d] at b
   have:n=i:=Ab5 d
   subst this
   exact⟨Ab3 _,v,by simp,b⟩
  | false =>
   rw[d] at b
   obtain⟨m,x,e,j⟩:=iF (c:=c) b
   refine⟨by omega,x,?_,j⟩
   rw[show n - i=(n - (i+1))+1 by omega];simpa using e
theorem MJ {t:TypeId} {c:LA} {off:Nat} {k:AV→O R} (b:CW P t c off k=some r):UP P t (c.drop off) k=some r:=by
 unfold CW at b
 unfold UP
 split at b
 ·exact b
 ·exact b
 ·rename_i d m q s
  obtain⟨_,x,e,i⟩:=iF b
  have j:(c.drop off).head?=some x:=by rw[Acm,Ac2];simpa using e
  rw[j];exact i
 ·simp at b
theorem GH {t:TypeId} {d:TypeDesc} (b:P.underlying t=some d):(isAgg t).run P w=.ok d.isRow w:=by
 unfold isAgg
 rw[Sem.run_bind,run_underlying b w]
 cases d<;>simp
theorem II {t:TypeId} {a:Addr} {v:AV} (hr:UV P J β h w t (fun j=>w.cell? (a.add j)) v):∃ vc,(loadVar t a).run P w=.ok vc w∧Rep J β h w v vc:=by
 rcases hr with⟨d,e,k,u,b,m⟩ | ⟨d,e,k,s,b,m,y⟩
 ·refine⟨u,?_,m⟩
  have q:w.cell? a=some u:=by simpa[Addr.add] using b
  simp[loadVar,GH e,k,q]
 ·refine⟨_,?_,y⟩
  have z:=run_loadCells_list (P:=P) w a s m
  cases hq:P.info? t with
  | none=>simp[hq] at b
  | some i =>
   have hs:i.size=s.length:=by simpa[hq] using b
   simp[loadVar,Sem.run_bind,GH e,k,Go.sizeOf,typeInfo,hq,hs,z]
theorem Pp {t:TypeId} {cs:List Value} {off:Nat} {v:AV} (hr:UV P J β h w t (fun j=>cs[off+j]?) v):∃ vc,(part t ⟨cs⟩ off).run P w=.ok vc w∧Rep J β h w v vc:=by
 rcases hr with⟨d,e,k,u,b,m⟩ | ⟨d,e,k,q,b,m,y⟩
 ·refine⟨u,?_,m⟩
  simp at b
  simp[part,GH e,k,b]
 ·refine⟨_,?_,y⟩
  cases hq:P.info? t with
  | none=>simp[hq] at b
  | some i =>
   have hs:i.size=q.length:=by simpa[hq] using b
   have:(⟨cs⟩:Array Value).extract off (off+q.length)=q.toArray:=by
    apply Adb
    simp
    apply List.ext_getElem?
    intro j
    rw[Ac9,Ac2]
    split
    ·rename_i s
     rw[Ab1 s]
     exact m j _ (Ab1 s)
    ·rename_i s
     rw[Adu (by omega)]
   simp only[part,Sem.run_bind,GH e,k,Go.sizeOf,typeInfo,run_program,Result.andThen_ok,hq,Sem.run_pure,hs,if_true,this]
end
end Gx
namespace Gx
open Go
section
variable {R:Type} {r:R} {P:Program} {J:Bool→Nat→Prop} {β:Bu} {h:Ao} {w:World} {g:A6}
theorem Li {k:Nat} {cs:Array Value} {ty:TypeId} {fr:Nat×Nat} (b:w.heap[k]?=some (.cells cs ty fr)) (i:Nat):w.cell? ⟨k,i,none⟩=cs[i]?:=by
 simp[World.cell?,b]
def Looks (g:A6) (h:Ao):Prop:=∀ b x,g b=some x→Ag h b=some x
theorem Co {b:Nat} {x:Blk} (e:Looks g h) (d:Em g b=some x):Ag h b=some x∧x.dead=false:=by
 unfold Em at d
 obtain⟨y,i,d⟩:=ub d
 obtain⟨j,d⟩:=oa d
 simp at d;subst d
 exact⟨e b _ i,j⟩
theorem j4 {b off:Nat} {x:Blk} {v:Value} (S:SimH J β h w) (m:Ag h b=some x) (q:x.dead=false) (hr:Rep J β h w (.optr b off) v) :
  ∃ k o cs ty fr,β b=some (k,o)∧v=.pointer (some ⟨k,o+off,none⟩)∧w.heap[k]?=some (.cells cs ty fr) ∧
  FrTy x.ty ty o cs.size fr∧o+x.cells.length≤cs.size∧CellsRep J β h w x (fun j=>cs[o+j]?) ∧
  (x.sealed=false→∀ g,¬ J g k)∧(x.sealed=true→J x.taint k):=by
 rw[Rep] at hr
 obtain⟨y,k,o,⟨e,s⟩,u,hr⟩:=hr
 rw[m] at e;simp at e;subst e
 rcases hr with hr | i
 ·simp[q] at hr
 ·rcases S.blk b x m q s with⟨hn,_⟩ | ⟨I,o',cs,ty,fr,d,z,A,C,D,F,G⟩
  ·rw[i] at hn;simp at hn
  ·rw[i] at d;simp at d;obtain⟨rfl,rfl⟩:=d
   exact⟨k,o,cs,ty,fr,i,u,z,A,C,D,F,G⟩
theorem CellsRep.reads {t:TypeId} {x:Blk} {cs:Array Value} {o off:Nat} {k:AV→O R} (m:CellsRep J β h w x (fun j=>cs[o+j]?))
  (b:cond x.pure (CV P t (x.cells.drop off) x.taint k) (CW P t x.cells off k)=some r) :
  ∃ v,k v=some r∧UV P J β h w t (fun j=>cs[o+off+j]?) v:=by
 cases d:x.pure with
 | true =>
  rw[d] at b
  have:=(m.1 d).drop off
  obtain⟨v,e,i⟩:=Qq (β:=β) (h:=h) b this
  exact⟨v,e,by simpa[Acx] using i⟩
 | false =>
  rw[d] at b
  obtain⟨v,e,i⟩:=DB (J:=J) (β:=β) (h:=h) (w:=w) (rd:=fun j=>cs[o+(off+j)]?) (MJ b) (fun j y q=>by
   rw[Ac2] at q
   obtain⟨u,s,hr,_⟩:=m.2 d _ _ q
   exact⟨u,s,hr⟩)
  exact⟨v,e,by simpa[Acx] using i⟩
theorem UX {t:TypeId} {p:AV} {vp:Value} {k:AV→O R} (S:SimH J β h w) (z:Looks g h) (d:aH P g t p k=some r) (e:Rep J β h w p vp) :
  ∃ v vc,k v=some r∧(Instr.loadAt t vp).run P w=.ok vc w∧Rep J β h w v vc:=by
 unfold aH at d
 split at d
 ·rename_i c org
  rw[Rep,RepC] at e
  obtain⟨a,rfl,_,i⟩:=e
  obtain⟨v,m,q⟩:=Qq (β:=β) (h:=h) d i
  obtain⟨vc,s,u⟩:=II q
  exact⟨v,vc,m,by simp[Instr.loadAt,Instr.sureAddr,s],u⟩
 ·rename_i b off
  obtain⟨x,A,d⟩:=ub d
  obtain⟨C,D⟩:=Co z A
  obtain⟨kk,o,cs,ty,fr,G,rfl,F,_,_,i,_⟩:=j4 S C D e
  obtain⟨v,m,q⟩:=i.reads d
  have y:UV P J β h w t (fun j=>w.cell? ((⟨kk,o+off,none⟩:Addr).add j)) v:=by
   simpa only[Addr.add_mid,Li F] using q
  obtain⟨vc,s,u⟩:=II y
  exact⟨v,vc,m,by simp[Instr.loadAt,Instr.sureAddr,s],u⟩
 ·simp at d
theorem B5 {t:TypeId} {n:Nat} (hs:Bh P t=some n) (w:World):(Go.sizeOf t).run P w=.ok n w:=by
 unfold Bh at hs
 cases hq:P.info? t with
 | none=>simp[hq] at hs
 | some i=>simp[hq] at hs;simp[Go.sizeOf,typeInfo,hq,hs]
theorem Ou {i:Int} {n:Nat} (hi:Af i n=true):0≤i∧i<(n:Int):=by simpa[Af] using hi
theorem MK {J:Nat→Prop} {c:LA} {a:Addr} (b:RepCs J w c (fun j=>w.cell? (a.add j)) 0) (n:Nat):RepCs J w (c.drop n) (fun j=>w.cell? ((a.add n).add j)) 0:=by
 have e:∀ j,(a.add n).add j=a.add (n+j):=fun j=>by
  unfold Addr.add
  by_cases d:n=0<;>by_cases i:j=0<;>simp[d,i,Acx]
 simpa[e] using b.drop n
theorem vM {b off n:Nat} {v:Value} (m:Nat) (hr:Rep J β h w (.own b off n) v) (hn:n≠0) :
  ∃ k o cap,v=.slice (some ⟨k,o,none⟩) n cap∧Rep J β h w (.optr b (off+m)) (.pointer (some ⟨k,o+m,none⟩)):=by
 rw[Rep] at hr
 obtain⟨x,A,cap,d,rfl,e,hr⟩:=hr
 rcases hr with hr | ⟨k,o,rfl,hr⟩
 ·omega
 ·refine⟨k,o+off,cap,rfl,?_⟩
  rw[Rep];exact⟨x,k,o,d,by rw[Acx],hr.imp id (·.1)⟩
theorem IJ {t b:TypeId} {d:IntKind} {i:Int} {len cap sz:Nat} {a:Addr} (e:P.underlying t=some (.slice b)) (hs:Bh P b=some sz) (j:Af i len=true) :
  (Instr.indexAt t (.slice (some a) len cap) (.int d i)).run P w=.ok (.pointer (some (a.add (i.toNat*sz)))) w:=by
 obtain⟨h0,k⟩:=Ou j
 simp[Instr.indexAt,asIntOf,run_underlying e,h0,k,B5 hs]
theorem IK {t b:TypeId} {d:IntKind} {i:Int} {len sz:Nat} {a:Addr} (e:P.underlying t=some (.array len b)) (hs:Bh P b=some sz) (j:Af i len=true) :
  (Instr.indexAt t (.pointer (some a)) (.int d i)).run P w=.ok (.pointer (some (a.add (i.toNat*sz)))) w:=by
 obtain⟨h0,k⟩:=Ou j
 simp[Instr.indexAt,asIntOf,run_underlying e,h0,k,B5 hs,Instr.sureAddr]
theorem RV {t:TypeId} {x i:AV} {vx vi:Value} {k:AV→O R} (e:Om P t x i k=some r) (j:Rep J β h w x vx) (hi:Rep J β h w i vi) :
  ∃ v vc,k v=some r∧(Instr.indexAt t vx vi).run P w=.ok vc w∧Rep J β h w v vc:=by
 unfold Om at e
 split at e
 ·rename_i u c len sz tight org z i m
  obtain⟨C,hs,q⟩:=ub e
  obtain⟨K,S⟩:=uc q
  obtain⟨d,s⟩:=uc S
  have D:C=sz:=by simp at K;exact K.symm
  subst D
  rw[Rep] at hi;subst hi
  rw[Rep,RepC] at j
  obtain⟨L,A,cap,rfl,M,_,hA⟩:=j
  rcases hA with hA | ⟨a,rfl,F,G⟩
  ·have:=Ou d;omega
  refine⟨_,_,s,IJ m hs d,?_⟩
  rw[Rep,RepC]
  exact⟨_,rfl,by rw[Mv];exact F,MK G _⟩
 ·rename_i u b off len z i m
  obtain⟨sz,hs,q⟩:=ub e
  obtain⟨d,s⟩:=uc q
  rw[Rep] at hi;subst hi
  obtain⟨kk,o,cap,rfl,I⟩:=vM (i.toNat*sz) j (by have:=Ou d;omega)
  exact⟨_,_,s,IJ m hs d,by rw[Addr.add_mid];exact I⟩
 ·rename_i len u c org z i m
  obtain⟨sz,hs,q⟩:=ub e
  obtain⟨d,s⟩:=uc q
  rw[Rep] at hi;subst hi
  rw[Rep,RepC] at j
  obtain⟨a,rfl,F,G⟩:=j
  refine⟨_,_,s,IK m hs d,?_⟩
  rw[Rep,RepC]
  exact⟨_,rfl,by rw[Mv];exact F,MK G _⟩
 ·rename_i len u b off z i m
  obtain⟨sz,hs,q⟩:=ub e
  obtain⟨d,s⟩:=uc q
  rw[Rep] at hi;subst hi
  rw[Rep] at j
  obtain⟨y,kk,o,T,rfl,I⟩:=j
  refine⟨_,_,s,IK m hs d,?_⟩
  rw[Rep,Addr.add_mid]
  exact⟨y,kk,o,T,by rw[Acx],I⟩
 ·simp at e
theorem ML {t:TypeId} {f:Nat} {p:Nat×TypeId} (b:ZY P t f=some p):∃ fs fd,P.underlying t=some (.struct fs)∧fs[f]?=some fd∧fd.offset=p.1∧fd.type=p.2:=by
 unfold ZY at b
 split at b
 ·rename_i fs d
  cases hq:fs[f]? with
  | none=>simp[hq] at b
  | some fd=>simp[hq] at b;subst b;exact⟨fs,fd,d,hq,rfl,rfl⟩
 ·simp at b
theorem RW {t:TypeId} {x:AV} {f:Nat} {vx:Value} {k:AV→O R} (j:On P t x f k=some r) (b:Rep J β h w x vx) :
  ∃ v vc,k v=some r∧(Instr.fieldAt t vx f).run P w=.ok vc w∧Rep J β h w v vc:=by
 unfold On at j
 obtain⟨p,m,q⟩:=ub j
 obtain⟨n,hn,s⟩:=ub q
 obtain⟨h0,d⟩:=oa s
 obtain⟨fs,fd,u,z,A,C⟩:=ML m
 have i:n≠0:=by intro e;subst e;simp at h0
 have run:∀ a:Addr,(Instr.fieldAt t (.pointer (some a)) f).run P w=.ok (.pointer (some (a.add p.1))) w:=fun a=>by
  simp[Instr.fieldAt,run_underlying u,z,Instr.sureAddr,fieldPlace,C,B5 hn,i,A]
 split at d
 ·rw[Rep,RepC] at b
  obtain⟨a,rfl,D,F⟩:=b
  refine⟨_,_,d,run a,?_⟩
  rw[Rep,RepC]
  exact⟨_,rfl,by rw[Mv];exact D,MK F _⟩
 ·rw[Rep] at b
  obtain⟨y,kk,o,G,rfl,I⟩:=b
  refine⟨_,_,d,run _,?_⟩
  rw[Rep,Addr.add_mid]
  exact⟨y,kk,o,G,by rw[Acx],I⟩
 ·simp at d
theorem j5 {t:TypeId} {x:AV} {f:Nat} {vx:Value} {k:AV→O R} (z:RG P t x f k=some r) (d:Rep J β h w x vx) :
  ∃ v vc,k v=some r∧(Instr.field t vx f).run P w=.ok vc w∧Rep J β h w v vc:=by
 unfold RG at z
 obtain⟨p,G,e⟩:=ub z
 obtain⟨fs,fd,A,C,D,F⟩:=ML G
 split at e
 ·rename_i c org
  rw[Rep] at d
  obtain⟨cs,rfl,I,b⟩:=d
  obtain⟨v,i,m⟩:=Qq (β:=β) (h:=h) e (b.drop p.1)
  obtain⟨vc,q,s⟩:=Pp m
  exact⟨v,vc,i,by simp[Instr.field,run_underlying A,C,asAgg,F,D,q],s⟩
 ·rename_i c
  rw[Rep] at d
  obtain⟨cs,rfl,b⟩:=d
  rw[Bx] at b
  obtain⟨v,i,m⟩:=DB (J:=J) (β:=β) (h:=h) (w:=w) (rd:=fun j=>cs[p.1+j]?) e (fun j y u=>by
   rw[Ac2] at u
   have:p.1+j<cs.length:=by
    rw[b.1];exact(Ab7.1 u).1
   exact⟨cs[p.1+j],Ab1 this,b.2 _ _ _ u (Ab1 this)⟩)
  obtain⟨vc,q,s⟩:=Pp m
  exact⟨v,vc,i,by simp[Instr.field,run_underlying A,C,asAgg,F,D,q],s⟩
 ·simp at e
theorem j6 {t:TypeId} {x i:AV} {vx vi:Value} {k:AV→O R} (b:RH P t x i k=some r) (d:Rep J β h w x vx) (hi:Rep J β h w i vi) :
  ∃ v vc,k v=some r∧(Instr.index t vx vi).run P w=.ok vc w∧Rep J β h w v vc:=by
 unfold RH at b
 split at b
 ·rename_i s L i e
  obtain⟨m,q⟩:=uc b
  obtain⟨h0,A⟩:=Ou m
  rw[Rep] at hi;rw[Rep] at d;subst hi d
  have u:i.toNat<s.length:=by omega
  refine⟨_,.int .u8 ((s.getD i.toNat 0).toNat:Int),q,?_,by rw[Rep]⟩
  have M:(⟨⟨s⟩⟩:ByteArray)[i.toNat]?=some s[i.toNat]:=by
   have:i.toNat<(⟨⟨s⟩⟩:ByteArray).size:=u
   rw[getElem?_pos (⟨⟨s⟩⟩:ByteArray) i.toNat this];rfl
  simp only[Instr.index,asIntOf,Sem.run_bind,Sem.run_pure,Result.andThen_ok,run_underlying e,h0,if_true,M,Ab9,Ab1 u,Option.getD_some]
 ·rename_i len S c org L i e
  obtain⟨sz,hs,q⟩:=ub b
  obtain⟨m,A⟩:=uc q
  obtain⟨h0,C⟩:=Ou m
  rw[Rep] at hi;rw[Rep] at d;subst hi
  obtain⟨cs,rfl,T,z⟩:=d
  obtain⟨v,D,F⟩:=Qq (β:=β) (h:=h) A (z.drop (i.toNat*sz))
  obtain⟨vc,G,I⟩:=Pp F
  exact⟨v,vc,D,by simp[Instr.index,asIntOf,run_underlying e,h0,C,B5 hs,G],I⟩
 ·rename_i len S c L i e
  obtain⟨sz,hs,q⟩:=ub b
  obtain⟨m,A⟩:=uc q
  obtain⟨h0,C⟩:=Ou m
  rw[Rep] at hi;rw[Rep] at d;subst hi
  obtain⟨cs,rfl,z⟩:=d
  rw[Bx] at z
  obtain⟨v,D,F⟩:=DB (J:=J) (β:=β) (h:=h) (w:=w) (rd:=fun j=>cs[i.toNat*sz+j]?) (MJ A) (fun j y K=>by
   rw[Ac2] at K
   have:i.toNat*sz+j<cs.length:=by
    rw[z.1];exact(Ab7.1 K).1
   exact⟨cs[i.toNat*sz+j],Ab1 this,z.2 _ _ _ K (Ab1 this)⟩)
  obtain⟨vc,G,I⟩:=Pp F
  exact⟨v,vc,D,by simp[Instr.index,asIntOf,run_underlying e,h0,C,B5 hs,G],I⟩
 ·simp at b
def Rk (J:Bool→Nat→Prop) (β:Bu) (h:Ao) (w:World):Option AV→Option Value→Prop
 | none,none=>True
 | some x,some v=>Rep J β h w x v
 | _,_=>False
theorem DC {o:Option AV} {vo:Option Value} {d:Nat} {i:Int} (b:MC o d=some i) (e:Rk J β h w o vo) :
  (o=none∧vo=none∧i=d)∨∃ k,vo=some (.int k i):=by
 unfold MC at b
 split at b
 ·simp at b;subst b
  cases vo with
  | none=>exact .inl ⟨rfl,rfl,rfl⟩
  | some v=>simp[Rk] at e
 ·rename_i k j
  simp at b;subst b
  cases vo with
  | none=>simp[Rk] at e
  | some v=>rw[Rk,Rep] at e;subst e;exact .inr ⟨k,rfl⟩
 ·simp at b
theorem Pq {lo hi mx:Option AV} {vlo vhi vmx:Option Value} {n cap:Nat} {k:Nat→Nat→O R} {isSlice:Bool} (A:R8 lo hi mx n k=some r)
  (v:Rk J β h w lo vlo)
  (q:Rk J β h w hi vhi)
  (s:Rk J β h w mx vmx) (C:n≤cap) :
  ∃ l e m,k l e=some r∧l≤e∧e≤n∧e≤m∧m≤cap∧(mx=none→m=cap)∧(∀ j i,vmx=some (.int j i)→(m:Int)=i)∧(∀ j i,vhi=some (.int j i)→(e:Int)=i)∧(hi=none→e=n) ∧
   (Instr.sliceBounds isSlice n cap vlo vhi vmx).run P w=.ok (l,e,m) w:=by
 unfold R8 at A
 obtain⟨l,I,K⟩:=ub A
 obtain⟨d,L,M⟩:=ub K
 obtain⟨m,S,z⟩:=ub M
 obtain⟨D,z⟩:=oa z
 obtain⟨F,G⟩:=uc z
 simp at F D
 obtain⟨c1,c2,c3,c4⟩:=F
 have run:∀ (j:IntKind) (i:Int) (y:Nat) (code:BoundsCode),0≤i→i≤(y:Int)→(Instr.sliceBound (.int j i) y code).run P w=.ok i.toNat w:=fun j i y code a b=>by
  simp[Instr.sliceBound,asIntOf,a,b]
 have bl:=DC (J:=J) (β:=β) (h:=h) (w:=w) I v
 have bh:=DC (J:=J) (β:=β) (h:=h) (w:=w) L q
 have bm:=DC (J:=J) (β:=β) (h:=h) (w:=w) S s
 rcases bm with⟨rfl,rfl,rfl⟩ | ⟨km,rfl⟩
 ·refine⟨l.toNat,d.toNat,cap,G,by omega,by omega,by omega,by omega,fun _=>rfl,by simp,?_,?_,?_⟩
  ·intro j i u
   rcases bh with⟨_,rfl,_⟩ | ⟨kh,rfl⟩
   ·simp at u
   ·simp at u;omega
  ·intro hn
   rcases bh with⟨_,_,rfl⟩ | ⟨kh,rfl⟩
   ·simp
   ·subst hn;simp[Rk] at q
  ·rcases bh with⟨_,rfl,rfl⟩ | ⟨kh,rfl⟩<;>rcases bl with⟨_,rfl,rfl⟩ | ⟨kl,rfl⟩
   ·simp[Instr.sliceBounds]
   ·simp[Instr.sliceBounds,run _ l n _ c1 (by omega)]
   ·simp[Instr.sliceBounds,run _ d cap _ (by omega) (by omega)]
   ·simp[Instr.sliceBounds,run _ d cap _ (by omega) (by omega),run _ l d.toNat _ c1 (by omega)]
 ·rcases bh with⟨rfl,rfl,rfl⟩ | ⟨kh,rfl⟩
  ·have:mx.isSome=true:=by
    cases mx with
    | none=>simp[Rk] at s
    | some _=>rfl
   have:=D this;simp at this
  ·refine⟨l.toNat,d.toNat,m.toNat,G,by omega,by omega,by omega,by omega,?_,?_,?_,?_,?_⟩
   ·intro hn;subst hn;simp[Rk] at s
   ·intro j i u;simp at u;omega
   ·intro j i u;simp at u;omega
   ·intro hn;subst hn;simp[Rk] at q
   ·rcases bl with⟨_,rfl,rfl⟩ | ⟨kl,rfl⟩
    ·simp[Instr.sliceBounds,run _ m cap _ (by omega) (by omega),run _ d m.toNat _ (by omega) (by omega)]
    ·simp[Instr.sliceBounds,run _ m cap _ (by omega) (by omega),run _ d m.toNat _ (by omega) (by omega),run _ l d.toNat _ c1 (by omega)]
theorem j7 {t:TypeId} {x:AV} {lo hi mx:Option AV} {vx:Value} {vlo vhi vmx:Option Value} {k:AV→O R} (S:SimH J β h w) (hl:Looks g h) (z:RI P g t x lo hi mx k=some r)
  (C:Rep J β h w x vx) (D:Rk J β h w lo vlo) (e:Rk J β h w hi vhi) (j:Rk J β h w mx vmx) :
  ∃ v vc,k v=some r∧(Instr.sliceAt t vx vlo vhi vmx).run P w=.ok vc w∧Rep J β h w v vc:=by
 unfold RI at z
 split at z
 ·rename_i s F
  obtain⟨hm,M⟩:=oa z
  have hmn:mx=none:=by cases mx<;>simp_all
  subst hmn
  have hv:vmx=none:=by cases vmx<;>simp_all[Rk]
  subst hv
  rw[Rep] at C;subst C
  obtain⟨l,d,m,G,T,h4,_,_,h5,_,_,_,h6⟩:=Pq (P:=P) (isSlice:=false) M D e (vmx:=none) (by simp[Rk]) (Ab3 _)
  refine⟨_,_,G,?_,by rw[Rep]⟩
  have hs:(⟨⟨s⟩⟩:ByteArray).size=s.length:=rfl
  have I:(⟨⟨s⟩⟩:ByteArray).extract l d=⟨⟨(s.drop l).take (d - l)⟩⟩:=by
   apply ByteArray.ext
   rw[ByteArray.data_extract]
   simp
  simp[Instr.sliceAt,Instr.slice,run_underlying F,hs,h6,I]
 ·rename_i el F
  rw[Rep] at C;subst C
  obtain⟨sz,hs,z⟩:=ub z
  obtain⟨l,d,m,G,T,h4,h5,h6,_,_,_,_,h7⟩:=Pq (P:=P) (isSlice:=true) z D e j (Ab3 _)
  have:l=0:=by omega
  have:d=0:=by omega
  have:m=0:=by omega
  subst l;subst d;subst m
  refine⟨_,.slice none 0 0,G,?_,by rw[Rep]⟩
  simp[Instr.sliceAt,Instr.slice,run_underlying F,h7,B5 hs]
 ·rename_i el c n sz tight org F
  obtain⟨U,hs,M⟩:=ub z
  obtain⟨I,G⟩:=uc M
  have K:U=sz:=by simp at I;exact I.symm
  subst K
  rw[Rep,RepC] at C
  obtain⟨Y,A,cap,rfl,q,ht,hA⟩:=C
  obtain⟨l,d,m,T,h4,h5,h6,h7,h8,h9,h10,h11,h12⟩:=Pq (P:=P) (isSlice:=true) G D e j q
  refine⟨_,.slice (if m=l then A else A.map (·.add (l*U))) (d - l) (m - l),T,?_,?_⟩
  ·simp[Instr.sliceAt,Instr.slice,run_underlying F,h12,B5 hs]
  ·rw[Rep,RepC]
   refine⟨?_,_,_,rfl,by omega,?_,?_⟩
   ·simp;rw[Y,←Nat.sub_mul]
    exact Ac6 (Aco _ (by omega))
   ·intro u
    unfold ql at u
    split at u
    ·have:=ht u
     have:=h8 rfl
     have:=h11 rfl
     omega
    ·rename_i ka a kb b
     cases vhi with
     | none=>simp[Rk] at e
     | some u1=>cases vmx with
      | none=>simp[Rk] at j
      | some u2 =>
       rw[Rk,Rep] at e j;subst e j
       have e1:=h10 _ _ rfl
       have e2:=h9 _ _ rfl
       simp at u
       omega
    ·simp at u
   ·by_cases hz:d - l=0
    ·exact .inl hz
    ·right
     rcases hA with hA | ⟨a,rfl,hj,hc⟩
     ·omega
     ·refine⟨a.add (l*U),by rw[if_neg (by omega)];rfl,by rw[Mv];exact hj,(MK hc _).take _⟩
 ·rename_i el b off n F
  obtain⟨sz,hs,M⟩:=ub z
  obtain⟨y,hy,G⟩:=ub M
  obtain⟨I,T⟩:=uc G
  obtain⟨X,hd⟩:=Co hl hy
  have K:sz=y.sz:=by simpa using I
  rw[Rep] at C
  obtain⟨x,A,cap,⟨i,L⟩,rfl,q,hr⟩:=C
  rw[X] at i;simp at i;subst i
  obtain⟨l,d,m,h4,h5,h6,h7,h8,_,_,_,_,h9⟩:=Pq (P:=P) (isSlice:=true) T D e j q
  refine⟨_,.slice (if m=l then A else A.map (·.add (l*sz))) (d - l) (m - l),h4,?_,?_⟩
  ·simp[Instr.sliceAt,Instr.slice,run_underlying F,h9,B5 hs]
  ·rw[Rep]
   refine⟨y,_,_,⟨X,L⟩,rfl,by omega,?_⟩
   by_cases hz:m - l=0
   ·exact .inl hz
   ·right
    rcases hr with hr | ⟨kk,o,rfl,hr⟩
    ·omega
    ·refine⟨kk,o,by rw[if_neg (by omega)];simp[Addr.add_mid,Acx],?_⟩
     rcases hr with hr | ⟨r1,r2,r3⟩
     ·simp[hd] at hr
     ·refine .inr ⟨r1,?_,?_⟩
      ·have:l*sz+(m - l)*y.sz≤cap*y.sz:=by
        rw[K,←Ad8];exact Aco _ (by omega)
       omega
      ·have:l*sz+(d - l)*y.sz≤n*y.sz:=by
        rw[K,←Ad8];exact Aco _ (by omega)
       omega
 ·rename_i n el b off F
  obtain⟨sz,hs,M⟩:=ub z
  obtain⟨y,hy,G⟩:=ub M
  obtain⟨I,T⟩:=uc G
  simp at I
  obtain⟨e1,e2,e3,e4,e5⟩:=I
  subst e3;subst e4;subst e5
  obtain⟨X,hd⟩:=Co hl hy
  have nlo:vlo=none:=by cases vlo<;>simp_all[Rk]
  have nhi:vhi=none:=by cases vhi<;>simp_all[Rk]
  have nmx:vmx=none:=by cases vmx<;>simp_all[Rk]
  subst nlo;subst nhi;subst nmx
  rw[Rep] at C
  obtain⟨x,kk,o,⟨i,L⟩,rfl,hr⟩:=C
  rw[X] at i;simp at i;subst i
  refine⟨_,.slice (some ⟨kk,o+off,none⟩) n n,T,?_,?_⟩
  ·have e1:(Addr.add ⟨kk,o+off,none⟩ 0)=⟨kk,o+off,none⟩:=rfl
   simp[Instr.sliceAt,Instr.sureAddr,run_underlying F,Instr.sliceBounds,B5 hs,e1]
  ·rw[Rep]
   refine⟨y,_,_,⟨X,L⟩,rfl,Ab3 _,.inr ⟨kk,o,rfl,?_⟩⟩
   rcases hr with hr | hr
   ·exact .inl hr
   ·rcases S.blk b y X hd L with⟨hn',_⟩ | ⟨k',o',cs,ty',fr,V,g1,g2,g3,_⟩
    ·rw[hr] at hn';simp at hn'
    ·rw[hr] at V;simp at V;obtain⟨rfl,rfl⟩:=V
     refine .inr ⟨hr,?_,?_⟩
     ·rw[e1,show Ar w kk=cs.size by simp[Ar,g1]];omega
     ·rw[e1];omega
 ·simp at z
theorem oc {t:TypeId} {x v:AV} {vx:Value} {ty:TypeId} (b:wk P t x=some v) (e:Rep J β h w x vx) :
  ∃ vc,(Builtin.len_ #[t] ty #[vx]).run P w=.ok vc w∧Rep J β h w v vc:=by
 unfold wk at b
 split at b
 ·rename_i d
  simp at b;subst b;rw[Rep] at e;subst e
  exact⟨.int .i64 0,by simp[Builtin.len_,run_underlying d,goInt],by rw[Rep]⟩
 ·rename_i n _ _ _ d
  simp at b;subst b;rw[Rep,RepC] at e
  obtain⟨_,A,cap,rfl,_⟩:=e
  exact⟨.int .i64 n,by simp[Builtin.len_,run_underlying d,goInt],by rw[Rep]⟩
 ·rename_i n d
  simp at b;subst b;rw[Rep] at e
  obtain⟨_,A,cap,_,rfl,_⟩:=e
  exact⟨.int .i64 n,by simp[Builtin.len_,run_underlying d,goInt],by rw[Rep]⟩
 ·rename_i s d
  simp at b;subst b;rw[Rep] at e;subst e
  refine⟨.int .i64 s.length,?_,by rw[Rep]⟩
  have hs:(⟨⟨s⟩⟩:ByteArray).size=s.length:=rfl
  simp[Builtin.len_,run_underlying d,goInt,hs]
 ·rename_i n _ d
  simp at b;subst b
  exact⟨.int .i64 n,by simp[Builtin.len_,run_underlying d,goInt],by rw[Rep]⟩
 ·simp at b
theorem MM {J:Nat→Prop}:∀ {x:AV} {u:Value},RepC J w x u→u.oneCell'=true
 | .int ..,_,hr=>by rw[RepC] at hr;subst hr;rfl
 | .bool _,_,hr=>by rw[RepC] at hr;subst hr;rfl
 | .str _,_,hr=>by rw[RepC] at hr;subst hr;rfl
 | .nsl,_,hr=>by rw[RepC] at hr;subst hr;rfl
 | .imm ..,_,hr=>by rw[RepC] at hr;obtain⟨_,A,cap,rfl,_⟩:=hr;rfl
 | .iptr ..,_,hr=>by rw[RepC] at hr;obtain⟨a,rfl,_⟩:=hr;rfl
 | .nilptr,_,hr=>by rw[RepC] at hr;subst hr;rfl
 | .nilfn,_,hr=>by rw[RepC] at hr;subst hr;rfl
 | .fn _ [],_,hr=>by rw[RepC] at hr;subst hr;rfl
 | .fn _ (_::_),_,hr=>by simp[RepC] at hr
 | .pagg ..,_,hr=>by simp[RepC] at hr
 | .agg _,_,hr=>by simp[RepC] at hr
 | .tup _,_,hr=>by simp[RepC] at hr
 | .own ..,_,hr=>by simp[RepC] at hr
 | .optr ..,_,hr=>by simp[RepC] at hr
 | .undef,_,hr=>by simp[RepC] at hr
 | .omap _,_,hr=>by simp[RepC] at hr
theorem RepCs.one {J:Nat→Prop} {c:LA} {d:List Value} (i:RepCs J w c (fun j=>d[j]?) 0) (q:d.length=c.length):∀ u ∈ d,u.oneCell'=true:=by
 intro u k
 obtain⟨j,m,rfl⟩:=Aer k
 have e:j<c.length:=by omega
 obtain⟨s,b,hr⟩:=i.at (Ab1 e)
 simp[Ab1 m] at b
 rw[b];exact MM hr
structure Yield (P:Program) (w:World) (sz:Nat) (vx:Value) (n:Nat) (us:List Value):Prop where
 len:∀ w':World,(Builtin.lenOf vx).run P w'=.ok n w'
 cells:∀ (w':World) (m:Nat),(∀ a,w'.cell? a=w.cell? a)→m≤n→(Builtin.firstCells sz m vx).run P w'=.ok (us.take (m*sz)).toArray w'
 length:us.length=n*sz
theorem UY {sz:Nat} {x:AV} {vx:Value} {q:LA×Nat×Bool} (S:SimH J β h w) (hl:Looks g h) (z:IE g sz x=some q) (C:Rep J β h w x vx) :
  ∃ e:List Value,Yield P w sz vx q.2.1 e∧q.1.length=e.length∧RepCs (J q.2.2) w q.1 (fun j=>e[j]?) 0:=by
 have ofSlice:∀ (a:Addr) (n cap:Nat) (e:List Value),e.length=n*sz→(∀ j u,e[j]?=some u→w.cell? (a.add j)=some u)→Yield P w sz (.slice (some a) n cap) n e:=fun a n cap e d hu =>
  ⟨fun _=>rfl,fun w' m i T=>by
   have hle:m*sz≤n*sz:=Aco _ T
   refine run_firstCells_some (P:=P) w' sz m a n cap (e.take (m*sz)) (by simp;omega) (fun j v K=>?_)
   rw[i]
   rw[Ac9] at K
   split at K
   ·exact hu j v K
   ·simp at K,d⟩
 have ofEmpty:∀ (A:Option Addr) (cap:Nat),Yield P w sz (.slice A 0 cap) 0 []:=fun A cap =>
  ⟨fun _=>rfl,fun w' m i T=>by
   have:m=0:=by omega
   subst this
   cases A with
   | none=>simp[run_firstCells_none]
   | some a=>have:=run_firstCells_some (P:=P) w' sz 0 a 0 cap [] (by simp) (fun j v K=>by simp at K);simpa using this,by simp⟩
 unfold IE at z
 split at z
 ·simp at z;subst z;rw[Rep] at C;subst C
  exact⟨[],ofEmpty _ _,rfl,by simp[RepCs]⟩
 ·rename_i c n U tight org
  obtain⟨i,F⟩:=uc z
  have V:U=sz:=by simp at i;exact i.symm
  subst V
  simp at F;subst F
  rw[Rep,RepC] at C
  obtain⟨d,A,cap,rfl,L,ht,hA⟩:=C
  rcases hA with rfl | ⟨a,rfl,M,hc⟩
  ·have:c=[]:=by simpa using d
   subst this
   exact⟨[],ofEmpty _ _,rfl,by simp[RepCs]⟩
  ·obtain⟨e,D,X,Y⟩:=hc.list
   exact⟨e,ofSlice a n cap e (by rw[D,d]) X,D.symm,Y⟩
 ·rename_i b off n
  obtain⟨y,hy,F⟩:=ub z
  obtain⟨i,D⟩:=uc F
  obtain⟨O,hd⟩:=Co hl hy
  simp at i D
  obtain⟨hp,i⟩:=i
  subst D;subst i
  rw[Rep] at C
  obtain⟨x,A,cap,⟨G,hmp⟩,rfl,L,hr⟩:=C
  rw[O] at G;simp at G;subst G
  rcases hr with hr | ⟨kk,o,rfl,hr⟩
  ·have:n=0:=by omega
   subst this
   exact⟨[],ofEmpty _ _,by simp,by simp[RepCs]⟩
  ·rcases hr with hr | ⟨r1,r2,r3⟩
   ·simp[hd] at hr
   ·rcases S.blk b y O hd hmp with⟨hn,_⟩ | ⟨k',o',cs,ty,fr,I,g1,g2,g3,g4,g5,g6⟩
    ·rw[r1] at hn;simp at hn
    ·rw[r1] at I;simp at I;obtain⟨rfl,rfl⟩:=I
     obtain⟨e,D,X,Y⟩:=(((g4.1 hp).drop off).take (n*y.sz)).list
     have d:e.length=n*y.sz:=by rw[D];simp;omega
     refine⟨e,ofSlice _ n cap e d (fun j u M=>?_),D.symm,Y⟩
     have:=X j u M
     rw[Addr.add_mid,Li g1,Acx];exact this
 ·rename_i s
  obtain⟨i,F⟩:=uc z
  simp at i F
  subst i;subst F
  rw[Rep] at C;subst C
  refine⟨s.map fun b=>.int .u8 (b.toNat:Int),⟨fun _=>rfl,fun w' m _ T=>?_,by simp⟩,by simp,?_⟩
  ·simp[Builtin.firstCells]
  ·rw[Bg]
   intro j x M
   simp at M
   obtain⟨b,O,rfl⟩:=M
   exact⟨_,by simp[O];rfl,by rw[RepC]⟩
 ·simp at z
theorem Y8 {m:TypeId} {sz:Nat} {x:AV} {vx:Value} {k:LA×Nat×Bool→O R} (S:SimH J β h w) (s:Looks g h) (i:KL P m g sz x k=some r) (u:Rep J β h w x vx) :
  ∃ (q:LA×Nat×Bool) (b:List Value),k q=some r∧Yield P w sz vx q.2.1 b∧q.1.length=b.length∧RepCs (J q.2.2) w q.1 (fun j=>b[j]?) 0:=by
 unfold KL at i
 obtain⟨q,hq,v⟩:=ub i
 obtain⟨b,Y,d,e⟩:=UY (P:=P) S s hq u
 obtain⟨o,y,z⟩:=IH v e
 exact⟨_,b,y,Y,d,z⟩
end
end Gx
namespace Gx
open Go
theorem CN {a b:Nat} (h:a≠b):beq a b=false:=by
 cases d:beq a b with
 | false=>rfl
 | true=>exact absurd (Ab5 d) h
theorem Rt {a b:Nat} (h:beq a b=false):a≠b:=fun e=>by subst e;rw[Nat.beq_refl] at h;cases h
theorem Ac:∀ (h:Ao) (b:Nat) (y:Blk) (c:Nat),Ag (Dd h b y) c=if c=b then some y else Ag h c
 | [],b,y,c=>by
  by_cases e:c=b
  ·subst e;simp[Dd,Ag]
  ·have:beq b c=false:=CN (fun j=>e j.symm)
   simp[Dd,Ag,e,this]
 | (i,x)::r,b,y,c=>by
  rw[Dd]
  cases m:beq i b with
  | true =>
   have d:i=b:=by simpa using m
   subst d
   by_cases e:c=i
   ·subst e;simp[Ag]
   ·have:beq i c=false:=CN (fun j=>e j.symm)
    simp[Ag,e,this]
  | false =>
   have d:i≠b:=Rt m
   cases s:Nat.blt b i with
   | true =>
    by_cases e:c=b
    ·subst e;simp[Ag]
    ·have:beq b c=false:=CN (fun j=>e j.symm)
     simp[Ag,e,this]
   | false =>
    simp only[cond_false]
    rw[Ag]
    cases q:beq i c with
    | true =>
     have k:i=c:=by simpa using q
     subst k
     simp[Ag,d]
    | false=>simp[Ag,q,Ac r b y c]
theorem Km:∀ (h:Fe) (b:Nat) (y:AV) (c:Nat),Et (KK h b y) c=if c=b then y else Et h c
 | [],b,y,c=>by
  by_cases e:c=b
  ·subst e;simp[KK,Et]
  ·have:beq b c=false:=CN (fun j=>e j.symm)
   simp[KK,Et,e,this]
 | (i,x)::r,b,y,c=>by
  rw[KK]
  cases m:beq i b with
  | true =>
   have d:i=b:=by simpa using m
   subst d
   by_cases e:c=i
   ·subst e;simp[Et]
   ·have:beq i c=false:=CN (fun j=>e j.symm)
    simp[Et,e,this]
  | false =>
   have d:i≠b:=Rt m
   cases s:Nat.blt b i with
   | true =>
    by_cases e:c=b
    ·subst e;simp[Et]
    ·have:beq b c=false:=CN (fun j=>e j.symm)
     simp[Et,e,this]
   | false =>
    simp only[cond_false]
    rw[Et]
    cases q:beq i c with
    | true =>
     have k:i=c:=by simpa using q
     subst k
     simp[Et,d]
    | false=>simp[Et,q,Km r b y c]
def li (β:Bu) (h:Ao) (k:Nat):Prop:=∃ b x o,Ag h b=some x∧x.dead=false∧x.sealed=false∧β b=some (k,o)
structure Step (J:Bool→Nat→Prop) (β:Bu) (h:Ao) (w:World) (J':Bool→Nat→Prop) (β':Bu) (h':Ao) (w':World):Prop where
 ext:Ext J β h w J' β' h' w'
 sim:SimH J' β' h' w'
 os:w'.os=w.os
 tape:w'.tape=w.tape
 output:w'.output=w.output
 size:w.heap.size≤w'.heap.size
 frame:∀ k,k<w.heap.size→¬ li β h k→w'.heap[k]?=w.heap[k]?
 wr:∀ k,li β' h' k→k<w.heap.size→li β h k
 jup:∀ o k,J' o k→J o k∨li β h k∨w.heap.size≤k
section
variable {J J' J'':Bool→Nat→Prop} {β β' β'':Bu} {h h' h'':Ao} {w w' w'':World}
theorem Ext.refl:Ext J β h w J β h w:=⟨fun _ _ d=>d,fun _ _ _=>rfl,fun b x e=>⟨x,⟨e,rfl⟩,by cases i:x.dead<;>simp⟩,fun _ _ _ _=>Ab3 _⟩
theorem Ext.trans (A:Ext J β h w J' β' h' w') (B:Ext J' β' h' w' J'' β'' h'' w'') (hs:∀ b k o,β b=some (k,o)→Ar w k≤Ar w'' k):Ext J β h w J'' β'' h'' w'' where
 jsub o k e:=B.jsub o k (A.jsub o k e)
 keep o k e:=(B.keep o k (A.jsub o k e)).trans (A.keep o k e)
 blk b x m:=by
  obtain⟨x',⟨q,m1⟩,i⟩:=A.blk b x m
  obtain⟨x'',⟨s,m3⟩,d⟩:=B.blk b x' q
  refine⟨x'',⟨s,m3.trans m1⟩,?_⟩
  rcases d with d | ⟨d,u,v,y⟩
  ·exact .inl d
  ·rcases i with i | ⟨z,C,D,F⟩
   ·simp[d] at i
   ·exact .inr ⟨z,u.trans C,v.trans D,fun j=>(y (m1.trans j)).trans (F j)⟩
 size:=hs
theorem Step.refl (S:SimH J β h w):Step J β h w J β h w:=⟨Ext.refl,S,rfl,rfl,rfl,Ab3 _,fun _ _ _=>rfl,fun _ b _=>b,fun _ _ d=>.inl d⟩
theorem Step.trans (A:Step J β h w J' β' h' w') (B:Step J' β' h' w' J'' β'' h'' w'') (hs:∀ b k o,β b=some (k,o)→Ar w k≤Ar w'' k):Step J β h w J'' β'' h'' w'' where
 ext:=A.ext.trans B.ext hs
 sim:=B.sim
 os:=B.os.trans A.os
 tape:=B.tape.trans A.tape
 output:=B.output.trans A.output
 size:=Add A.size B.size
 frame k d i:=(B.frame k (Adj d A.size) (fun j=>i (A.wr k j d))).trans (A.frame k d i)
 wr k i d:=A.wr k (B.wr k i (Adj d A.size)) d
 jup o k m:=by
  rcases B.jup o k m with e | e | e
  ·exact A.jup o k e
  ·by_cases d:k<w.heap.size
   ·exact .inr (.inl (A.wr k e d))
   ·exact .inr (.inr (by omega))
  ·exact .inr (.inr (Add A.size e))
theorem CellsRep.ext (E:Ext J β h w J' β' h' w') {x:Blk} {rd:Nat→Option Value} (d:CellsRep J β h w x rd):CellsRep J' β' h' w' x rd :=
 ⟨fun b=>RepCs.keep (E.jsub _) (E.keep _) (fun _=>rfl) (d.1 b),fun b j c e=>by
  obtain⟨u,i,k,m⟩:=d.2 b j c e
  exact⟨u,i,Rep.ext E k,m⟩⟩
theorem Cd {k:Nat} {cs:Array Value} {ty:TypeId} {fr:Nat×Nat} (b:w.heap[k]?=some (.cells cs ty fr)):Ar w k=cs.size:=by simp[Ar,b]
theorem Ng {k:Nat} {o:Obj} (e:w.heap[k]?=some o):k<w.heap.size:=by
 rcases Ae5 k w.heap.size with b | d
 ·exact b
 ·rw[Acq d] at e;cases e
theorem MapRep.keep {b:Nat} {x:Blk} (M:MapRep J β w b x) (e:β' b=β b) (i:∀ k o,β b=some (k,o)→w'.heap[k]?=w.heap[k]?) (j:∀ g k o,β b=some (k,o)→J' g k→J g k):MapRep J' β' w' b x:=by
 obtain⟨m,q,k,ob,d,s,u,v⟩:=M
 exact⟨m,q,k,ob,by rw[e];exact d,by rw[i k 0 d];exact s,u,fun g y=>v g (j g k 0 d y)⟩
theorem Step.drew (S:SimH J β h w):Step J β h w J β h w.drew where
 ext:=⟨fun _ _ d=>d,fun _ _ _=>rfl,fun b x e=>⟨x,⟨e,rfl⟩,by cases i:x.dead<;>simp⟩,fun _ _ _ _=>Ab3 _⟩
 sim:=by
  have E:Ext J β h w J β h w.drew:=⟨fun _ _ d=>d,fun _ _ _=>rfl,fun b x e=>⟨x,⟨e,rfl⟩,by cases i:x.dead<;>simp⟩,fun _ _ _ _=>Ab3 _⟩
  refine⟨S.jlt,S.jft,S.gl.ext E,fun b x e i j=>?_,fun b x e i j=>(S.mblk b x e i j).keep rfl (fun _ _ _=>rfl) (fun _ _ _ _ d=>d),S.sep⟩
  rcases S.blk b x e i j with m | ⟨k,o,cs,ty,fr,m,q,s,u,v,y⟩
  ·exact .inl m
  ·exact .inr ⟨k,o,cs,ty,fr,m,q,s,u,v.ext E,y⟩
 os:=rfl
 tape:=rfl
 output:=rfl
 size:=Ab3 _
 frame _ _ _:=rfl
 wr _ j _:=j
 jup _ _ d:=.inl d
theorem Ci (w:World) (o:Obj) {k:Nat} (b:k<w.heap.size):(w.alloc o).heap[k]?=w.heap[k]?:=by
 show(w.heap.push o)[k]?=_
 rw[Array.getElem?_push,if_neg (by omega)]
theorem La (S:SimH J β h w) {b:Nat} {x:Blk} {k o:Nat} (j:Ag h b=some x) (m:x.dead=false) (e:β b=some (k,o)):k<w.heap.size:=by
 cases q:x.mp with
 | false =>
  rcases S.blk b x j m q with⟨hn,_⟩ | ⟨s,o',cs,ty,fr,d,i,_⟩
  ·rw[e] at hn;simp at hn
  ·rw[e] at d;simp at d;obtain⟨rfl,rfl⟩:=d;exact Ng i
 | true =>
  obtain⟨_,_,s,ob,d,i,_⟩:=S.mblk b x j m q
  rw[e] at d;simp at d;obtain⟨rfl,_⟩:=d;exact Ng i
theorem Step.new (S:SimH J β h w) {d:Nat} {x:Blk} {cs:Array Value} {ty:TypeId} {fr:Nat×Nat} (hn:Ag h d=none) (Y:x.dead=false) (I:x.sealed=false)
  (K:FrTy x.ty ty 0 cs.size fr) (U:x.cells.length≤cs.size) (hc:CellsRep J β h w x (fun j=>cs[j]?)) (L:x.mp=false:=by rfl) :
  Step J β h w J (fun b=>if b=d then some (w.heap.size,0) else β b) (Dd h d x) (w.alloc (.cells cs ty fr)):=by
 have ne:∀ {b y},Ag h b=some y→b≠d:=fun i e=>by subst e;rw[hn] at i;cases i
 have E:Ext J β h w J (fun b=>if b=d then some (w.heap.size,0) else β b) (Dd h d x) (w.alloc (.cells cs ty fr)):=by
  refine⟨fun _ _ q=>q,fun o k q=>Ci w _ (S.jlt o k q),fun b y i=>⟨y,⟨by rw[Ac,if_neg (ne i)];exact i,rfl⟩,?_⟩,fun b k o m=>?_⟩
  ·cases v:y.dead
   ·exact .inr ⟨rfl,by simp[ne i],rfl,fun _=>rfl⟩
   ·exact .inl rfl
  ·by_cases A:k<w.heap.size
   ·simp[Ar,Ci w _ A]
   ·simp[Ar,Acq (Adm A)]
 have C:(w.alloc (.cells cs ty fr)).heap[w.heap.size]?=some (.cells cs ty fr):=by
  show(w.heap.push _)[_]?=_;simp
 have hsz:(w.alloc (.cells cs ty fr)).heap.size=w.heap.size+1:=by show(w.heap.push _).size=_;simp
 refine⟨E,⟨fun o k q=>by have:=S.jlt o k q;omega,S.jft,S.gl.ext E,fun b y i v F=>?_,fun b y i v F=>by
   rw[Ac] at i
   by_cases e:b=d
   ·rw[if_pos e] at i;simp at i;subst i;simp[L] at F
   ·rw[if_neg e] at i
    exact(S.mblk b y i v F).keep (by simp[e]) (fun k o m=>Ci w _ (La S i v m)) (fun _ _ _ _ q=>q),?_⟩,rfl,rfl,rfl,by omega,fun k A _=>Ci w _ A,?_,fun _ _ q=>.inl q⟩
 ·rw[Ac] at i
  by_cases e:b=d
  ·subst e;simp at i;subst i
   exact .inr ⟨w.heap.size,0,cs,ty,fr,by simp,C,K,by omega,by simpa using hc.ext E,fun _ g q=>by have:=S.jlt g _ q;omega,fun hs=>by simp[I] at hs⟩
  ·rw[if_neg e] at i
   rcases S.blk b y i v F with G | ⟨k,o,M,O,T,G,V,h3,h4,h5,h6⟩
   ·exact .inl ⟨by simp[e,G.1],G.2⟩
   ·exact .inr ⟨k,o,M,O,T,by simp[e,G],by rw[Ci w _ (Ng V)];exact V,h3,h4,h5.ext E,h6⟩
 ·intro b X y y' k o o' i s v D hs m u
  rw[Ac] at i s
  by_cases e:b=d<;>by_cases z:X=d
  ·rw[e,z]
  ·rw[if_neg z] at s
   simp[e] at m;simp[z] at u
   have:=La S s D u;omega
  ·rw[if_neg e] at i
   simp[z] at u;simp[e] at m
   have:=La S i v m;omega
  ·rw[if_neg e] at i;rw[if_neg z] at s
   simp[e] at m;simp[z] at u
   exact S.sep b X y y' k o o' i s v D hs m u
 ·rintro k ⟨b,y,o,i,v,hs,m⟩ A
  rw[Ac] at i
  by_cases e:b=d
  ·simp[e] at m;omega
  ·rw[if_neg e] at i;simp[e] at m
   exact⟨b,y,o,i,v,hs,m⟩
theorem Step.newNone (S:SimH J β h w) {d:Nat} {x:Blk} (hn:Ag h d=none) (L:x.cells=[]) (A:x.mp=false:=by rfl) :
  Step J β h w J (fun b=>if b=d then none else β b) (Dd h d x) w:=by
 have ne:∀ {b y},Ag h b=some y→b≠d:=fun i e=>by subst e;rw[hn] at i;cases i
 have E:Ext J β h w J (fun b=>if b=d then none else β b) (Dd h d x) w:=by
  refine⟨fun _ _ u=>u,fun o k u=>rfl,fun b y i=>⟨y,⟨by rw[Ac,if_neg (ne i)];exact i,rfl⟩,?_⟩,fun b k o j=>Ab3 _⟩
  cases m:y.dead
  ·exact .inr ⟨rfl,by simp[ne i],rfl,fun _=>rfl⟩
  ·exact .inl rfl
 refine⟨E,⟨S.jlt,S.jft,S.gl.ext E,fun b y i m v=>?_,fun b y i m v=>by
   rw[Ac] at i
   by_cases e:b=d
   ·rw[if_pos e] at i;simp at i;subst i;simp[A] at v
   ·rw[if_neg e] at i
    exact(S.mblk b y i m v).keep (by simp[e]) (fun k o j=>rfl) (fun _ _ _ _ u=>u),?_⟩,rfl,rfl,rfl,Ab3 _,fun k M _=>rfl,?_,fun _ _ u=>.inl u⟩
 ·rw[Ac] at i
  by_cases e:b=d
  ·subst e;simp at i;subst i
   exact .inl ⟨by simp,L⟩
  ·rw[if_neg e] at i
   rcases S.blk b y i m v with z | ⟨k,o,C,D,F,z,O,T,U,V,X⟩
   ·exact .inl ⟨by simp[e,z.1],z.2⟩
   ·exact .inr ⟨k,o,C,D,F,by simp[e,z],O,T,U,V.ext E,X⟩
 ·intro b K y Y k o o' i q m G hs j s
  rw[Ac] at i q
  by_cases e:b=d
  ·simp[e] at j
  ·by_cases I:K=d
   ·simp[I] at s
   ·rw[if_neg e] at i;rw[if_neg I] at q
    simp[e] at j;simp[I] at s
    exact S.sep b K y Y k o o' i q m G hs j s
 ·rintro k ⟨b,y,o,i,m,hs,j⟩ M
  rw[Ac] at i
  by_cases e:b=d
  ·simp[e] at j
  ·rw[if_neg e] at i;simp[e] at j
   exact⟨b,y,o,i,m,hs,j⟩
theorem Step.newObj (S:SimH J β h w) {d:Nat} {x:Blk} {ob:Obj} (hn:Ag h d=none) (X:x.dead=false) (G:x.sealed=false) (I:x.pure=true) (K:ObjIs x ob) (L:x.mp=true) :
  Step J β h w J (fun b=>if b=d then some (w.heap.size,0) else β b) (Dd h d x) (w.alloc ob):=by
 have ne:∀ {b y},Ag h b=some y→b≠d:=fun i e=>by subst e;rw[hn] at i;cases i
 have E:Ext J β h w J (fun b=>if b=d then some (w.heap.size,0) else β b) (Dd h d x) (w.alloc ob):=by
  refine⟨fun _ _ m=>m,fun o k m=>Ci w _ (S.jlt o k m),fun b y i=>⟨y,⟨by rw[Ac,if_neg (ne i)];exact i,rfl⟩,?_⟩,fun b k o j=>?_⟩
  ·cases u:y.dead
   ·exact .inr ⟨rfl,by simp[ne i],rfl,fun _=>rfl⟩
   ·exact .inl rfl
  ·by_cases z:k<w.heap.size
   ·simp[Ar,Ci w _ z]
   ·simp[Ar,Acq (Adm z)]
 have A:(w.alloc ob).heap[w.heap.size]?=some ob:=by
  show(w.heap.push _)[_]?=_;simp
 have Y:(w.alloc ob).heap.size=w.heap.size+1:=by show(w.heap.push _).size=_;simp
 refine⟨E,⟨fun o k m=>by have:=S.jlt o k m;omega,S.jft,S.gl.ext E,fun b y i u D=>?_,fun b y i u D=>?_,?_⟩,rfl,rfl,rfl,by omega,fun k z _=>Ci w _ z,?_,fun _ _ m=>.inl m⟩
 ·rw[Ac] at i
  by_cases e:b=d
  ·rw[if_pos e] at i;simp at i;subst i;simp[L] at D
  ·rw[if_neg e] at i
   rcases S.blk b y i u D with F | ⟨k,o,M,O,T,F,U,h3,h4,h5,h6⟩
   ·exact .inl ⟨by simp[e,F.1],F.2⟩
   ·exact .inr ⟨k,o,M,O,T,by simp[e,F],by rw[Ci w _ (Ng U)];exact U,h3,h4,h5.ext E,h6⟩
 ·rw[Ac] at i
  by_cases e:b=d
  ·rw[if_pos e] at i;simp at i;subst i
   exact⟨I,G,w.heap.size,ob,by simp[e],A,K,fun g m=>by have:=S.jlt g _ m;omega⟩
  ·rw[if_neg e] at i
   exact(S.mblk b y i u D).keep (by simp[e]) (fun k o j=>Ci w _ (La S i u j)) (fun _ _ _ _ m=>m)
 ·intro b V y y' k o o' i q u C hs j s
  rw[Ac] at i q
  by_cases e:b=d<;>by_cases v:V=d
  ·rw[e,v]
  ·rw[if_neg v] at q
   simp[e] at j;simp[v] at s
   have:=La S q C s;omega
  ·rw[if_neg e] at i
   simp[v] at s;simp[e] at j
   have:=La S i u j;omega
  ·rw[if_neg e] at i;rw[if_neg v] at q
   simp[e] at j;simp[v] at s
   exact S.sep b V y y' k o o' i q u C hs j s
 ·rintro k ⟨b,y,o,i,u,hs,j⟩ z
  rw[Ac] at i
  by_cases e:b=d
  ·simp[e] at j;omega
  ·rw[if_neg e] at i;simp[e] at j
   exact⟨b,y,o,i,u,hs,j⟩
theorem Step.kill (S:SimH J β h w) {d:Nat} {x y:Blk} (O:Ag h d=some x) (q:y.dead=true) (A:y.mp=x.mp:=by rfl):Step J β h w J β (Dd h d y) w:=by
 have E:Ext J β h w J β (Dd h d y) w:=by
  refine⟨fun _ _ s=>s,fun o k s=>rfl,fun b z i=>?_,fun b k o u=>Ab3 _⟩
  by_cases e:b=d
  ·subst e;rw[O] at i;simp at i;subst i;exact⟨y,⟨by rw[Ac,if_pos rfl],A⟩,.inl q⟩
  ·refine⟨z,⟨by rw[Ac,if_neg e];exact i,rfl⟩,?_⟩
   cases m:z.dead
   ·exact .inr ⟨rfl,rfl,rfl,fun _=>rfl⟩
   ·exact .inl rfl
 refine⟨E,⟨S.jlt,S.jft,S.gl.ext E,fun b z i m C=>?_,fun b z i m C=>by
   rw[Ac] at i
   by_cases e:b=d
   ·rw[if_pos e] at i;simp at i;subst i;simp[q] at m
   ·rw[if_neg e] at i
    exact(S.mblk b z i m C).keep rfl (fun k o u=>rfl) (fun _ _ _ _ s=>s),?_⟩,rfl,rfl,rfl,Ab3 _,fun k T _=>rfl,?_,fun _ _ s=>.inl s⟩
 ·rw[Ac] at i
  by_cases e:b=d
  ·rw[if_pos e] at i;simp at i;subst i;simp[q] at m
  ·rw[if_neg e] at i
   rcases S.blk b z i m C with D | ⟨k,o,F,G,I,D,U,V,X,Y,h6⟩
   ·exact .inl D
   ·exact .inr ⟨k,o,F,G,I,D,U,V,X,Y.ext E,h6⟩
 ·intro b L z z' k o o' i j m v hs u K
  rw[Ac] at i j
  by_cases e:b=d
  ·rw[if_pos e] at i;simp at i;subst i;simp[q] at m
  ·by_cases M:L=d
   ·rw[if_pos M] at j;simp at j;subst j;simp[q] at v
   ·rw[if_neg e] at i;rw[if_neg M] at j
    exact S.sep b L z z' k o o' i j m v hs u K
 ·rintro k ⟨b,z,o,i,m,hs,u⟩ T
  rw[Ac] at i
  by_cases e:b=d
  ·rw[if_pos e] at i;simp at i;subst i;simp[q] at m
  ·rw[if_neg e] at i
   exact⟨b,z,o,i,m,hs,u⟩
theorem Step.giveUp (S:SimH J β h w) {d k o:Nat} {x y:Blk} (I:Ag h d=some x) (K:x.dead=false) (hs:x.sealed=false) (L:β d=some (k,o)) (M:x.mp=false) (X:y.dead=true)
  (other:∀ j,j≠k→w'.heap[j]?=w.heap[j]?) (size:w'.heap.size=w.heap.size) (os:w'.os=w.os) (tape:w'.tape=w.tape) (output:w'.output=w.output) (O:Ar w k≤Ar w' k) (T:y.mp=x.mp:=by rfl) :
  Step J β h w J β (Dd h d y) w':=by
 have nj:∀ g j,J g j→j≠k:=fun g j s e=>by
  subst e
  rcases S.blk d x I K M with⟨u,_⟩ | ⟨k',o',cs0,ty0,fr0,v,Y,C,h4,h5,h6,h7⟩
  ·rw[L] at u;simp at u
  ·rw[L] at v;simp at v;obtain⟨rfl,rfl⟩:=v
   exact h6 hs g s
 have E:Ext J β h w J β (Dd h d y) w':=by
  refine⟨fun _ _ s=>s,fun o j s=>other j (nj o j s),fun b z i=>?_,fun b j oo i=>?_⟩
  ·by_cases e:b=d
   ·subst e;rw[I] at i;simp at i;subst i;exact⟨y,⟨by rw[Ac,if_pos rfl],T⟩,.inl X⟩
   ·refine⟨z,⟨by rw[Ac,if_neg e];exact i,rfl⟩,?_⟩
    cases K:z.dead
    ·exact .inr ⟨rfl,rfl,rfl,fun _=>rfl⟩
    ·exact .inl rfl
  ·by_cases e:j=k
   ·subst e;exact O
   ·simp[Ar,other j e]
 have live:∀ {b z},Ag (Dd h d y) b=some z→z.dead=false→b≠d∧Ag h b=some z:=fun {b z} i m=>by
  rw[Ac] at i
  by_cases e:b=d
  ·rw[if_pos e] at i;simp at i;subst i;simp[X] at m
  ·rw[if_neg e] at i;exact⟨e,i⟩
 have apart:∀ {b z j oo},b≠d→Ag h b=some z→z.dead=false→β b=some (j,oo)→j≠k:=fun {b z j oo} e i m q ej=>by
  subst ej;exact e (S.sep d b x z j o oo I i K m hs L q).symm
 refine⟨E,⟨fun g j s=>by rw[size];exact S.jlt g j s,S.jft,S.gl.ext E,fun b z i m D=>?_,fun b z i m D=>by
   obtain⟨e,i⟩:=live i m
   exact(S.mblk b z i m D).keep rfl (fun j oo q=>other j (apart e i m q)) (fun _ _ _ _ s=>s),fun b b' z z' j oo U i V m F A q G=>?_⟩,os,tape,output,by rw[size];exact Ab3 _,fun j s D=>other j (fun e=>by subst e;exact D ⟨d,x,o,I,K,hs,L⟩),?_,fun _ _ s=>.inl s⟩
 ·obtain⟨e,i⟩:=live i m
  rcases S.blk b z i m D with u | ⟨j,oo,cs,ty,fr,u,Y,C⟩
  ·exact .inl u
  ·exact .inr ⟨j,oo,cs,ty,fr,u,by rw[other j (apart e i m u)];exact Y,C.1,C.2.1,C.2.2.1.ext E,C.2.2.2⟩
 ·exact S.sep b b' z z' j oo U (live i m).2 (live V F).2 m F A q G
 ·rintro j ⟨b,z,oo,i,m,A,q⟩ _
  exact⟨b,z,oo,(live i m).2,m,A,q⟩
end
end Gx
namespace Gx
open Go
section
variable {J J' J'':Bool→Nat→Prop} {β β' β'':Bu} {h h' h'':Ao} {w w' w'':World}
theorem Step.shutB (S:SimH J β h w) {d:Nat} {x:Blk} (D:Ag h d=some x) (u:x.dead=false) (F:x.mp=false) :
  Step J β h w (fun o k=>J o k∨∃ o',β d=some (k,o')∧(x.taint=true→o=true)) β (Dd h d { x with sealed:=true }) w:=by
 have E:Ext J β h w (fun o k=>J o k∨∃ o',β d=some (k,o')∧(x.taint=true→o=true)) β (Dd h d { x with sealed:=true }) w:=by
  refine⟨fun _ _ m=>.inl m,fun o k m=>rfl,fun b z i=>?_,fun b k o j=>Ab3 _⟩
  by_cases e:b=d
  ·subst e;rw[D] at i;simp at i;subst i
   exact⟨{ x with sealed:=true },⟨by rw[Ac,if_pos rfl],rfl⟩,.inr ⟨u,rfl,rfl,fun _=>rfl⟩⟩
  ·refine⟨z,⟨by rw[Ac,if_neg e];exact i,rfl⟩,?_⟩
   cases u:z.dead
   ·exact .inr ⟨rfl,rfl,rfl,fun _=>rfl⟩
   ·exact .inl rfl
 refine⟨E,⟨?_,?_,S.gl.ext E,fun b z i s L=>?_,fun b z i s L=>by
   rw[Ac] at i
   by_cases e:b=d
   ·rw[if_pos e] at i;simp at i;subst i;simp[F] at L
   ·rw[if_neg e] at i
    have M:=S.mblk b z i s L
    refine M.keep rfl (fun k o j=>rfl) (fun g k o j m=>?_)
    rcases m with m | ⟨o',G,_⟩
    ·exact m
    ·exact absurd (S.sep b d z x k o o' i D s u M.2.1 j G) e,?_⟩,rfl,rfl,rfl,Ab3 _,fun k hk _=>rfl,?_,?_⟩
 ·rintro o k (m | ⟨o',j,_⟩)
  ·exact S.jlt o k m
  ·exact La S D u j
 ·rintro k (m | ⟨o',j,ht⟩)
  ·exact .inl (S.jft k m)
  ·exact .inr ⟨o',j,fun _=>rfl⟩
 ·rw[Ac] at i
  by_cases e:b=d
  ·rw[if_pos e] at i;simp at i;subst i;subst e
   rcases S.blk b x D u F with q | ⟨k,o,v,A,C,q,O,T,U,V,Y,X⟩
   ·exact .inl q
   ·exact .inr ⟨k,o,v,A,C,q,O,T,U,V.ext E,fun hs=>by simp at hs,fun _=>.inr ⟨o,q,id⟩⟩
  ·rw[if_neg e] at i
   rcases S.blk b z i s L with q | ⟨k,o,v,A,C,q,O,T,U,V,Y,X⟩
   ·exact .inl q
   ·refine .inr ⟨k,o,v,A,C,q,O,T,U,V.ext E,fun hs g m=>?_,fun hs=>.inl (X hs)⟩
    rcases m with m | ⟨o',j,_⟩
    ·exact Y hs g m
    ·exact e (S.sep b d z x k o o' i D s u hs q j)
 ·intro b b' z z' k o o' i hb' hd1 hd2 hs j G
  have get:∀ {c y},Ag (Dd h d { x with sealed:=true }) c=some y→y.dead=false→∃ y',Ag h c=some y'∧y'.dead=false∧(y.sealed=false→y'.sealed=false):=by
   intro c y K hyd
   rw[Ac] at K
   by_cases e:c=d
   ·subst e;exact⟨x,D,u,fun hs=>by simp at K;subst K;simp at hs⟩
   ·rw[if_neg e] at K;exact⟨y,K,hyd,id⟩
  obtain⟨y1,g1,g2,g3⟩:=get i hd1
  obtain⟨y2,g4,g5,g6⟩:=get hb' hd2
  exact S.sep b b' y1 y2 k o o' g1 g4 g2 g5 (g3 hs) j G
 ·rintro k ⟨b,z,o,i,s,hs,j⟩ hk
  rw[Ac] at i
  by_cases e:b=d
  ·rw[if_pos e] at i;simp at i;subst i;simp at hs
  ·rw[if_neg e] at i
   exact⟨b,z,o,i,s,hs,j⟩
 ·rintro o k (m | ⟨o',j,ht⟩)
  ·exact .inl m
  ·cases hs:x.sealed with
   | false=>exact .inr (.inl ⟨d,x,o',D,u,hs,j⟩)
   | true =>
    left
    rcases S.blk d x D u F with⟨q,_⟩ | ⟨k',o1,v,A,C,q,O,T,U,V,Y,X⟩
    ·rw[j] at q;simp at q
    ·rw[j] at q;simp at q;obtain⟨rfl,rfl⟩:=q
     have:=X hs
     cases I:x.taint with
     | true=>rw[I] at this;rw[ht I];exact this
     | false =>
      rw[I] at this
      cases o
      ·exact this
      ·exact S.jft _ this
structure OnlyBlk (w w':World) (k:Nat) (cs cs':Array Value) (ty:TypeId) (fr:Nat×Nat):Prop where
 old:w.heap[k]?=some (.cells cs ty fr)
 new:w'.heap[k]?=some (.cells cs' ty fr)
 sz:cs'.size=cs.size
 other:∀ j,j≠k→w'.heap[j]?=w.heap[j]?
 size:w'.heap.size=w.heap.size
 os:w'.os=w.os
 tape:w'.tape=w.tape
 output:w'.output=w.output
theorem OnlyBlk.setCell {k i:Nat} {cs:Array Value} {ty:TypeId} {fr:Nat×Nat} (b:w.heap[k]?=some (.cells cs ty fr)) (u:Value) :
  OnlyBlk w (w.setCell ⟨k,i,none⟩ u) k cs (cs.setIfInBounds i u) ty fr:=by
 refine⟨b,?_,by simp,fun j d=>?_,by simp[World.setCell],rfl,rfl,rfl⟩
 ·simp[World.setCell,Adt,b]
 ·simp only[World.setCell,Adt];rw[if_neg (fun e=>d e.symm)]
theorem OnlyBlk.setCells {k:Nat} {ty:TypeId} {fr:Nat×Nat}:∀ (d:List Value) (i:Nat) (w:World) (cs:Array Value),w.heap[k]?=some (.cells cs ty fr) →
  ∃ b,OnlyBlk w (w.setCells k i d) k cs b ty fr∧∀ j,b[j]?=if i≤j∧j<i+d.length∧j<cs.size then d[j - i]? else cs[j]?
 | [],i,w,cs,e=>⟨cs,⟨e,e,rfl,fun _ _=>rfl,rfl,rfl,rfl,rfl⟩,fun j=>by rw[if_neg (by simp;omega)]⟩
 | u::d,i,w,cs,e=>by
  have A:=OnlyBlk.setCell (i:=i) e u
  obtain⟨b,B,hB⟩:=OnlyBlk.setCells d (i+1) (w.setCell ⟨k,i,none⟩ u) _ A.new
  refine⟨b,⟨e,B.new,B.sz.trans A.sz,fun j m=>(B.other j m).trans (A.other j m),B.size.trans A.size,B.os.trans A.os,B.tape.trans A.tape,B.output.trans A.output⟩,fun j=>?_⟩
  rw[hB j]
  simp only[Afg,Acd]
  by_cases m:j=i
  ·subst m
   rw[if_neg (by omega)]
   by_cases hs:j<cs.size
   ·rw[if_pos (by omega)];simp[hs]
   ·rw[if_neg (by omega)];simp[hs]
  ·by_cases q:i+1≤j∧j<i+1+d.length∧j<cs.size
   ·rw[if_pos q,if_pos (by omega),show j - i=(j - (i+1))+1 by omega];simp
   ·rw[if_neg q,if_neg (by omega),Aew (by omega)]
theorem Step.set (S:SimH J β h w) {d k o:Nat} {x x':Blk} {cs v:Array Value} {ty:TypeId} {fr:Nat×Nat} (A:Ag h d=some x) (s:x.dead=false) (hs:x.sealed=false) (G:β d=some (k,o))
  (O:OnlyBlk w w' k cs v ty fr) (hd':x'.dead=false) (X:x'.sealed=false) (hz:x'.sz=x.sz) (hl:x'.cells.length=x.cells.length) (L:CellsRep J β h w x' (fun j=>v[o+j]?)) (M:x.mp=false) (u:x'.mp=x.mp:=by rfl) (hty:x'.ty=x.ty:=by rfl) :
  Step J β h w J β (Dd h d x') w':=by
 obtain⟨T,o',cs0,ty0,fr0,C,Y,h3,h4,h5,h6,h7⟩:∃ T o' cs0 ty0 fr0,β d=some (T,o')∧w.heap[T]?=some (.cells cs0 ty0 fr0) ∧
   FrTy x.ty ty0 o' cs0.size fr0∧o'+x.cells.length≤cs0.size∧CellsRep J β h w x (fun j=>cs0[o'+j]?)∧(x.sealed=false→∀ g,¬ J g T)∧(x.sealed=true→J x.taint T):=by
  rcases S.blk d x A s M with⟨V,_⟩ | V
  ·rw[G] at V;simp at V
  ·exact V
 rw[G] at C;simp at C;obtain⟨rfl,rfl⟩:=C
 rw[O.old] at Y;simp at Y;obtain⟨rfl,rfl,rfl⟩:=Y
 have nj:∀ g j,J g j→j≠k:=fun g j q e=>by subst e;exact h6 hs g q
 have E:Ext J β h w J β (Dd h d x') w':=by
  refine⟨fun _ _ q=>q,fun o j q=>O.other j (nj o j q),fun b z i=>?_,fun b j oo i=>?_⟩
  ·by_cases e:b=d
   ·subst e;rw[A] at i;simp at i;subst i
    exact⟨_,⟨by rw[Ac,if_pos rfl],u⟩,.inr ⟨s,rfl,hz,fun _=>hl⟩⟩
   ·refine⟨z,⟨by rw[Ac,if_neg e];exact i,rfl⟩,?_⟩
    cases s:z.dead
    ·exact .inr ⟨rfl,rfl,rfl,fun _=>rfl⟩
    ·exact .inl rfl
  ·by_cases e:j=k
   ·subst e;rw[Cd O.old,Cd O.new,O.sz];exact Ab3 _
   ·simp[Ar,O.other j e]
 refine⟨E,⟨fun g j q=>by rw[O.size];exact S.jlt g j q,S.jft,S.gl.ext E,fun b z i m I=>?_,fun b z i m I=>by
   rw[Ac] at i
   by_cases e:b=d
   ·rw[if_pos e] at i;simp at i;subst i;simp[u,M] at I
   ·rw[if_neg e] at i
    exact(S.mblk b z i m I).keep rfl (fun D o2 F=>O.other D (fun e2=>by subst e2;exact e (S.sep d b x z D o o2 A i s m hs G F).symm)) (fun _ _ _ _ q=>q),?_⟩,O.os,O.tape,O.output,by rw[O.size];exact Ab3 _,fun j q I=>?_,?_,fun _ _ q=>.inl q⟩
 ·rw[Ac] at i
  by_cases e:b=d
  ·rw[if_pos e] at i;simp at i;subst i;subst e
   refine .inr ⟨k,o,v,ty,fr,G,O.new,?_,by rw[hl,O.sz];exact h4,L.ext E,fun _=>h6 hs,fun hh=>by simp[X] at hh⟩
   rw[O.sz,hty];exact h3
  ·rw[if_neg e] at i
   rcases S.blk b z i m I with K | ⟨D,o2,cs2,ty2,fr2,K,g2,g3,g4,g5,g6,g7⟩
   ·exact .inl K
   ·have hne:D≠k:=fun e2=>by
     subst e2;exact e (S.sep d b x z D o o2 A i s m hs G K).symm
    exact .inr ⟨D,o2,cs2,ty2,fr2,K,by rw[O.other D hne];exact g2,g3,g4,g5.ext E,g6,g7⟩
 ·intro b b' z z' kk oo oo' i hb' hd1 hd2 hs1 hβ1 F
  have get:∀ {c y},Ag (Dd h d x') c=some y→y.dead=false→∃ y',Ag h c=some y'∧y'.dead=false∧(y.sealed=false→y'.sealed=false):=by
   intro c y L hyd
   rw[Ac] at L
   by_cases e:c=d
   ·subst e;exact⟨x,A,s,fun _=>hs⟩
   ·rw[if_neg e] at L;exact⟨y,L,hyd,id⟩
  obtain⟨y1,K,g2,g3⟩:=get i hd1
  obtain⟨y2,g4,g5,g6⟩:=get hb' hd2
  exact S.sep b b' y1 y2 kk oo oo' K g4 g2 g5 (g3 hs1) hβ1 F
 ·exact O.other j (fun e=>I (by subst e;exact⟨d,x,o,A,s,hs,G⟩))
 ·rintro j ⟨b,z,oo,i,m,hsz,U⟩ q
  rw[Ac] at i
  by_cases e:b=d
  ·subst e;exact⟨b,x,oo,A,s,hs,U⟩
  ·rw[if_neg e] at i
   exact⟨b,z,oo,i,m,hsz,U⟩
theorem Step.setObj (S:SimH J β h w) {d k:Nat} {x x':Blk} {ob F:Obj} (K:Ag h d=some x) (G:x.dead=false) (U:x.mp=true) (L:β d=some (k,0))
  (old:w.heap[k]?=some ob) (new:w'.heap[k]?=some F) (other:∀ j,j≠k→w'.heap[j]?=w.heap[j]?) (size:w'.heap.size=w.heap.size) (os:w'.os=w.os) (tape:w'.tape=w.tape) (output:w'.output=w.output)
  (V:ObjIs x' F) (hx'd:x'.dead=false) (X:x'.sealed=false) (Y:x'.pure=true) (hx'z:x'.sz=x.sz) (D:x'.mp=true):Step J β h w J β (Dd h d x') w':=by
 have M:=S.mblk d x K G U
 have nJ:∀ g,¬ J g k:=by
  obtain⟨_,_,k',_,v,_,_,A⟩:=M
  rw[L] at v;simp at v;subst v;exact A
 have nj:∀ g j,J g j→j≠k:=fun g j q e=>by subst e;exact nJ g q
 have E:Ext J β h w J β (Dd h d x') w':=by
  refine⟨fun _ _ q=>q,fun o j q=>other j (nj o j q),fun b z i=>?_,fun b j oo i=>?_⟩
  ·by_cases e:b=d
   ·subst e;rw[K] at i;simp at i;subst i
    exact⟨_,⟨by rw[Ac,if_pos rfl],by rw[D,U]⟩,.inr ⟨G,rfl,hx'z,fun h=>by simp[U] at h⟩⟩
   ·refine⟨z,⟨by rw[Ac,if_neg e];exact i,rfl⟩,?_⟩
    cases G:z.dead
    ·exact .inr ⟨rfl,rfl,rfl,fun _=>rfl⟩
    ·exact .inl rfl
  ·by_cases e:j=k
   ·subst e
    have r0:∀ cs ty fr,ob≠.cells cs ty fr:=by
     obtain⟨_,_,k',ob0,v,A,h3,_⟩:=M
     rw[L] at v;simp at v;subst v
     rw[old] at A;simp at A;subst A
     exact fun _ _ _=>h3.row
    have z0:Ar w j=0:=by
     unfold Ar;rw[old]
     split
     ·rename_i e;simp at e;exact absurd e (r0 _ _ _)
     ·rfl
    rw[z0];exact Ae0 _
   ·simp[Ar,other j e]
 refine⟨E,⟨fun g j q=>by rw[size];exact S.jlt g j q,S.jft,S.gl.ext E,fun b z i u C=>?_,fun b z i u C=>?_,?_⟩,os,tape,output,by rw[size];exact Ab3 _,fun j q U=>?_,?_,fun _ _ q=>.inl q⟩
 ·rw[Ac] at i
  by_cases e:b=d
  ·rw[if_pos e] at i;simp at i;subst i;simp[D] at C
  ·rw[if_neg e] at i
   rcases S.blk b z i u C with g1 | ⟨O,o2,cs2,ty2,fr2,g1,T,g3,g4,g5,g6,g7⟩
   ·exact .inl g1
   ·have hne:O≠k:=fun e2=>by
     subst e2;rw[old] at T;simp at T
     obtain⟨_,_,k',ob0,v,A,h3,_⟩:=M
     rw[L] at v;simp at v;subst v
     rw[old] at A;simp at A;subst A
     exact absurd T h3.row
    exact .inr ⟨O,o2,cs2,ty2,fr2,g1,by rw[other O hne];exact T,g3,g4,g5.ext E,g6,g7⟩
 ·rw[Ac] at i
  by_cases e:b=d
  ·rw[if_pos e] at i;simp at i;subst i;subst e
   exact⟨Y,X,k,F,L,new,V,nJ⟩
  ·rw[if_neg e] at i
   exact(S.mblk b z i u C).keep rfl (fun O o2 I=>other O (fun e2=>by subst e2;exact e (S.sep d b x z O 0 o2 K i G u M.2.1 L I).symm)) (fun _ _ _ _ q=>q)
 ·intro b b' z z' kk oo oo' i hb' hd1 hd2 hs1 hβ1 I
  have get:∀ {c y},Ag (Dd h d x') c=some y→y.dead=false→∃ y',Ag h c=some y'∧y'.dead=false∧(y.sealed=false→y'.sealed=false):=by
   intro c y V hyd
   rw[Ac] at V
   by_cases e:c=d
   ·subst e;exact⟨x,K,G,fun _=>M.2.1⟩
   ·rw[if_neg e] at V;exact⟨y,V,hyd,id⟩
  obtain⟨y1,g1,T,g3⟩:=get i hd1
  obtain⟨y2,g4,g5,g6⟩:=get hb' hd2
  exact S.sep b b' y1 y2 kk oo oo' g1 g4 T g5 (g3 hs1) hβ1 I
 ·exact other j (fun e=>U (by subst e;exact⟨d,x,0,K,G,M.2.1,L⟩))
 ·rintro j ⟨b,z,oo,i,u,hsz,hβz⟩ q
  rw[Ac] at i
  by_cases e:b=d
  ·subst e;exact⟨b,x,oo,K,G,M.2.1,hβz⟩
  ·rw[if_neg e] at i
   exact⟨b,z,oo,i,u,hsz,hβz⟩
theorem Step.mark (S:SimH J β h w) {d k o:Nat} {x:Blk} {cs:Array Value} {ty:TypeId} {fr u:Nat×Nat} (C:Ag h d=some x) (D:x.dead=false) (hs:x.sealed=false) (F:β d=some (k,o))
  (old:w.heap[k]?=some (.cells cs ty fr)) (new:w'.heap[k]?=some (.cells cs ty u)) (X:FrOk cs.size u) (other:∀ j,j≠k→w'.heap[j]?=w.heap[j]?) (size:w'.heap.size=w.heap.size) (os:w'.os=w.os) (tape:w'.tape=w.tape) (output:w'.output=w.output) (A:x.mp=false) :
  Step J β h w J β h w':=by
 have nj:∀ g j,J g j→j≠k:=fun g j i e=>by
  subst e
  rcases S.blk d x C D A with⟨L,_⟩ | ⟨k',o',cs0,ty0,fr0,v,h2,h3,h4,h5,Y,h7⟩
  ·rw[F] at L;simp at L
  ·rw[F] at v;simp at v;obtain⟨rfl,rfl⟩:=v
   exact Y hs g i
 have E:Ext J β h w J β h w':=by
  refine⟨fun _ _ i=>i,fun o j i=>other j (nj o j i),fun b z m=>⟨z,⟨m,rfl⟩,?_⟩,fun b j oo m=>?_⟩
  ·cases D:z.dead
   ·exact .inr ⟨rfl,rfl,rfl,fun _=>rfl⟩
   ·exact .inl rfl
  ·by_cases e:j=k
   ·subst e;rw[Cd old,Cd new];exact Ab3 _
   ·simp[Ar,other j e]
 refine⟨E,⟨fun g j i=>by rw[size];exact S.jlt g j i,S.jft,S.gl.ext E,fun b z m q s=>?_,fun b z m q s=>by
   refine(S.mblk b z m q s).keep rfl (fun y o2 K=>other y (fun e2=>?_)) (fun _ _ _ _ i=>i)
   subst e2
   have:=(S.sep d b x z y o o2 C m D q hs F K)
   subst this
   rw[C] at m;simp at m;subst m;simp[A] at s,S.sep⟩,os,tape,output,by rw[size];exact Ab3 _,fun j i s=>?_,fun _ s _=>s,fun _ _ i=>.inl i⟩
 ·rcases S.blk b z m q s with G | ⟨y,o2,cs2,ty2,fr2,G,I,M,O,T,U,V⟩
  ·exact .inl G
  ·by_cases e:y=k
   ·subst e
    rw[old] at I;simp at I;obtain⟨rfl,rfl,rfl⟩:=I
    exact .inr ⟨y,o2,cs,ty,u,G,new,⟨X,M.2⟩,O,T.ext E,U,V⟩
   ·exact .inr ⟨y,o2,cs2,ty2,fr2,G,by rw[other y e];exact I,M,O,T.ext E,U,V⟩
 ·exact other j (fun e=>s (by subst e;exact⟨d,x,o,C,D,hs,F⟩))
theorem Step.move (S:SimH J β h w) {d s k o o':Nat} {x x' y:Blk} {cs K:Array Value} {ty:TypeId} {fr:Nat×Nat} (A:Ag h d=some x) (F:x.dead=false) (hs:x.sealed=false) (G:β d=some (k,o))
  (hn:Ag h s=none) (hy:y.dead=true)
  (O:OnlyBlk w w' k cs K ty fr) (hd':x'.dead=false) (hs':x'.sealed=false) (hl:o'+x'.cells.length≤cs.size) (hc:CellsRep J β h w x' (fun j=>K[o'+j]?)) (hxm:x.mp=false) (hym:y.mp=x.mp:=by rfl) (X:x'.mp=false:=by rfl) (hty:TyOk x'.ty ty o' cs.size:=by exact TyOk.none) :
  Step J β h w J (fun b=>if b=s then some (k,o') else β b) (Dd (Dd h d y) s x') w':=by
 obtain⟨Y,o1,cs0,ty0,fr0,L,h2,h3,h4,h5,h6,h7⟩:∃ Y o' cs0 ty0 fr0,β d=some (Y,o')∧w.heap[Y]?=some (.cells cs0 ty0 fr0) ∧
   FrTy x.ty ty0 o' cs0.size fr0∧o'+x.cells.length≤cs0.size∧CellsRep J β h w x (fun j=>cs0[o'+j]?)∧(x.sealed=false→∀ g,¬ J g Y)∧(x.sealed=true→J x.taint Y):=by
  rcases S.blk d x A F hxm with⟨h1,_⟩ | h1
  ·rw[G] at h1;simp at h1
  ·exact h1
 rw[G] at L;simp at L;obtain⟨rfl,rfl⟩:=L
 rw[O.old] at h2;simp at h2;obtain⟨rfl,rfl,rfl⟩:=h2
 have nj:∀ g j,J g j→j≠k:=fun g j u e=>by subst e;exact h6 hs g u
 have ndd:d≠s:=fun e=>by subst e;rw[hn] at A;cases A
 have ne:∀ {b z},Ag h b=some z→b≠s:=fun i e=>by subst e;rw[hn] at i;cases i
 have get:∀ b,Ag (Dd (Dd h d y) s x') b=if b=s then some x' else if b=d then some y else Ag h b:=fun b=>by rw[Ac,Ac]
 have E:Ext J β h w J (fun b=>if b=s then some (k,o') else β b) (Dd (Dd h d y) s x') w':=by
  refine⟨fun _ _ u=>u,fun o j u=>O.other j (nj o j u),fun b z i=>?_,fun b j oo i=>?_⟩
  ·by_cases e:b=d
   ·have hb0:=i;subst e;rw[A] at i;simp at i;subst i;exact⟨y,⟨by rw[get,if_neg (ne hb0),if_pos rfl],hym⟩,.inl hy⟩
   ·refine⟨z,⟨by rw[get,if_neg (ne i),if_neg e];exact i,rfl⟩,?_⟩
    cases F:z.dead
    ·exact .inr ⟨rfl,by simp[ne i],rfl,fun _=>rfl⟩
    ·exact .inl rfl
  ·by_cases e:j=k
   ·subst e;rw[Cd O.old,Cd O.new,O.sz];exact Ab3 _
   ·simp[Ar,O.other j e]
 have live:∀ {b z},Ag (Dd (Dd h d y) s x') b=some z→z.dead=false→(b=s∧z=x')∨(b≠s∧b≠d∧Ag h b=some z):=by
  intro b z i hz
  rw[get] at i
  by_cases e:b=s
  ·rw[if_pos e] at i;simp at i;exact .inl ⟨e,i.symm⟩
  ·rw[if_neg e] at i
   by_cases C:b=d
   ·rw[if_pos C] at i;simp at i;subst i;simp[hy] at hz
   ·rw[if_neg C] at i;exact .inr ⟨e,C,i⟩
 refine⟨E,⟨fun g j u=>by rw[O.size];exact S.jlt g j u,S.jft,S.gl.ext E,fun b z i m V=>?_,fun b z i m V=>by
   rcases live i m with⟨rfl,rfl⟩ | ⟨e1,C,i⟩
   ·simp[X] at V
   ·exact(S.mblk b z i m V).keep (by simp[e1]) (fun M o2 q=>O.other M (fun e=>by subst e;exact C (S.sep d b x z M o o2 A i F m hs G q).symm)) (fun _ _ _ _ u=>u),?_⟩,O.os,O.tape,O.output,by rw[O.size];exact Ab3 _,fun j u V=>?_,?_,fun _ _ u=>.inl u⟩
 ·rcases live i m with⟨rfl,rfl⟩ | ⟨e1,C,i⟩
  ·refine .inr ⟨k,o',K,ty,fr,by simp,O.new,?_,by rw[O.sz];exact hl,hc.ext E,fun _=>h6 hs,fun hh=>by simp[hs'] at hh⟩
   rw[O.sz];exact⟨h3.1,hty⟩
  ·rcases S.blk b z i m V with g1 | ⟨M,o2,cs2,ty2,fr2,g1,g2,g3,g4,g5,g6,g7⟩
   ·exact .inl ⟨by simp[e1,g1.1],g1.2⟩
   ·have hne:M≠k:=fun e=>by
     subst e;exact C (S.sep d b x z M o o2 A i F m hs G g1).symm
    exact .inr ⟨M,o2,cs2,ty2,fr2,by simp[e1,g1],by rw[O.other M hne];exact g2,g3,g4,g5.ext E,g6,g7⟩
 ·intro b b' z z' kk oo oo' i hb' T U hs1 v q
  rcases live i T with⟨e0,_⟩ | ⟨e1,C,hbb⟩<;>rcases live hb' U with⟨e0',_⟩ | ⟨e3,e4,I⟩
  ·rw[e0,e0']
  ·simp[e0] at v;simp[e3] at q
   obtain⟨rfl,rfl⟩:=v
   exact absurd (S.sep d b' x z' k o oo' A I F U hs G q).symm e4
  ·simp[e0'] at q;simp[e1] at v
   obtain⟨rfl,rfl⟩:=q
   exact absurd (S.sep d b x z k o oo A hbb F T hs G v).symm C
  ·simp[e1] at v;simp[e3] at q
   exact S.sep b b' z z' kk oo oo' hbb I T U hs1 v q
 ·exact O.other j (fun e=>V (by subst e;exact⟨d,x,o,A,F,hs,G⟩))
 ·rintro j ⟨b,z,oo,i,m,hsz,D⟩ u
  rcases live i m with⟨rfl,rfl⟩ | ⟨e1,C,i⟩
  ·simp at D;obtain⟨rfl,rfl⟩:=D
   exact⟨d,x,o,A,F,hs,G⟩
  ·simp[e1] at D;exact⟨b,z,oo,i,m,hsz,D⟩
end
end Gx
namespace Gx
open Go
theorem B0:∀ (a b:Do) (h:Ao),Ah (a++b) h=Ah b (Ah a h)
 | [],_,_=>rfl
 | (_,some _)::r,b,h=>by simp only[Ada,Ah];exact B0 r b _
 | (_,none)::r,b,h=>by simp only[Ada,Ah];exact B0 r b _
def LooksS (g:A6) (h:Ao):Prop:=∀ b x,g b=some x→∃ y,Ag h b=some y∧{ y with sealed:=true }={ x with sealed:=true }
theorem Looks.s {g:A6} {h:Ao} (d:Looks g h):LooksS g h:=fun b x e=>⟨x,d b x e,rfl⟩
section
variable {R:Type} {r:R} {P:Program} {J J':Bool→Nat→Prop} {β:Bu} {h:Ao} {w:World} {g:A6}
theorem LooksS.shutB (i:LooksS g h) {b:Nat} {x:Blk} (j:g b=some x):LooksS g (Dd h b { x with sealed:=true }):=by
 intro c y d
 rw[Ac]
 by_cases e:c=b
 ·subst e;rw[j] at d;simp at d;subst d
  exact⟨{ x with sealed:=true },by simp,rfl⟩
 ·rw[if_neg e];exact i c y d
theorem qt (S:SimH J β h w) {b off n:Nat} {y:Blk} {v:Value} (F:Ag h b=some y) (G:y.dead=false) (I:y.pure=true) (hr:Rep J β h w (.own b off n) v)
  (hJ:∀ k o,β b=some (k,o)→J' y.taint k) (m:∀ o k,J o k→J' o k) (t o:Bool):RepC (J' y.taint) w (.imm ((y.cells.drop off).take (n*y.sz)) n y.sz t o) v↔(t=true→∃ A cap,v=.slice A n cap∧cap=n):=by
 rw[Rep] at hr
 obtain⟨x,A,cap,⟨e,s⟩,rfl,d,hr⟩:=hr
 rw[F] at e;simp at e;subst e
 rw[RepC]
 constructor
 ·rintro⟨_,A',cap',u,_,z,_⟩ C
  exact⟨A',cap',u,z C⟩
 ·intro z
  have q:t=true→cap=n:=fun C=>by
   obtain⟨A',cap',u,O⟩:=z C
   simp at u;omega
  rcases hr with hr | ⟨kk,oo,rfl,hr⟩
  ·have:n=0:=by omega
   subst this
   exact⟨by simp,A,cap,rfl,d,q,.inl rfl⟩
  ·rcases hr with hr | ⟨D,T,U⟩
   ·simp[G] at hr
   ·rcases S.blk b y F G s with⟨hn,_⟩ | ⟨V,o',cs,ty,fr,i,K,X,Y,L,g5,g6⟩
    ·rw[D] at hn;simp at hn
    ·rw[D] at i;simp at i;obtain⟨rfl,rfl⟩:=i
     refine⟨by simp;omega,_,cap,rfl,d,q,.inr ⟨_,rfl,hJ _ _ D,?_⟩⟩
     have:=((L.1 I).drop off).take (n*y.sz)
     refine RepCs.keep (fun k M=>m _ k M) (fun _ _=>rfl) (fun j=>?_) this
     rw[Addr.add_mid,Li K,Acx]
theorem tW {b off n:Nat} {y:Blk} {v:Value} (i:Ag h b=some y) (hr:Rep J β h w (.own b off n) v):y.mp=false:=by
 rw[Rep] at hr
 obtain⟨x,A,cap,⟨d,e⟩,_⟩:=hr
 rw[i] at d;simp at d;subst d;exact e
theorem vN {b off:Nat} {y:Blk} {v:Value} (i:Ag h b=some y) (hr:Rep J β h w (.optr b off) v):y.mp=false:=by
 rw[Rep] at hr
 obtain⟨x,k,o,⟨d,e⟩,_⟩:=hr
 rw[i] at d;simp at d;subst d;exact e
theorem DD {v v':AV} {ups:Do} {org:Bool} {vc:Value} (S:SimH J β h w) (q:LooksS g h) (i:IF g v=some (v',ups,org)) (j:Rep J β h w v vc) :
    ∃ J',Step J β h w J' β (Ah ups h) w∧RepC (J' org) w v' vc∧LooksS g (Ah ups h):=by
  unfold IF at i
  split at i
  · rename_i b off n
    obtain⟨x,e,C⟩:=ub i
    obtain⟨D,u⟩:=uc C
    simp at u
    obtain⟨rfl,rfl,rfl⟩:=u
    unfold Em at e
    obtain⟨x0,m,e⟩:=ub e
    obtain⟨z,e⟩:=oa e
    simp at e;subst e
    obtain⟨y,s,d⟩:=q b _ m
    have e1:y.cells=x0.cells:=by have:=congrArg Blk.cells d;simpa using this
    have F:y.sz=x0.sz:=by have:=congrArg Blk.sz d;simpa using this
    have e3:y.taint=x0.taint:=by have:=congrArg Blk.taint d;simpa using this
    have e4:y.dead=x0.dead:=by have:=congrArg Blk.dead d;simpa using this
    have G:y.pure=x0.pure:=by have:=congrArg Blk.pure d;simpa using this
    have A:=Step.shutB S s (by rw[e4];exact z) (tW s j)
    refine⟨_,by simp only[Ah];rw[←d];exact A,?_,by simp only[Ah];exact q.shutB m⟩
    have:=(qt (J':=fun o k=>J o k∨∃ o',β b=some (k,o')∧(y.taint=true→o=true)) S s (by rw[e4];exact z) (by rw[G];exact D) j (fun k o I=>.inr ⟨o,I,id⟩) (fun o k K=>.inl K) false x0.taint).2 (by simp)
    rw[e1,F,e3] at this
    rw[e3]
    exact this
  all_goals first
    | (simp at i;done)
    | (simp at i; obtain ⟨rfl, rfl, rfl⟩ := i
       refine⟨J,Step.refl S,?_,q⟩
       first
         | (rw[Rep] at j;exact j)
         | skip)
  · cases v
    case imm=>rename_i hi _ _;exact absurd rfl (hi _ _ _ _ _)
    case iptr=>rename_i hi _;exact absurd rfl (hi _ _)
    case pagg=>rename_i hi;exact absurd rfl (hi _ _)
    all_goals first | (rw[Rep] at j;rw[RepC];exact j) | simp_all
theorem Nh:∀ {c e:LA} {ups:Do} {org:Bool} {cs:List Value} {J:Bool→Nat→Prop} {h:Ao},SimH J β h w→LooksS g h→Tp g c=some (e,ups,org)→Reps J β h w c cs →
  ∃ J',Step J β h w J' β (Ah ups h) w∧RepCs (J' org) w e (fun j=>cs[j]?) 0∧e.length=cs.length∧LooksS g (Ah ups h)
 | [],e,ups,org,cs,J,h,S,s,i,m=>by
  simp[Tp] at i;obtain⟨rfl,rfl,rfl⟩:=i
  rw[Reps] at m;subst m
  exact⟨J,Step.refl S,by simp[RepCs],rfl,s⟩
 | v::r,e,ups,org,cs,J,h,S,s,i,m=>by
  rw[Tp] at i
  obtain⟨⟨v1,u1,o1⟩,I,K⟩:=ub i
  obtain⟨⟨O,u2,o2⟩,hq,F⟩:=ub K
  simp at F
  obtain⟨rfl,rfl,rfl⟩:=F
  rw[Reps] at m
  obtain⟨u,L,rfl,y,z⟩:=m
  obtain⟨J1,A,hA,C⟩:=DD S s I y
  obtain⟨J2,B,hB,q,D⟩:=Nh A.sim C hq (Reps.ext A.ext z)
  refine⟨J2,by rw[B0];exact A.trans B (fun _ _ _ _=>Ab3 _),?_,by simp[q],by rw[B0];exact D⟩
  have mono:∀ {a b:Bool} (k:Nat),J2 a k→J2 (a||b) k:=fun {a b} k d=>by
   cases a
   ·cases b
    ·exact d
    ·exact B.sim.jft k d
   ·exact d
  have mono':∀ {a b:Bool} (k:Nat),J2 b k→J2 (a||b) k:=fun {a b} k d=>by rw[Afr];exact mono k d
  rw[RepCs]
  refine⟨⟨u,by simp,?_⟩,?_⟩
  ·exact RepC.keep (J:=J1 o1) (fun k d=>mono k (B.ext.jsub _ k d)) (fun _ _=>rfl) hA
  ·have:=RepCs.keep (J':=J2 (o1||o2)) (w':=w) (fun k d=>mono' k d) (fun _ _=>rfl) (rd':=fun j=>L[j]?) (fun _=>rfl) hB
   rw[Bg] at this ⊢
   intro j x M
   have G:=this j x M
   simp only[Ab8] at G
   rw[show 1+j=j+1 by omega]
   simpa using G
theorem BI {v:AV} {e:LA} {ups:Do} {org:Bool} {vc:Value} (S:SimH J β h w) (m:LooksS g h) (d:Th g v=some (e,ups,org)) (i:Rep J β h w v vc) :
  ∃ J',Step J β h w J' β (Ah ups h) w∧RepCs (J' org) w e (fun j=>vc.cells.toList[j]?) 0∧e.length=vc.cells.toList.length∧LooksS g (Ah ups h):=by
 unfold Th at d
 split at d
 ·rename_i c org'
  simp at d;obtain⟨rfl,rfl,rfl⟩:=d
  rw[Rep] at i
  obtain⟨cs,rfl,y,k⟩:=i
  exact⟨J,Step.refl S,k,by simp[Value.cells,y],m⟩
 ·rename_i c
  rw[Rep] at i
  obtain⟨cs,rfl,k⟩:=i
  exact Nh S m d k
 ·rename_i v y k
  obtain⟨J',A,hA,b,q⟩:=Nh (cs:=[vc]) S m d (by rw[Reps];exact⟨vc,[],rfl,i,by rw[Reps]⟩)
  have F:vc.oneCell'=true:=by
   have s:e.length=1:=b
   cases z:e with
   | nil=>simp[z] at s
   | cons x r =>
    obtain⟨u,C,hr⟩:=hA.at (j:=0) (x:=x) (by simp[z])
    simp at C;subst C
    exact MM hr
  have D:vc.cells=#[vc]:=by cases vc<;>simp_all[Value.cells,Value.oneCell']
  rw[D]
  exact⟨J',A,hA,b,q⟩
end
end Gx
namespace Gx
open Go
theorem B3:∀ (ups:Do) (h:Ao) (b:Nat),A3 ups b=false→Ag (Ah ups h) b=Ag h b
 | [],_,_,_=>rfl
 | (i,some x)::r,h,b,hi=>by
  rw[A3] at hi
  cases d:beq i b with
  | true=>rw[d] at hi;simp at hi
  | false =>
   rw[d] at hi
   rw[Ah,B3 r _ b hi,Ac,if_neg (fun e=>Rt d e.symm)]
 | (i,none)::r,h,b,hi=>by
  rw[A3] at hi
  cases d:beq i b with
  | true=>rw[d] at hi;simp at hi
  | false =>
   rw[d] at hi
   rw[Ah,B3 r _ b hi]
   split
   ·rw[Ac,if_neg (fun e=>Rt d e.symm)]
   ·rfl
theorem Tv {c vs:LA} {off:Nat} (e:off+vs.length≤c.length) (j:Nat):(Cy c off vs)[j]?=if off≤j∧j<off+vs.length then vs[j - off]? else c[j]?:=by
 unfold Cy
 rw[Ads,Acr]
 simp only[Ac7,Ac6 (show off≤c.length by omega)]
 by_cases b:j<off
 ·rw[if_pos b,if_neg (by omega),Ac9,if_pos b]
 ·rw[if_neg b,Acr]
  by_cases d:j - off<vs.length
  ·rw[if_pos d,if_pos (by omega)]
  ·rw[if_neg d,if_neg (by omega),Ac2];congr 1;omega
theorem Lj {c vs:LA} {off:Nat} (b:off+vs.length≤c.length):(Cy c off vs).length=c.length:=by
 unfold Cy;simp;omega
theorem Y9 {c vs:LA} {off:Nat} (b:off+vs.length≤c.length) (j:Nat):(setCells c off vs)[j]?=if off≤j∧j<off+vs.length then vs[j - off]? else c[j]?:=by
 unfold setCells
 split
 ·rename_i y
  simp at b
  rw[List.getElem?_set]
  by_cases e:off=j
  ·subst e;simp;omega
  ·rw[if_neg e,if_neg (by simp;omega)]
 ·exact Tv b j
theorem L4 {c vs:LA} {off:Nat} (b:off+vs.length≤c.length):(setCells c off vs).length=c.length:=by
 unfold setCells
 split
 ·simp
 ·exact Lj b
section
variable {R:Type} {r:R} {P:Program} {J J':Bool→Nat→Prop} {β:Bu} {h:Ao} {w w':World} {g:A6}
theorem Kn {v:AV} {vc:Value} (hs:Xb g v=true) (b:Rep J β h w v vc):vc.oneCell'=true:=by
 cases v<;>simp[Xb] at hs
 case own=>rw[Rep] at b;obtain⟨x,A,cap,_,rfl,_⟩:=b;rfl
 case optr=>rw[Rep] at b;obtain⟨x,k,o,_,rfl,_⟩:=b;rfl
 case fn=>rw[Rep] at b;obtain⟨cs,rfl,_⟩:=b;rfl
 case imm=>rw[Rep,RepC] at b;obtain⟨_,A,cap,rfl,_⟩:=b;rfl
 case iptr=>rw[Rep,RepC] at b;obtain⟨a,rfl,_⟩:=b;rfl
 all_goals (rw[Rep] at b;subst b;rfl)
theorem R9:∀ {c:LA},Kk g c=true→∀ (j:Nat) (x:AV),c[j]?=some x→Xb g x=true
 | [],_,j,x,b=>by simp at b
 | v::r,hs,j,x,b=>by
  rw[Kk] at hs;simp at hs
  cases j with
  | zero=>simp at b;subst b;exact hs.1
  | succ j=>exact R9 hs.2 j x (by simpa using b)
theorem od {k:Nat} {cs b:Array Value} {ty:TypeId} {fr:Nat×Nat} (O:OnlyBlk w w' k cs b ty fr):∀ j,Ar w j≤Ar w' j:=fun j=>by
 by_cases e:j=k
 ·subst e;rw[Cd O.old,Cd O.new,O.sz];exact Ab3 _
 ·simp[Ar,O.other j e]
theorem DE {t:TypeId} {k o:Nat} {vc:Value} {cs:Array Value} {ty:TypeId} {fr:Nat×Nat} (e:w.heap[k]?=some (.cells cs ty fr)) (i:FrOk cs.size fr)
  (hs:Bh P t=some vc.cells.toList.length) (m:o+vc.cells.toList.length≤cs.size) (q:∀ u ∈ vc.cells.toList,u.oneCell'=true) :
  (Instr.storeAt t (.pointer (some ⟨k,o,none⟩)) vc).run P w=.ok () (w.setCells k o vc.cells.toList):=by
 have b:=run_storeCells_cells (P:=P) k o vc.cells.toList 0 w (fun j s=>by
   rw[Ac4,Li e];simp;omega)
  (fun j s=>by
   rw[Ac4];simp only[World.frozen?,e]
   have:=i.at (o+j) (by omega)
   cases fr;simp at this ⊢;omega) q
 simp only[Ac4] at b
 have d:=B5 hs w
 simp only[Aef] at d
 simp[Instr.storeAt,Instr.sureAddr,storeVar,d,b]
theorem j8 {t:TypeId} {p v:AV} {vp vv:Value} {k:AV→Do→O R} (S:SimH J β h w) (hl:Looks g h) (L:RK P g t p v k=some r) (hp:Rep J β h w p vp) (Y:Rep J β h w v vv) :
  ∃ val ups,k val ups=some r∧∃ J' β' w',(Instr.storeAt t vp vv).run P w=.ok () w'∧Step J β h w J' β' (Ah ups h) w'∧val=.undef:=by
 unfold RK at L
 split at L
 ·rename_i b off
  obtain⟨x,hx,h1⟩:=ub L
  obtain⟨n,hn,h2⟩:=ub h1
  obtain⟨hs,V⟩:=oa h2
  obtain⟨hb,X⟩:=Co hl hx
  have C:=vN hb hp
  cases M:x.pure with
  | true =>
   rw[M] at V
   obtain⟨⟨c',u1,org⟩,hq,h4⟩:=ub V
   obtain⟨m,h5⟩:=uc h4
   simp at m
   obtain⟨D,F,T⟩:=m
   obtain⟨J1,A,hA,q,_⟩:=BI S hl.s hq Y
   have hb1:Ag (Ah u1 h) b=some x:=by rw[B3 _ _ _ T];exact hb
   obtain⟨kk,o,cs,ty,fr,hβ,rfl,i,hf,hle,hcr,_,_⟩:=j4 A.sim hb1 X (Rep.ext A.ext hp)
   obtain⟨G,O,hO⟩:=OnlyBlk.setCells (k:=kk) vv.cells.toList (o+off) w cs i
   have I:off+c'.length≤x.cells.length:=by omega
   have hone:=RepCs.one hA q.symm
   have B:=Step.set (x':={ x with pure:=true,cells:=setCells x.cells off c',taint:=x.taint||org }) A.sim hb1 X hs hβ O X hs rfl (L4 I) (by
    refine⟨fun _=>?_,fun L=>by simp at L⟩
    have hold:=hcr.1 M
    rw[Bg]
    intro j y d
    simp only[Y9 I] at d
    simp only[Ab8]
    have mono:∀ {a b:Bool} (k:Nat),J1 a k→J1 (a||b) k:=fun {a b} k i=>by
     cases a
     ·cases b
      ·exact i
      ·exact A.sim.jft k i
     ·exact i
    split at d
    ·rename_i hj'
     obtain⟨u,K,hr⟩:=hA.at d
     refine⟨u,?_,RepC.keep (J:=J1 org) (fun k i=>by rw[Afr];exact mono k i) (fun _ _=>rfl) hr⟩
     rw[hO,if_pos (by omega),←K];congr 1;omega
    ·rename_i hj'
     obtain⟨u,K,hr⟩:=hold.at d
     refine⟨u,?_,RepC.keep (J:=J1 x.taint) (fun k i=>mono k i) (fun _ _=>rfl) hr⟩
     rw[hO,if_neg (by omega)];exact K)
   refine⟨_,_,h5,J1,β,_,DE i hf.1 (by rw[←q,D];exact hn) (by omega) hone,?_,rfl⟩
   rw[B0]
   exact A.trans (B C) (fun _ k _ _=>od O k)
  | false =>
   rw[M] at V
   obtain⟨kk,o,cs,ty,fr,hβ,rfl,i,hf,hle,hcr,_,_⟩:=j4 S hb X hp
   have go:∀ (c:LA) (cells':LA),(∀ (j:Nat) (y:AV),c[j]?=some y→∃ u,vv.cells.toList[j]?=some u∧Rep J β h w y u∧u.oneCell'=true)→c.length=vv.cells.toList.length→c.length=n→off+c.length≤x.cells.length →
     cells'.length=x.cells.length→(∀ j:Nat,cells'[j]?=if off≤j∧j<off+c.length then c[j - off]? else x.cells[j]?) →
     ∃ J' β' w',(Instr.storeAt t (.pointer (some ⟨kk,o+off,none⟩)) vv).run P w=.ok () w'∧Step J β h w J' β' (Ah [(b,some { x with pure:=false,cells:=cells' })] h) w':=by
    intro c cells' m q hcn hoff hcl hget'
    obtain⟨G,O,hO⟩:=OnlyBlk.setCells (k:=kk) vv.cells.toList (o+off) w cs i
    have B:=Step.set (x':={ x with pure:=false,cells:=cells' }) S hb X hs hβ O X hs rfl hcl (by
     refine⟨fun L=>by simp at L,fun _ j y d=>?_⟩
     simp only[hget'] at d
     split at d
     ·rename_i hj'
      obtain⟨u,K,hr,ho⟩:=m _ _ d
      refine⟨u,?_,hr,ho⟩
      show G[o+j]?=some u
      rw[hO,if_pos (by omega),←K];congr 1;omega
     ·rename_i hj'
      obtain⟨u,K,hr⟩:=hcr.2 M j y d
      refine⟨u,?_,hr⟩
      show G[o+j]?=some u
      rw[hO,if_neg (by omega)];exact K)
    refine⟨J,β,_,DE i hf.1 (by rw[hn,←hcn,q]) (by omega) (fun u K=>?_),B C⟩
    obtain⟨j,d,rfl⟩:=Aer K
    obtain⟨u',hu',_,ho⟩:=m j c[j] (Ab1 (by omega))
    rw[Ab1 d] at hu';simp only[Ac0] at hu';rw[hu'];exact ho
   simp only[cond_false] at V
   split at V
   ·rename_i c
    obtain⟨m,h5⟩:=uc V
    simp at m
    obtain⟨D,F,T⟩:=m
    rw[Rep] at Y
    obtain⟨us,rfl,e⟩:=Y
    rw[Bx] at e
    obtain⟨J',β',w',g1,g2⟩:=go c (Cy x.cells off c) (fun j y d=>by
      have U:j<us.length:=by rw[e.1];exact(Ab7.1 d).1
      refine⟨us[j],by simp[Value.cells,Ab1 U],e.2 j y _ d (Ab1 U),Kn (R9 D j y d) (e.2 j y _ d (Ab1 U))⟩)
     (by simp[Value.cells,e.1]) F (by omega) (Lj (by omega)) (Tv (by omega))
    exact⟨_,_,h5,J',β',w',g1,g2,rfl⟩
   ·rename_i c org
    obtain⟨m,h5⟩:=uc V
    simp at m
    obtain⟨rfl,F,T⟩:=m
    rw[Rep] at Y
    obtain⟨us,rfl,e,hrc⟩:=Y
    obtain⟨G,O,hO⟩:=OnlyBlk.setCells (k:=kk) us (o+0) w cs i
    have B:=Step.set (x':={ x with pure:=true,taint:=org,cells:=c }) S hb X hs hβ O X hs rfl (by simp;omega) (by
     refine⟨fun _=>?_,fun L=>by simp at L⟩
     rw[Bg]
     intro j y d
     obtain⟨u,K,hr⟩:=hrc.at d
     have U:j<us.length:=by rw[e];exact(Ab7.1 d).1
     refine⟨u,?_,hr⟩
     show G[o+(0+j)]?=some u
     rw[hO,if_pos (by omega),←K];congr 1;omega)
    exact⟨_,_,h5,J,β,_,DE (vc:=.agg ⟨us⟩) i hf.1 (by simp[Value.cells];rw[e,F];exact hn) (by simp[Value.cells];omega) (by simpa[Value.cells] using RepCs.one hrc e),B C,rfl⟩
   ·rename_i hna
    obtain⟨m,h5⟩:=uc V
    simp at m
    obtain⟨D,F,T⟩:=m
    have ho:=Kn D Y
    have z:vv.cells=#[vv]:=by cases vv<;>simp_all[Value.cells,Value.oneCell']
    obtain⟨J',β',w',g1,g2⟩:=go [v] (x.cells.set off v) (fun j y d=>by
      cases j with
      | zero=>simp at d;subst d;exact⟨vv,by simp[z],Y,ho⟩
      | succ j=>simp at d) (by simp[z]) (by simp;omega) (by simp;omega) (by simp) (fun j=>by
      have:=Y9 (c:=x.cells) (vs:=[v]) (off:=off) (by simp;omega) j
      simpa[setCells] using this)
    exact⟨_,_,h5,J',β',w',g1,g2,rfl⟩
 ·simp at L
end
end Gx
namespace Gx
open Go
section
variable {R:Type} {r:R} {P:Program} {J J':Bool→Nat→Prop} {β:Bu} {h:Ao} {w w':World} {g:A6}
theorem iG {v v':AV} {ups:Do} {org:Bool} (d:IF g v=some (v',ups,org)) (b:Nat) (k:A3 ups b=true):∃ x,g b=some x:=by
 unfold IF at d
 split at d
 ·rename_i m off n
  obtain⟨x,i,s⟩:=ub d
  obtain⟨u,q⟩:=uc s
  simp at q
  obtain⟨rfl,rfl,rfl⟩:=q
  unfold Em at i
  obtain⟨x0,j,i⟩:=ub i
  have:m=b:=by
   cases e:beq m b with
   | true=>exact Ab5 e
   | false=>simp[A3,e] at k
  subst this;exact⟨x0,j⟩
 all_goals first
  | (simp at d;done)
  | (simp at d;obtain⟨rfl,rfl,rfl⟩:=d;simp[A3] at k)
theorem F6:∀ (a b:Do) (c:Nat),A3 (a++b) c=(A3 a c||A3 b c)
 | [],_,_=>by simp[A3]
 | (i,_)::r,b,c=>by
  rw[Ada,A3,A3,F6 r b c]
  cases beq i c<;>simp
theorem Tx:∀ {c i:LA} {ups:Do} {org:Bool},Tp g c=some (i,ups,org)→∀ b,A3 ups b=true→∃ x,g b=some x
 | [],i,ups,org,d,b,e=>by simp[Tp] at d;obtain⟨rfl,rfl,rfl⟩:=d;simp[A3] at e
 | v::r,i,ups,org,d,b,e=>by
  rw[Tp] at d
  obtain⟨⟨v1,u1,o1⟩,m,q⟩:=ub d
  obtain⟨⟨s,u2,o2⟩,hq,j⟩:=ub q
  simp at j
  obtain⟨rfl,rfl,rfl⟩:=j
  rw[F6] at e
  cases k:A3 u1 b with
  | true=>exact iG m b k
  | false=>rw[k] at e;exact Tx hq b (by simpa using e)
theorem f5 {v:AV} {i:LA} {ups:Do} {org:Bool} (d:Th g v=some (i,ups,org)) (b:Nat) (e:A3 ups b=true):∃ x,g b=some x:=by
 unfold Th at d
 split at d
 ·simp at d;obtain⟨rfl,rfl,rfl⟩:=d;simp[A3] at e
 ·exact Tx d b e
 ·exact Tx d b e
theorem qu {ups:Do} {d:Nat} (e:Looks g h) (i:∀ b,A3 ups b=true→∃ x,g b=some x) (hn:Ag h (nid d)=none):Ag (Ah ups h) (nid d)=none:=by
 rw[B3]
 ·exact hn
 ·cases j:A3 ups (nid d) with
  | false=>rfl
  | true =>
   obtain⟨x,k⟩:=i _ j
   rw[e _ _ k] at hn;cases hn
def OpDone (J:Bool→Nat→Prop) (β:Bu) (h:Ao) (w:World) (ups:Do) (val:AV) (vc:Value) (w':World):Prop :=
 ∃ J' β',Step J β h w J' β' (Ah ups h) w'∧Rep J' β' (Ah ups h) w' val vc
def UpsFree (d:Nat) (h:Ao) (ups:Do):Prop:=∀ b,A3 ups b=true→Xf d b=true→Ag h b=none
theorem UpsFree.nid {d:Nat} {h:Ao} {ups:Do} (b:UpsFree d h ups) (hi:A3 ups (nid d)=true):Ag h (nid d)=none:=b _ hi (by
 have e:ble (Gx.nid d) (Gx.nid d)=true:=by simp
 have i:Nat.blt (Gx.nid d) (Gx.nid d+16)=true:=by simp
 rw[Xf,e,i];rfl)
theorem GI {d:Nat} {x:Blk} {cs:Array Value} {ty:TypeId} (S:SimH J β h w) (hn:Ag h (nid d)=none) (i:x.dead=false) (hs:x.sealed=false) (b:x.cells.length≤cs.size) (k:CellsRep J β h w x (fun j=>cs[j]?)) (e:x.mp=false:=by rfl) (hty:TyOk x.ty ty 0 cs.size:=by exact TyOk.none) :
  OpDone J β h w [(nid d,some x)] (.optr (nid d) 0) (.pointer (some ⟨w.heap.size,0,none⟩)) (w.alloc (.cells cs ty)):=by
 have A:=Step.new (ty:=ty) (fr:=(0,0)) S hn i hs ⟨.inl rfl,hty⟩ b k e
 refine⟨_,_,A,?_⟩
 rw[Rep]
 exact⟨x,w.heap.size,0,⟨by simp[Ah,Ac],e⟩,rfl,.inr (by simp)⟩
theorem OpDone.after {ups ups':Do} {val:AV} {vc:Value} {J1:Bool→Nat→Prop} {β1:Bu} {b:World} (A:Step J β h w J1 β1 (Ah ups h) b) (B:OpDone J1 β1 (Ah ups h) b ups' val vc w')
  (hs:∀ k,Ar w k≤Ar w' k):OpDone J β h w (ups++ups') val vc w':=by
 obtain⟨J2,β2,B1,B2⟩:=B
 exact⟨J2,β2,by rw[B0];exact A.trans B1 (fun _ k _ _=>hs k),by rw[B0];exact B2⟩
theorem Mk (w:World) (o:Obj):∀ k,Ar w k≤Ar (w.alloc o) k:=fun k=>by
 by_cases b:k<w.heap.size
 ·simp[Ar,Ci w _ b]
 ·simp[Ar,Acq (Adm b)]
theorem Za {t:TypeId} {vc:Value}:(Instr.box t vc).run P w=.ok (.pointer (some ⟨w.heap.size,0,none⟩)) (w.alloc (.cells vc.cells t)):=by
 simp[Instr.box,newVar,newRow]
theorem UZ {c:LA} {org:Bool} {cs:List Value} (y:RepCs (J org) w c (fun j=>cs[j]?) 0):∀ {L:List (Nat×TypeId)} {b:LA} {k:LA→O R},ME P c org L b k=some r →
  (∀ (j:Nat) x,b[j]?=some x→∃ u,cs[j]?=some u∧Rep J β h w x u)→∃ l:LA,k l=some r∧∀ (j:Nat) x,l[j]?=some x→∃ u,cs[j]?=some u∧Rep J β h w x u
 | [],b,k,i,m=>⟨b,i,m⟩
 | (off,t)::L,b,k,i,m=>by
  rw[ME] at i
  obtain⟨h0,C⟩:=uc i
  simp at h0
  obtain⟨v,D,F⟩:=Qq (β:=β) (h:=h) C (y.drop off)
  refine UZ y D (fun j x e=>?_)
  rw[Acr] at e
  split at e
  ·exact m j x e
  ·have q:j=b.length:=by
    have:=(Ab7.1 e).1
    simp at this;omega
   subst q
   simp at e;subst e
   rcases F with⟨d,z,G,u,A,I⟩ | ⟨d,z,G,_⟩
   ·refine⟨u,?_,I⟩
    rw[h0.1] at A;simpa using A
   ·exfalso
    have s:=h0.2
    unfold tP at s
    rw[z] at s
    split at s<;>simp_all[TypeDesc.isRow]
theorem j9 {co:Bool} {t:TypeId} {v:AV} {vv:Value} {k:AV→O R} (d:RM P co t v k=some r) (e:Rep J β h w v vv):∃ v',k v'=some r∧Rep J β h w v' vv:=by
 unfold RM at d
 split at d
 ·rename_i c org
  rw[Rep] at e
  obtain⟨cs,rfl,D,i⟩:=e
  obtain⟨l,m,q⟩:=UZ (β:=β) (h:=h) i d (fun j x s=>by simp at s)
  obtain⟨y,z⟩:=uc m
  simp at y
  refine⟨_,z,?_⟩
  rw[Rep]
  refine⟨cs,rfl,Bx.2 ⟨by omega,fun j x u A C=>?_⟩⟩
  obtain⟨F,b,hr⟩:=q j x A
  rw[C] at b;simp at b;subst b;exact hr
 ·exact⟨_,d,e⟩
theorem rs {t q m:Nat} (h:jR P t=some (q,m)):t=q∧Bh P t=some m:=by
 have key:∀ {o:Option Nat},o=Bh P t→(o.map fun n=>(t,n))=some (q,m)→t=q∧Bh P t=some m:=by
  intro o b h
  cases o with
  | none=>simp at h
  | some n=>simp at h;exact⟨h.1,by rw[←b,h.2]⟩
 unfold jR at h
 split at h
 ·obtain⟨f,_,h⟩:=ub h
  split at h
  ·obtain⟨_,h⟩:=uc h;exact key rfl h
  ·obtain⟨g,_,h⟩:=ub h
   split at h
   ·obtain⟨_,h⟩:=uc h;exact key rfl h
   ·cases h
  ·cases h
 ·cases h
theorem aR {d:Nat} {t:TypeId} {v:AV} {vv:Value} {k:AV→Do→O R} (S:SimH J β h w) (L:Looks g h) (i:l8 P g d t v k=some r) (D:Rep J β h w v vv) :
  ∃ val ups,k val ups=some r∧(UpsFree d h ups→∃ vc w',(Instr.box t vv).run P w=.ok vc w'∧OpDone J β h w ups val vc w'):=by
 unfold l8 at i
 split at i
 ·rename_i c org
  refine⟨_,_,i,fun hn=>⟨_,_,Za,?_⟩⟩
  replace hn:=hn.nid (by simp[Nc,A3])
  rw[Rep] at D
  obtain⟨cs,rfl,K,u⟩:=D
  exact GI S hn rfl rfl (by simp[Value.cells,K]) ⟨fun _=>by simpa[Value.cells] using u,fun z=>by simp at z⟩
 ·rename_i c
  cases z:qk P t with
  | true =>
   rw[z] at i
   obtain⟨e,i⟩:=uc i
   simp only[Ab6] at e
   obtain⟨e,C⟩:=e
   have C:=Ab5 C
   refine⟨_,_,i,fun hn=>⟨_,_,Za,?_⟩⟩
   replace hn:=hn.nid (by simp[A3])
   rw[Rep] at D
   obtain⟨cs,rfl,u⟩:=D
   rw[Bx] at u
   have hty:TyOk (jR P t) t 0 (Value.agg ⟨cs⟩).cells.size:=fun q m hq=>by
    obtain⟨e1,M⟩:=rs hq
    refine⟨e1,rfl,.inr ?_⟩
    rw[M] at C
    simp[Value.cells,u.1];simpa using C
   refine GI S hn rfl rfl (by simp[Value.cells,u.1]) ⟨fun z=>by simp at z,fun _ j y F=>?_⟩ rfl hty
   have G:j<cs.length:=by rw[u.1];exact(Ab7.1 F).1
   exact⟨cs[j],by simp[Value.cells,G],u.2 j y _ F (Ab1 G),Kn (R9 e j y F) (u.2 j y _ F (Ab1 G))⟩
  | false =>
   rw[z] at i
   obtain⟨⟨U,u1,o1⟩,hq,K⟩:=ub i
   refine⟨_,_,K,fun hn=>⟨_,_,Za,?_⟩⟩
   replace hn:=hn.nid (by simp[F6,Nc,A3])
   rw[Rep] at D
   obtain⟨cs,rfl,u⟩:=D
   obtain⟨J1,A,hA,I,_⟩:=Nh S L.s hq u
   refine OpDone.after A (GI A.sim (qu L (Tx hq) hn) rfl rfl (by simp[Value.cells,I]) ⟨fun _=>?_,fun z=>by simp at z⟩) (Mk _ _)
   simpa[Value.cells] using hA
 ·rename_i v K u
  obtain⟨e,i⟩:=uc i
  refine⟨_,_,i,fun hn=>⟨_,_,Za,?_⟩⟩
  replace hn:=hn.nid (by simp[Nc,A3])
  have T:=Kn e D
  have b:vv.cells=#[vv]:=by cases vv<;>simp_all[Value.cells,Value.oneCell']
  refine GI S hn rfl rfl (by simp[b]) ⟨fun z=>by simp at z,fun _ j y F=>?_⟩
  cases j with
  | zero=>simp at F;subst F;exact⟨vv,by simp[b],D,T⟩
  | succ j=>simp at F
end
end Gx
namespace Gx
open Go
theorem j_ (z:LA):∀ (l j:Nat),j<l*z.length→(Dy l z)[j]?=z[j%z.length]?:=by
 have flat:∀ (l j:Nat),j<l*z.length→((replicate l z).flatten)[j]?=z[j%z.length]?:=by
  intro l
  induction l with
  | zero=>intro j b;simp at b
  | succ l e =>
   intro j b
   rw[Ae4,List.flatten_cons,Acr]
   by_cases d:j<z.length
   ·rw[if_pos d,Adg d]
   ·rw[if_neg d,e _ (by rw[Agi] at b;omega)]
    rw[Nat.mod_eq_sub_mod (a:=j) (by omega)]
 intro l j b
 unfold Dy
 split
 ·rename_i v
  simp at b
  simp[b,Nat.mod_one]
 ·exact flat l j b
theorem En (l:Nat) (z:LA):(Dy l z).length=l*z.length:=by
 unfold Dy
 split
 ·simp
 ·simp
section
variable {R:Type} {r:R} {P:Program} {J J':Bool→Nat→Prop} {β:Bu} {h:Ao} {w w':World} {g:A6}
theorem KQ {J:Nat→Prop}:∀ {cs:List Value},Aw (I8 cs)=true→∀ (j:Nat) (u:Value),cs[j]?=some u→∃ x,(I8 cs)[j]?=some x∧RepC J w x u
 | [],_,j,u,b=>by simp at b
 | v::r,d,j,u,b=>by
  have key:∃ x,RE v=x∧Aw (I8 r)=true∧RepC J w x v:=by
   rw[I8] at d
   have hr:=Y7 (J:=fun _=>J) (β:=fun _=>none) (h:=[]) (w:=w) v
   cases e:RE v<;>rw[e] at d hr<;>simp[Aw] at d<;>refine⟨_,rfl,d,?_⟩<;>(rw[Rep] at hr;rw[RepC];exact hr)
  obtain⟨x,e,i,hr⟩:=key
  cases j with
  | zero=>simp at b;subst b;exact⟨x,by simp[I8,e],hr⟩
  | succ j =>
   obtain⟨y,k,m⟩:=KQ (J:=J) (cs:=r) i j u (by simpa using b)
   exact⟨y,by simpa[I8] using k,m⟩
theorem U9:∀ cs:List Value,(I8 cs).length=cs.length
 | []=>rfl
 | v::r=>by simp[I8,U9 r]
theorem Ov {t:TypeId} {z:LA} (d:MA P t=some z):∃ i v,P.info? t=some i∧i.zero=some v∧z=I8 v.cells.toList∧Aw z=true∧v.cells.size=i.size∧z.length=i.size:=by
 unfold MA at d
 obtain⟨i,hi,j⟩:=ub d
 obtain⟨v,k,m⟩:=ub j
 obtain⟨b,e⟩:=uc m
 simp at e b
 subst e
 exact⟨i,v,hi,k,rfl,b.1,by simpa using b.2,by rw[U9];simpa using b.2⟩
theorem Zb {J:Nat→Prop} {v:Value} (q:Aw (I8 v.cells.toList)=true) (l n:Nat) (u:l*v.cells.size≤n) :
  RepCs J w (Dy l (I8 v.cells.toList)) (fun j=>(madeCells v.cells n)[j]?) 0:=by
 rw[Bg]
 intro j x i
 have d:(I8 v.cells.toList).length=v.cells.size:=by rw[U9];simp
 have b:j<l*(I8 v.cells.toList).length:=by
  have:=(Ab7.1 i).1
  rwa [En] at this
 rw[j_ _ _ _ b] at i
 rw[d] at i b
 have e:0<v.cells.size:=by
  rcases Adk v.cells.size with h0 | h0
  ·rw[h0] at b;simp at b
  ·exact h0
 have m:j%v.cells.size<v.cells.size:=Aeg _ e
 obtain⟨y,k,s⟩:=KQ (w:=w) (J:=J) q (j%v.cells.size) v.cells[j%v.cells.size] (by simp[m])
 rw[i] at k;simp at k;subst k
 refine⟨_,?_,s⟩
 have:j<n:=by omega
 simp[madeCells,this,getElem!_pos,m]
theorem MN {d n cap sz:Nat} {x:Blk} {cs:Array Value} {ty:TypeId} {fr:Nat×Nat} (S:SimH J β h w) (hn:Ag h (nid d)=none) (u:x.dead=false) (hs:x.sealed=false) (q:x.sz=sz)
  (m:FrTy x.ty ty 0 cs.size fr) (b:x.cells.length=n*sz) (s:cap*sz≤cs.size) (e:n≤cap) (v:CellsRep J β h w x (fun j=>cs[j]?)) (i:x.mp=false:=by rfl) :
  OpDone J β h w [(nid d,some x)] (.own (nid d) 0 n) (.slice (some ⟨w.heap.size,0,none⟩) n cap) (w.alloc (.cells cs ty fr)):=by
 have y:n*sz≤cap*sz:=Aco _ e
 have A:=Step.new (ty:=ty) (fr:=fr) S hn u hs m (by omega) v i
 refine⟨_,_,A,?_⟩
 rw[Rep]
 refine⟨x,_,cap,⟨by simp[Ah,Ac],i⟩,rfl,e,.inr ⟨w.heap.size,0,rfl,.inr ⟨by simp,?_,by rw[q,b];omega⟩⟩⟩
 have k:(w.alloc (.cells cs ty fr)).heap[w.heap.size]?=some (.cells cs ty fr):=by show(w.heap.push _)[_]?=_;simp
 rw[Cd k,q];omega
theorem lj {d:Nat} {t:TypeId} {l c:AV} {vl vc:Value} {k:AV→Do→O R} (S:SimH J β h w) (e:hY P d t l c k=some r) (s:Rep J β h w l vl) (y:Rep J β h w c vc) :
  ∃ val ups,k val ups=some r∧(UpsFree d h ups→∃ u w',(Instr.makeSlice t vl vc).run P w=.ok u w'∧OpDone J β h w ups val u w'):=by
 unfold hY at e
 split at e
 ·rename_i C l c D
  obtain⟨sz,hs,F⟩:=ub e
  obtain⟨by_,A,G⟩:=ub F
  obtain⟨z,I,K⟩:=ub G
  obtain⟨hq,L⟩:=uc K
  simp at hq
  obtain⟨M,T,X,Y⟩:=hq
  rw[Rep] at s y;subst s y
  obtain⟨i,v,hi,U,rfl,j,e1,V⟩:=Ov I
  have b:i.size=sz:=by simp[Bh,hi] at hs;exact hs
  have m:i.bytes=by_:=by simp[jO,hi] at A;exact A
  have q:A3 (Nc d true false sz (Dy l.toNat (I8 v.cells.toList))) (nid d)=true:=by simp[Nc,A3]
  refine⟨_,_,L,fun hn=>⟨_,_,run_make w t C i v D hi U _ _ l c M T (by rw[m,Int.mul_comm];omega) (by omega),?_⟩⟩
  refine MN (sz:=sz) S (hn.nid q) rfl rfl rfl FrTy.un0 ?_ (by rw[size_madeCells,b];exact Ab3 _) (by omega) ⟨fun _=>?_,fun j=>by simp at j⟩
  ·show(Dy l.toNat (I8 v.cells.toList)).length=_
   rw[En,V,b]
  ·exact Zb j _ _ (by rw[e1];exact Aco _ (by omega))
 ·simp at e
theorem Yield.src {sz n:Nat} {tx:TypeId} {vx:Value} {b:List Value} (Y:Yield P w sz vx n b) (d:jV P tx=true) (j:∀ u ∈ b,u.oneCell'=true):Src P sz tx vx n b w:=by
 refine⟨?_,Y.len,?_,?_,Y.length,j⟩
 ·unfold jV at d
  split at d
  ·rename_i e i;exact .inl ⟨e,i⟩
  ·rename_i i;exact .inr i
  ·simp at d
 ·have:=Y.cells w n (fun _=>rfl) (Ab3 _)
  rwa [←Y.length,Ady] at this
 ·have:=Y.cells w.drew n (fun _=>rfl) (Ab3 _)
  rwa [←Y.length,Ady] at this
theorem ja {J:Nat→Prop} {a b:LA} {i vs:List Value} (m:RepCs J w a (fun j=>i[j]?) 0) (q:RepCs J w b (fun j=>vs[j]?) 0) (s:a.length=i.length) (tail:List Value) :
  RepCs J w (a++b) (fun j=>(i++vs++tail)[j]?) 0:=by
 rw[Bg]
 intro j x d
 rw[Acr] at d
 simp only[Ab8]
 by_cases k:j<a.length
 ·rw[if_pos k] at d
  obtain⟨u,e,hr⟩:=m.at d
  refine⟨u,?_,hr⟩
  rw[Ads,Acr,if_pos (by omega)];exact e
 ·rw[if_neg k] at d
  obtain⟨u,e,hr⟩:=q.at d
  refine⟨u,?_,hr⟩
  have v:j - a.length<vs.length:=(Ab7.1 e).1
  rw[Ads,Acr,if_neg (by omega),Acr,if_pos (by omega),←s];exact e
theorem Zc (w:World) (k:Nat):Ar w.drew k=Ar w k:=rfl
theorem aS {d sz n1 n2 cap0:Nat} {t tx ty b:TypeId} {i:TypeInfo} {z vx:Value} {A:Option Addr} {olds news:List Value} {c1 c2:LA} {o:Bool} (S:SimH J β h w) (hn:Ag h (nid d)=none)
  (K:P.underlying t=some (.slice b)) (hi:P.info? b=some i) (L:i.zero=some z) (C:i.size=sz) (D:z.cells.size=sz)
  (e:∀ w':World,(∀ a,w'.cell? a=w.cell? a)→(Builtin.firstCells sz n1 (.slice A n1 cap0)).run P w'=.ok olds.toArray w') (s:olds.length=n1*sz)
  (Y:Yield P w sz vx n2 news) (M:jV P tx=true) (O:∀ u ∈ news,u.oneCell'=true)
  (T:RepCs (J o) w c1 (fun j=>olds[j]?) 0) (v:c1.length=olds.length) (U:RepCs (J o) w c2 (fun j=>news[j]?) 0) (F:c2.length=news.length)
  (I:cap0<n1+n2) (V:n1+n2≤140737488355328) (G:(n1+n2)*i.bytes≤140737488355328) {X:Option (Nat×Nat)} (hX:∀ q,X=some q→q=(b,0)) :
  ∃ u w',(Builtin.append_ #[t,tx] ty #[.slice A n1 cap0,vx]).run P w=.ok u w' ∧
   OpDone J β h w [(nid d,some { dead:=false,sealed:=false,pure:=true,taint:=o,sz:=sz,cells:=c1++c2,ty:=X })] (.own (nid d) 0 (n1+n2)) u w'∧(∀ k,Ar w k≤Ar w' k):=by
 subst C
 have run:=run_append_grow_src (P:=P) w t tx ty b i z K hi L A n1 cap0 olds (e w.drew (fun _=>rfl)) vx n2 news (Y.src M O) I (by omega) (growslice_fits I G)
 have y:n1+n2≤grownCap w (n1+n2) cap0 b:=by
  unfold grownCap;simp[Question.cut]
 refine⟨_,_,run,?_,?_⟩
 ·obtain⟨J',β',B1,B2⟩:=MN (d:=d) (n:=n1+n2) (cap:=grownCap w (n1+n2) cap0 b) (sz:=i.size) (ty:=b) (fr:=(0,0)) (x:={ dead:=false,sealed:=false,pure:=true,taint:=o,sz:=i.size,cells:=c1++c2,ty:=X })
   (cs:=(olds++news).toArray++Builtin.zeroCells z.cells (grownCap w (n1+n2) cap0 b - (n1+n2))) (Step.drew S).sim hn rfl rfl rfl ⟨.inl rfl,fun t m hm=>by have:=hX _ hm;simp at this;exact⟨this.1.symm,rfl,.inl this.2⟩⟩
   (by simp[v,F,s,Y.length,Ad8]) (by
    simp[Builtin.zeroCells,s,Y.length,D]
    rw[←Ad8,←Ad8];exact Aco _ (by omega)) y
   ⟨fun _=>by
    have:=ja T U v (Builtin.zeroCells z.cells (grownCap w (n1+n2) cap0 b - (n1+n2))).toList
    show RepCs (J o) w.drew (c1++c2) _ 0
    refine RepCs.keep (J:=J o) (w:=w) (w':=w.drew) (fun _ hj=>hj) (fun _ _=>rfl) (fun j=>?_) this
    rw[←Afw]
    simp,fun hp=>by simp at hp⟩
  exact⟨J',β',(Step.drew S).trans B1 (fun _ k _ _=>by rw[←Zc];exact Mk _ _ k),B2⟩
 ·intro k;rw[←Zc];exact Mk _ _ k
theorem GJ {J:Bool→Nat→Prop} (e:∀ k,J false k→J true k) (a b:Bool) (k:Nat) (d:J a k):J (a||b) k:=by
 cases a
 ·cases b
  ·exact d
  ·exact e k d
 ·exact d
theorem aT {J:Bool→Nat→Prop} (d:∀ k,J false k→J true k) (a b:Bool) (k:Nat) (e:J b k):J (a||b) k:=by rw[Afr];exact GJ d b a k e
theorem lk {d sz:Nat} {x:Blk} {A:Option Addr} (S:SimH J β h w) (hn:Ag h (nid d)=none) (e:x.cells=[]) (b:x.mp=false:=by rfl) :
  OpDone J β h w [(nid d,some x)] (.own (nid d) 0 0) (.slice A 0 0) w:=by
 refine⟨_,_,Step.newNone S hn e b,?_⟩
 rw[Rep]
 exact⟨x,A,0,⟨by simp[Ah,Ac],b⟩,rfl,Ab3 _,.inl rfl⟩
theorem ll {g:A6} {b tx:TypeId} {s:AV} {q:Nat×Nat} (h:UR P g b tx s=some q):q=(b,0):=by
 unfold UR at h
 split at h
 ·split at h
  ·simp at h;exact h.symm
  ·cases h
 ·obtain⟨x,_,h⟩:=ub h
  obtain⟨y,_,h⟩:=ub h
  obtain⟨_,h⟩:=uc h
  simp at h;exact h.symm
 ·cases h
theorem tX {g:A6} {i tx b off n o m:Nat} {ty:TypeId} {y:Blk} (j:Em g b=some y) (s:TyOk y.ty ty o m):TyOk (UR P g i tx (.own b off n)) ty (o+off) m:=by
 intro t k h
 have e:=ll h
 simp at e;obtain⟨rfl,rfl⟩:=e
 unfold UR at h
 simp only[j,Acn] at h
 obtain⟨q,hq,h⟩:=ub h
 obtain⟨d,_⟩:=uc h
 simp only[Ab6] at d
 have c1:=Ab5 d.1
 have c2:=Ab5 d.2.1
 have c3:=Ab5 d.2.2
 obtain⟨u,v,_⟩:=s q.1 q.2 hq
 exact⟨by rw[u,c1],by omega,.inl rfl⟩
theorem f6 {d:Nat} {t tx ty:TypeId} {s x:AV} {vs vx:Value} {k:AV→Do→O R} (S:SimH J β h w) (hl:Looks g h) (hh:GD P g d t tx s x k=some r) (hs:Rep J β h w s vs) (hx:Rep J β h w x vx) :
  ∃ val ups,k val ups=some r∧(UpsFree d h ups→∃ u w',(Builtin.append_ #[t,tx] ty #[vs,vx]).run P w=.ok u w'∧OpDone J β h w ups val u w'):=by
 unfold GD at hh
 split at hh
 ·rename_i el hu
  obtain⟨ht,h0⟩:=uc hh
  obtain⟨sz,hsz,h1⟩:=ub h0
  obtain⟨by_,hby,h2⟩:=ub h1
  obtain⟨zz,hz,h3⟩:=ub h2
  obtain⟨old,C,h4⟩:=ub h3
  obtain⟨new,us,h5,Y,F,hur⟩:=Y8 (P:=P) S hl h4 hx
  obtain⟨hq,h6⟩:=uc h5
  simp at hq
  obtain⟨q1,q2⟩:=hq
  obtain⟨i,z,hi,hiz,rfl,hp,e1,e2⟩:=Ov hz
  have m:i.size=sz:=by simp[Bh,hi] at hsz;exact hsz
  have hb':i.bytes=by_:=by simp[jO,hi] at hby;exact hby
  have D:=RepCs.one hur F.symm
  have L:RepCs (J (old.2.2.1||new.2.2)) w new.1 (fun j=>us[j]?) 0:=RepCs.keep (J:=J new.2.2) (w:=w) (aT S.jft _ _) (fun _ _=>rfl) (fun _=>rfl) hur
  refine⟨_,_,h6,fun hn=>?_⟩
  replace hn:=hn.nid (by simp[F6,A3])
  have hX:∀ q,UR P g el tx s=some q→q=(el,0):=fun q=>ll
  have empty:∀ (A:Option Addr),vs=.slice A 0 0→old.1=[]→old.2.1=0→old.2.2.2=[] →
    ∃ u w',(Builtin.append_ #[t,tx] ty #[vs,vx]).run P w=.ok u w'∧OpDone J β h w (old.2.2.2++[(nid d,some { dead:=false,sealed:=false,pure:=true,taint:=old.2.2.1||new.2.2,sz,cells:=old.1++new.1,ty:=UR P g el tx s })]) (.own (nid d) 0 (old.2.1+new.2.1)) u w':=by
   intro A hA o1 o2 o3
   subst hA
   rw[o1,o2,o3]
   rcases Adk new.2.1 with h0 | h0
   ·have hus:us=[]:=by have:=Y.length;rw[h0] at this;simpa using this
    subst hus
    have G:=Y.src ht D
    rw[h0] at G
    refine⟨_,_,run_append_nothing (P:=P) w t tx ty el i hu hi A 0 0 (Ab3 _) vx (by rw[m];exact G),?_⟩
    rw[h0]
    have hnc:new.1=[]:=by simpa using F
    exact lk (sz:=sz) S hn (by simp[hnc])
   ·obtain⟨u,w',V,g2,_⟩:=aS (ty:=ty) (c1:=[]) (olds:=[]) (n1:=0) (cap0:=0) (A:=A) S hn hu hi hiz m (by rw[e1,m]) (fun w' _=>by
      cases A with
      | none=>exact run_firstCells_none (P:=P) w' sz 0 0 0
      | some a=>exact run_firstCells_some (P:=P) w' sz 0 a 0 0 [] (by simp) (fun j v M=>by simp at M)) (by simp) Y ht D (by simp[RepCs]) rfl L F (by omega) (by rw[o2] at q1;omega) (by rw[o2,←hb'] at q2;exact q2) hX
    exact⟨u,w',V,g2⟩
  unfold qo at C
  split at C
  ·simp at C;subst C
   rw[Rep] at hs
   exact empty none hs rfl rfl rfl
  ·rename_i c n sz' org
   obtain⟨hz0,h7⟩:=uc C
   simp at hz0 h7;subst hz0;subst h7
   rw[Rep,RepC] at hs
   obtain⟨_,A,cap,M,_,X,_⟩:=hs
   have:=X rfl;subst this
   exact empty A M rfl rfl rfl
  ·rename_i b off n
   obtain⟨y,hy,h7⟩:=ub C
   obtain⟨hc,h8⟩:=uc h7
   simp at hc h8
   obtain⟨c1,c2,c3⟩:=hc
   subst h8;subst c3
   obtain⟨hb,hd⟩:=Co hl hy
   simp only at *
   rw[Rep] at hs
   obtain⟨y',A,cap,⟨hy1,hmp⟩,rfl,X,hr⟩:=hs
   rw[hb] at hy1;simp at hy1;subst hy1
   have kill:=Step.kill (y:={ y with dead:=true,pure:=true,cells:=[] }) S hb rfl
   have hkn:Ag (Dd h b { y with dead:=true,pure:=true,cells:=[] }) (nid d)=none:=by
    rw[Ac,if_neg (fun e=>by rw[←e,hn] at hb;cases hb)];exact hn
   have I:Ah [(b,none)] h=Dd h b { y with dead:=true,pure:=true,cells:=[] }:=by simp[Ah,hb]
   by_cases hc0:cap=0
   ·have hn0:n=0:=by omega
    subst hc0;subst hn0
    have S':=kill.sim
    rcases Adk new.2.1 with h0 | h0
    ·have hus:us=[]:=by have:=Y.length;rw[h0] at this;simpa using this
     subst hus
     have G:=Y.src ht D
     rw[h0] at G
     refine⟨_,_,run_append_nothing (P:=P) w t tx ty el i hu hi A 0 0 (Ab3 _) vx (by rw[m];exact G),?_⟩
     rw[h0]
     have hnc:new.1=[]:=by simpa using F
     refine OpDone.after (ups:=[(b,none)]) (by rw[I];exact kill) ?_ (fun _=>Ab3 _)
     rw[I]
     exact lk (sz:=y.sz) S' hkn (by simp[hnc])
    ·obtain⟨u,w',V,g2,g3⟩:=aS (ty:=ty) (c1:=[]) (olds:=[]) (n1:=0) (cap0:=0) (A:=A) S' hkn hu hi hiz m (by rw[e1,m]) (fun w' _=>by
       cases A with
       | none=>exact run_firstCells_none (P:=P) w' y.sz 0 0 0
       | some a=>exact run_firstCells_some (P:=P) w' y.sz 0 a 0 0 [] (by simp) (fun j v M=>by simp at M)) (by simp) Y ht D (by simp[RepCs]) rfl L F (by omega) (by omega) (by rw[←hb'] at q2;exact q2) hX
     refine⟨u,w',V,OpDone.after (ups:=[(b,none)]) (by rw[I];exact kill) ?_ g3⟩
     rw[I];simpa[Nc] using g2
   ·rcases hr with hr | ⟨kk,o,rfl,hr⟩
    ·exact absurd hr hc0
    ·rcases hr with hr | ⟨r1,r2,r3⟩
     ·simp[hd] at hr
     ·rcases S.blk b y hb hd hmp with⟨hn',_⟩ | ⟨k',o',cs,ty',fr,hβ',V,g2,g3,g4,g5,g6⟩
      ·rw[r1] at hn';simp at hn'
      ·rw[r1] at hβ';simp at hβ';obtain⟨rfl,rfl⟩:=hβ'
       have hbs:=Cd V
       have T:=((g4.1 c1).drop off).take (n*y.sz)
       have U:((y.cells.drop off).take (n*y.sz)).length=n*y.sz:=by simp;omega
       by_cases K:n+new.2.1≤cap
       ·
        have hle:(n+new.2.1)*y.sz≤cap*y.sz:=Aco _ K
        rw[Ad8] at hle
        have run:=run_append_room_src (P:=P) w t tx ty el i hu hi kk (o+off) n cap vx new.2.1 us (by rw[m];exact Y.src ht D) K (fun j hj=>by
          rw[m,Li V];have:=Y.length;simp;omega) (fun j hj=>by
          rw[m];simp only[World.frozen?,V]
          have h9:=Y.length
          have:=g2.1.at (o+off+n*y.sz+j) (by omega)
          cases fr;simp at this ⊢;omega)
        rw[m] at run
        obtain⟨cs',O,hO⟩:=OnlyBlk.setCells (k:=kk) us (o+off+n*y.sz) w cs V
        have h9:=Y.length
        have B:=Step.move (y:={ y with dead:=true,pure:=true,cells:=[] }) (o':=o+off) (x':={ dead:=false,sealed:=false,pure:=true,taint:=y.taint||new.2.2,sz:=y.sz,cells:=(y.cells.drop off).take (n*y.sz)++new.1,ty:=UR P g el tx (.own b off n) }) S hb hd c2 r1 hn rfl O rfl rfl
         (by rw[Ab4,U,F];omega) ⟨fun _=>by
          show RepCs (J (y.taint||new.2.2)) w ((y.cells.drop off).take (n*y.sz)++new.1) _ 0
          rw[Bg]
          intro j q hj
          rw[Acr,U] at hj
          simp only[Ab8]
          by_cases hjn:j<n*y.sz
          ·rw[if_pos hjn] at hj
           obtain⟨v,M,hvr⟩:=T.at hj
           refine⟨v,?_,RepC.keep (J:=J y.taint) (w:=w) (GJ S.jft _ _) (fun _ _=>rfl) hvr⟩
           rw[hO,if_neg (by omega),Acx];exact M
          ·rw[if_neg hjn] at hj
           obtain⟨v,M,hvr⟩:=L.at hj
           refine⟨v,?_,hvr⟩
           have:j - n*y.sz<us.length:=(Ab7.1 M).1
           rw[hO,if_pos (by omega),←M];congr 1;omega,fun hp=>by simp at hp⟩ hmp (hty:=tX (P:=P) (tx:=tx) (n:=n) hy g2.2)
        refine⟨_,_,run,J,(fun b=>if b=nid d then some (kk,o+off) else β b),?_,?_⟩
        ·rw[B0,I];exact B
        ·rw[B0,I,Rep]
         refine⟨_,_,cap,⟨by simp[Nc,Ah,Ac];rfl,rfl⟩,rfl,K,.inr ⟨kk,o+off,rfl,.inr ⟨by simp,?_,?_⟩⟩⟩
         ·rw[Cd O.new,O.sz];simp;omega
         ·simp only[Ab4,U,F,h9,Ab8];rw[Ad8];exact Ab3 _
       ·
        obtain⟨olds,l1,l2,l3⟩:=T.list
        obtain⟨u,w',g1',g2',g3'⟩:=aS (ty:=ty) (c1:=(y.cells.drop off).take (n*y.sz)) (olds:=olds) (n1:=n) (cap0:=cap) (A:=some ⟨kk,o+off,none⟩) kill.sim hkn hu hi hiz m (by rw[e1,m]) (fun w' he =>
          run_firstCells_some (P:=P) w' y.sz n _ n cap olds (by rw[l1,U]) (fun j v M=>by
           rw[he,Addr.add_mid,Li V,Acx];exact l2 j v M)) (by rw[l1,U]) Y ht D
          (RepCs.keep (J:=J y.taint) (w:=w) (GJ S.jft _ _) (fun _ _=>rfl) (fun _=>rfl) l3) l1.symm L F (by omega) (by omega) (by rw[←hb'] at q2;exact q2) hX
        refine⟨u,w',g1',OpDone.after (ups:=[(b,none)]) (by rw[I];exact kill) ?_ g3'⟩
        rw[I];exact g2'
  ·simp at C
 ·simp at hh
end
end Gx
namespace Gx
open Go
section
variable {R:Type} {r:R} {P:Program} {J J':Bool→Nat→Prop} {β:Bu} {h:Ao} {w w':World} {g:A6}
theorem Step.retaint (S:SimH J β h w) {d:Nat} {x:Blk} (G:Ag h d=some x) (D:x.dead=false) (hs:x.sealed=false) (hp:x.pure=true) (F:x.mp=false) (o:Bool) :
  Step J β h w J β (Dd h d { x with taint:=x.taint||o }) w:=by
 have E:Ext J β h w J β (Dd h d { x with taint:=x.taint||o }) w:=by
  refine⟨fun _ _ A=>A,fun o k A=>rfl,fun b z i=>?_,fun b k o C=>Ab3 _⟩
  by_cases e:b=d
  ·subst e;rw[G] at i;simp at i;subst i
   exact⟨{ x with taint:=x.taint||o },⟨by rw[Ac,if_pos rfl],rfl⟩,.inr ⟨D,rfl,rfl,fun _=>rfl⟩⟩
  ·refine⟨z,⟨by rw[Ac,if_neg e];exact i,rfl⟩,?_⟩
   cases D:z.dead
   ·exact .inr ⟨rfl,rfl,rfl,fun _=>rfl⟩
   ·exact .inl rfl
 refine⟨E,⟨S.jlt,S.jft,S.gl.ext E,fun b z i j I=>?_,fun b z i j I=>by
   rw[Ac] at i
   by_cases e:b=d
   ·rw[if_pos e] at i;simp at i;subst i;simp[F] at I
   ·rw[if_neg e] at i
    exact(S.mblk b z i j I).keep rfl (fun k o C=>rfl) (fun _ _ _ _ A=>A),?_⟩,rfl,rfl,rfl,Ab3 _,fun k hk _=>rfl,?_,fun _ _ A=>.inl A⟩
 ·rw[Ac] at i
  by_cases e:b=d
  ·rw[if_pos e] at i;simp at i;subst i;subst e
   rcases S.blk b x G D F with m | ⟨k,o',q,s,u,m,K,L,M,O,T,h7⟩
   ·exact .inl m
   ·refine .inr ⟨k,o',q,s,u,m,K,L,M,CellsRep.ext E ⟨fun _=>?_,fun U=>?_⟩,fun _=>T hs,fun U=>by simp[hs] at U⟩
    ·exact RepCs.keep (J:=J x.taint) (w:=w) (GJ S.jft _ _) (fun _ _=>rfl) (fun _=>rfl) (O.1 hp)
    ·simp[hp] at U
  ·rw[if_neg e] at i
   rcases S.blk b z i j I with m | ⟨k,o,q,s,u,m,K,L,M,O,T,h7⟩
   ·exact .inl m
   ·exact .inr ⟨k,o,q,s,u,m,K,L,M,O.ext E,T,h7⟩
 ·intro b b' z z' k oo V i X Y hd2 v C hβ'
  have get:∀ {c y},Ag (Dd h d { x with taint:=x.taint||o }) c=some y→y.dead=false→∃ y',Ag h c=some y'∧y'.dead=false∧(y.sealed=false→y'.sealed=false):=by
   intro c y hc hyd
   rw[Ac] at hc
   by_cases e:c=d
   ·subst e;exact⟨x,G,D,fun _=>hs⟩
   ·rw[if_neg e] at hc;exact⟨y,hc,hyd,id⟩
  obtain⟨y1,g1,g2,g3⟩:=get i Y
  obtain⟨y2,g4,g5,g6⟩:=get X hd2
  exact S.sep b b' y1 y2 k oo V g1 g4 g2 g5 (g3 v) C hβ'
 ·rintro k ⟨b,z,o,i,j,v,C⟩ hk
  rw[Ac] at i
  by_cases e:b=d
  ·subst e;exact⟨b,x,o,G,D,hs,C⟩
  ·rw[if_neg e] at i
   exact⟨b,z,o,i,j,v,C⟩
theorem aU (c:LA) (off:Nat):Cy c off []=c:=by simp[Cy]
theorem U_ {d:IntKind}:∀ (n:Nat) (c:LA) (k:LA→O R),KN d n c k=some r→∃ vs,k vs=some r∧vs.length=n∧∀ (j:Nat) (v:AV),vs[j]?=some v→(∃ i,v=.int d i)∧c[j]?=some v
 | 0,_,k,h=>⟨[],h,rfl,by simp⟩
 | n+1,c,k,h=>by
  rw[KN] at h
  obtain⟨x,q,h⟩:=ub h
  obtain⟨i,hi,h⟩:=ub h
  obtain⟨vs,s,u,y⟩:=U_ n _ _ h
  refine⟨_,s,by simp[u],fun j v b=>?_⟩
  cases j with
  | zero =>
   simp at b;subst b
   refine⟨⟨_,rfl⟩,?_⟩
   rw[←Acm,q]
   unfold CU at hi
   split at hi
   ·obtain⟨e,hn⟩:=uc hi
    simp[Jp] at e hn;subst e;subst hn;rfl
   ·cases hi
  | succ j =>
   simp at b
   obtain⟨z,m⟩:=y j v b
   refine⟨z,?_⟩
   rw[Ac2] at m
   rw[←m,Afo]
theorem jb {t tx ty U sz b off n:TypeId} {y:Blk} {q:LA×Nat×Bool} {z:List Value} {vs vx:Value} {k:AV→Do→O R} (S:SimH J β h w) (V:P.underlying t=some (.slice U)) (X:Bh P U=some sz) (hb:Ag h b=some y) (M:y.dead=false)
  (T:RN P U sz b off n y q k=some r) (hs:Rep J β h w (.own b off n) vs) (Y:Yield P w sz vx q.2.1 z) (hul:q.1.length=z.length) (D:RepCs (J q.2.2) w q.1 (fun j=>z[j]?) 0) :
  ∃ val ups,k val ups=some r∧∃ u w',(Builtin.copy_ #[t,tx] ty #[vs,vx]).run P w=.ok u w'∧OpDone J β h w ups val u w':=by
 unfold RN at T
 split at T
 ·rename_i kd hk
  obtain⟨hc,h1⟩:=uc T
  simp at hc
  obtain⟨c0,c1,c2,c3,c4,c5,c6⟩:=hc
  subst c0
  obtain⟨ws,h2,hw,hws⟩:=U_ _ _ _ h1
  have F:=RepCs.one D hul.symm
  refine⟨_,_,h2,?_⟩
  rw[Rep] at hs
  obtain⟨y',A,cap,⟨e,G⟩,rfl,hcap,hr⟩:=hs
  rw[hb] at e;simp at e;subst e
  have hm:Nat.min q.2.1 n=n:=Nat.min_eq_right c5
  have d:=Y.cells w n (fun _=>rfl) c5
  have I:=Y.len w
  rcases hr with hr | ⟨kk,o,rfl,hr⟩
  ·omega
  ·rcases hr with hr | ⟨r1,r2,r3⟩
   ·simp[M] at hr
   ·rcases S.blk b y hb M G with⟨K,_⟩ | ⟨k',o',cs,ty',fr,m,g1,g2,g3,g4,g5,g6⟩
    ·rw[r1] at K;simp at K
    ·rw[r1] at m;simp at m;obtain⟨rfl,rfl⟩:=m
     have hul':=Y.length
     have htl:(z.take (n*1)).length=n:=by rw[Ac7];omega
     obtain⟨L,O,hO⟩:=OnlyBlk.setCells (k:=kk) (z.take (n*1)) (o+off) w cs g1
     have s:=run_storeCells_cells (P:=P) kk (o+off) (z.take (n*1)) 0 w (fun j C=>by
       rw[Ac4,Li g1];simp;omega)
      (fun j C=>by
       rw[Ac4];simp only[World.frozen?,g1]
       have:=g2.1.at (o+off+j) (by omega)
       cases fr;simp at this ⊢;omega) (fun u V=>F u (Aez V))
     simp only[Ac4] at s
     have B:=Step.set (x':={ y with cells:=Cy y.cells off ws }) S hb M c3 r1 O M c3 rfl (Lj (by omega)) ⟨fun hp=>by simp[c4] at hp,fun _=>by
      intro j x C
      rw[Tv (by omega),hw] at C
      split at C
      ·obtain⟨⟨i,rfl⟩,h5⟩:=hws _ _ C
       obtain⟨u,v,hr⟩:=D.at h5
       refine⟨u,?_,?_,?_⟩
       ·show L[o+j]?=some u
        rw[hO,if_pos (by omega),Ac9,if_pos (by omega),←v];congr 1;omega
       ·rw[RepC] at hr;rw[Rep];exact hr
       ·rw[RepC] at hr;rw[hr];rfl
      ·obtain⟨u,v,hr⟩:=g4.2 c4 j x C
       refine⟨u,?_,hr⟩
       show L[o+j]?=some u
       rw[hO,if_neg (by omega)];exact v⟩ G
     refine⟨.int .i64 (n:Nat),_,?_,J,β,B,by rw[Rep]⟩
     simp only[Acf] at s
     simp[Builtin.copy_,run_underlying V,I,B5 X,hm,d,goInt,s]
 ·cases T
theorem lm {t tx ty:TypeId} {s x:AV} {vs vx:Value} {k:AV→Do→O R} (S:SimH J β h w) (hl:Looks g h) (X:hZ P g t s x k=some r) (hs:Rep J β h w s vs) (hx:Rep J β h w x vx) :
  ∃ val ups,k val ups=some r∧∃ u w',(Builtin.copy_ #[t,tx] ty #[vs,vx]).run P w=.ok u w'∧OpDone J β h w ups val u w':=by
 unfold hZ at X
 split at X
 ·rename_i el b off n C
  obtain⟨sz,v,h1⟩:=ub X
  obtain⟨y,hy,h2⟩:=ub h1
  obtain⟨new,us,h3,Y,D,z⟩:=Y8 (P:=P) S hl h2 hx
  obtain⟨hb,U⟩:=Co hl hy
  cases F:(y.pure&&(!y.sealed&&beq sz y.sz)) with
  | false=>rw[F] at h3;exact jb S C v hb U h3 hs Y D z
  | true =>
  rw[F] at h3
  have h4:=h3
  simp only[cond_true] at h4
  have hc:=F
  simp at hc
  obtain⟨c1,c2,c3⟩:=hc
  subst c3
  have hone:=RepCs.one z D.symm
  refine⟨_,_,h4,?_⟩
  rw[Rep] at hs
  obtain⟨y',A,cap,⟨G,I⟩,rfl,hcap,hr⟩:=hs
  rw[hb] at G;simp at G;subst G
  have hm:Nat.min new.2.1 n≤new.2.1:=Nat.min_le_left _ _
  have d:=Y.cells w (Nat.min new.2.1 n) (fun _=>rfl) hm
  have i:=Y.len w
  by_cases K:Nat.min new.2.1 n*y.sz=0
  ·
   refine⟨.int .i64 (Nat.min new.2.1 n:Nat),w,?_,J,β,?_,by rw[Rep]⟩
   ·have e:us.take (Nat.min new.2.1 n*y.sz)=[]:=by rw[K];rfl
    rw[e] at d
    cases A with
    | none=>simp[Builtin.copy_,run_underlying C,i,B5 v,d,goInt]
    | some a=>simp[Builtin.copy_,run_underlying C,i,B5 v,d,goInt,storeCells]
   ·have e:(new.1.take (min new.2.1 n*y.sz))=[]:=by
     have:min new.2.1 n*y.sz=0:=K
     rw[this];rfl
    have T:=Step.retaint S hb U c2 c1 I new.2.2
    simp only[Ah]
    rw[e,aU]
    exact T
  ·rcases hr with hr | ⟨kk,o,rfl,hr⟩
   ·have:n=0:=by omega
    subst this;simp at K
   ·rcases hr with hr | ⟨r1,r2,r3⟩
    ·simp[U] at hr
    ·rcases S.blk b y hb U I with⟨hn',_⟩ | ⟨k',o',cs,ty',fr,L,g1,g2,g3,g4,g5,g6⟩
     ·rw[r1] at hn';simp at hn'
     ·rw[r1] at L;simp at L;obtain⟨rfl,rfl⟩:=L
      have hle1:Nat.min new.2.1 n*y.sz≤new.2.1*y.sz:=Aco _ hm
      have hle2:Nat.min new.2.1 n*y.sz≤n*y.sz:=Aco _ (Nat.min_le_right _ _)
      have hul':=Y.length
      have htl:(us.take (Nat.min new.2.1 n*y.sz)).length=Nat.min new.2.1 n*y.sz:=by rw[Ac7];omega
      have htl':(new.1.take (Nat.min new.2.1 n*y.sz)).length=Nat.min new.2.1 n*y.sz:=by rw[Ac7];omega
      obtain⟨cs',O,hO⟩:=OnlyBlk.setCells (k:=kk) (us.take (Nat.min new.2.1 n*y.sz)) (o+off) w cs g1
      have hst:=run_storeCells_cells (P:=P) kk (o+off) (us.take (Nat.min new.2.1 n*y.sz)) 0 w (fun j V=>by
        rw[Ac4,Li g1];simp;omega)
       (fun j V=>by
        rw[Ac4];simp only[World.frozen?,g1]
        have:=g2.1.at (o+off+j) (by omega)
        cases fr;simp at this ⊢;omega) (fun u C=>hone u (Aez C))
      simp only[Ac4] at hst
      have B:=Step.set (x':={ y with cells:=Cy y.cells off (new.1.take (Nat.min new.2.1 n*y.sz)),taint:=y.taint||new.2.2 }) S hb U c2 r1 O U c2 rfl (Lj (by omega)) ⟨fun _=>by
       show RepCs (J (y.taint||new.2.2)) w (Cy y.cells off (new.1.take (Nat.min new.2.1 n*y.sz))) _ 0
       rw[Bg]
       intro j q V
       rw[Tv (by omega),htl'] at V
       simp only[Ab8]
       split at V
       ·obtain⟨u,M,hr⟩:=(z.take _).at V
        refine⟨u,?_,RepC.keep (J:=J new.2.2) (w:=w) (aT S.jft _ _) (fun _ _=>rfl) hr⟩
        rw[hO,if_pos (by omega),Ac9,if_pos (by omega),←M];congr 1;omega
       ·obtain⟨u,M,hr⟩:=(g4.1 c1).at V
        refine⟨u,?_,RepC.keep (J:=J y.taint) (w:=w) (GJ S.jft _ _) (fun _ _=>rfl) hr⟩
        rw[hO,if_neg (by omega)];exact M,fun hp=>by simp[c1] at hp⟩ I
      refine⟨.int .i64 (Nat.min new.2.1 n:Nat),_,?_,J,β,B,by rw[Rep]⟩
      simp[Builtin.copy_,run_underlying C,i,B5 v,d,goInt,hst]
 ·rename_i el C
  obtain⟨sz,v,h1⟩:=ub X
  obtain⟨new,us,h2,Y,D,z⟩:=Y8 (P:=P) S hl h1 hx
  rw[Rep] at hs;subst hs
  have i:=Y.len w
  have d:=Y.cells w 0 (fun _=>rfl) (Ae0 _)
  simp at d
  refine⟨_,_,h2,.int .i64 0,w,?_,J,β,Step.refl S,by rw[Rep]⟩
  have hm:∀ m:Nat,Nat.min m 0=0:=fun m=>Nat.min_eq_right (Ae0 _)
  simp[Builtin.copy_,run_underlying C,i,B5 v,hm,d,goInt]
 ·simp at X
theorem jc {t ty:TypeId} {s:AV} {vs:Value} {k:AV→Do→O R} (S:SimH J β h w) (hl:Looks g h) (hh:RO P g t s k=some r) (hs:Rep J β h w s vs) :
  ∃ val ups,k val ups=some r∧∃ u w',(Builtin.clear_ #[t] ty #[vs]).run P w=.ok u w'∧OpDone J β h w ups val u w':=by
 unfold RO at hh
 split at hh
 ·rename_i el b off n I
  obtain⟨sz,L,h1⟩:=ub hh
  obtain⟨z,hz,h2⟩:=ub h1
  obtain⟨y,hy,h3⟩:=ub h2
  obtain⟨hc,h4⟩:=uc h3
  simp at hc
  obtain⟨c1,c2,c3⟩:=hc
  subst c3
  obtain⟨hb,M⟩:=Co hl hy
  obtain⟨i,v,hi,hv,rfl,hp,e1,e2⟩:=Ov hz
  have U:i.size=y.sz:=by simp[Bh,hi] at L;exact L
  have V:∀ w,(zeroValue el).run P w=.ok v w:=fun w=>by simp[zeroValue,typeInfo,hi,hv]
  have d:=En n (I8 v.cells.toList)
  rw[e2,U] at d
  have X:Builtin.zeroCells v.cells n=madeCells v.cells (n*v.cells.size):=rfl
  have Y:(Builtin.zeroCells v.cells n).toList.length=n*y.sz:=by rw[X,Aef,size_madeCells,e1,U]
  have hur:RepCs (J y.taint) w (Dy n (I8 v.cells.toList)) (fun j=>(Builtin.zeroCells v.cells n).toList[j]?) 0:=by
   have:=Zb (J:=J y.taint) (w:=w) hp n (n*v.cells.size) (Ab3 _)
   rw[←X] at this
   simpa using this
  have hone:=RepCs.one hur (by rw[Y,d])
  refine⟨_,_,h4,?_⟩
  rw[Rep] at hs
  obtain⟨y',A,cap,⟨C,D⟩,rfl,hcap,hr⟩:=hs
  rw[hb] at C;simp at C;subst C
  by_cases m:n*y.sz=0
  ·have e0:(Builtin.zeroCells v.cells n).toList=[]:=Adq (by rw[Y,m])
   refine⟨.tuple #[],w,?_,J,β,?_,by rw[Rep];exact⟨[],rfl,by rw[Reps]⟩⟩
   ·cases n with
    | zero=>cases A<;>simp[Builtin.clear_,run_underlying I]
    | succ n =>
     cases A with
     | none=>simp[Builtin.clear_,run_underlying I]
     | some a=>simp[Builtin.clear_,run_underlying I,V,e0,storeCells]
   ·have e:Dy n (I8 v.cells.toList)=[]:=Adq (by rw[d,m])
    have T:=Step.retaint S hb M c2 c1 D false
    simp only[Ah]
    rw[e,aU]
    simpa using T
  ·rcases hr with hr | ⟨kk,o,rfl,hr⟩
   ·have:n=0:=by omega
    subst this;simp at m
   ·rcases hr with hr | ⟨r1,r2,r3⟩
    ·simp[M] at hr
    ·rcases S.blk b y hb M D with⟨hn',_⟩ | ⟨k',o',cs,ty',fr,F,g1,g2,g3,g4,g5,g6⟩
     ·rw[r1] at hn';simp at hn'
     ·rw[r1] at F;simp at F;obtain⟨rfl,rfl⟩:=F
      obtain⟨cs',O,hO⟩:=OnlyBlk.setCells (k:=kk) (Builtin.zeroCells v.cells n).toList (o+off) w cs g1
      have hst:=run_storeCells_cells (P:=P) kk (o+off) (Builtin.zeroCells v.cells n).toList 0 w (fun j K=>by
        rw[Ac4,Li g1];simp;omega)
       (fun j K=>by
        rw[Ac4];simp only[World.frozen?,g1]
        have:=g2.1.at (o+off+j) (by omega)
        cases fr;simp at this ⊢;omega) (fun u I=>hone u I)
      simp only[Ac4] at hst
      have B:=Step.set (x':={ y with cells:=Cy y.cells off (Dy n (I8 v.cells.toList)) }) S hb M c2 r1 O M c2 rfl (Lj (by omega)) ⟨fun _=>by
       show RepCs (J y.taint) w (Cy y.cells off (Dy n (I8 v.cells.toList))) _ 0
       rw[Bg]
       intro j q K
       rw[Tv (by omega),d] at K
       simp only[Ab8]
       split at K
       ·obtain⟨u,G,hr⟩:=hur.at K
        refine⟨u,?_,hr⟩
        rw[hO,if_pos (by omega),←G];congr 1;omega
       ·obtain⟨u,G,hr⟩:=(g4.1 c1).at K
        refine⟨u,?_,hr⟩
        rw[hO,if_neg (by omega)];exact G,fun hp=>by simp[c1] at hp⟩ D
      refine⟨.tuple #[],_,?_,J,β,B,by rw[Rep];exact⟨[],rfl,by rw[Reps]⟩⟩
      cases n with
      | zero=>simp at m
      | succ n=>simp[Builtin.clear_,run_underlying I,V,hst]
 ·simp at hh
theorem IL:∀ {c:LA} {s:Lu} {i:List Value} {J:Nat→Prop},MB c=some s→RepCs J w c (fun j=>i[j]?) 0→c.length=i.length →
  ∃ ns:List Int,i=ns.map (Value.int .u8)∧s=ns.map (fun n=>UInt8.ofNat n.toNat)
 | [],s,i,J,m,z,A=>by
  simp[MB] at m;subst m
  have:i=[]:=by cases i<;>simp_all
  exact⟨[],by simp[this],rfl⟩
 | x::r,s,i,J,m,z,A=>by
  rw[MB] at m
  obtain⟨b,d,I⟩:=ub m
  obtain⟨l,C,F⟩:=ub I
  simp at F;subst F
  cases i with
  | nil=>simp at A
  | cons u i =>
   rw[RepCs] at z
   obtain⟨⟨O,q,hr⟩,e⟩:=z
   simp at q;subst q
   unfold tL at d
   split at d
   ·rename_i n
    simp at d;subst d
    rw[RepC] at hr;subst hr
    have k:RepCs J w r (fun j=>i[j]?) 0:=by
     rw[Bg] at e ⊢
     intro j y K
     obtain⟨v,G,D⟩:=e j y K
     refine⟨v,?_,D⟩
     rw[show 0+1+j=j+1 by omega] at G
     simpa using G
    obtain⟨ns,L,M⟩:=IL C k (by simpa using A)
    exact⟨n::ns,by simp[L],by simp[M]⟩
   ·simp at d
theorem tY:∀ (ns:List Int) (s:Lu),(ns.foldl (fun r n=>r.push (UInt8.ofNat n.toNat)) (⟨⟨s⟩⟩:ByteArray))=⟨⟨s++ns.map fun n=>UInt8.ofNat n.toNat⟩⟩
 | [],s=>by simp
 | n::r,s=>by
  rw[Ad2]
  have:(⟨⟨s⟩⟩:ByteArray).push (UInt8.ofNat n.toNat)=⟨⟨s++[UInt8.ofNat n.toNat]⟩⟩:=by
   simp[ByteArray.push]
  rw[this,tY r];simp
theorem ln {d:Nat} {src dst:TypeId} {x:AV} {vx:Value} {k:AV→Do→O R} (S:SimH J β h w) (hl:Looks g h) (i:h_ P g d src dst x k=some r) (m:Rep J β h w x vx) :
  ∃ val ups,k val ups=some r∧(UpsFree d h ups→∃ u w',(convert src dst vx).run P w=.ok u w'∧OpDone J β h w ups val u w'):=by
 unfold h_ at i
 split at i
 ·rename_i kd C
  split at i
  ·rename_i kd' n
   rw[Rep] at m;subst m
   obtain⟨F,T⟩:=uc i
   obtain⟨s,hs⟩:=Afe.1 F
   refine⟨_,_,T,fun _=>⟨.int kd (kd.wrap n),w,?_,J,β,Step.refl S,by rw[Rep]⟩⟩
   cases s<;>simp[convert,run_underlying hs,run_underlying C,Conv.intToInt]
  ·simp at i
 ·rename_i C
  split at i
  ·rename_i hs
   split at i
   ·rename_i s
    rw[Rep] at m;subst m
    refine⟨_,_,i,fun _=>⟨.string ⟨⟨s⟩⟩,w,?_,J,β,Step.refl S,by rw[Rep]⟩⟩
    simp[convert,run_underlying hs,run_underlying C]
   ·simp at i
  ·rename_i z hs
   split at i
   ·rename_i U
    split at i
    ·simp at i
    ·rename_i hns
     obtain⟨q,hq,T⟩:=ub i
     obtain⟨s,hs',h2⟩:=ub T
     obtain⟨us,Y,hul,hur⟩:=UY (P:=P) S hl hq m
     obtain⟨ns,e1,e2⟩:=IL hs' hur hul
     refine⟨_,_,h2,fun _=>⟨.string ⟨⟨s⟩⟩,w,?_,J,β,Step.refl S,by rw[Rep]⟩⟩
     have hv:∃ A n cap,vx=.slice A n cap:=by
      unfold IE at hq
      split at hq
      ·rw[Rep] at m;exact⟨_,_,_,m⟩
      ·rw[Rep,RepC] at m;obtain⟨_,A,cap,rfl,_⟩:=m;exact⟨_,_,_,rfl⟩
      ·rw[Rep] at m;obtain⟨_,A,cap,_,rfl,_⟩:=m;exact⟨_,_,_,rfl⟩
      ·exact absurd rfl (hns _)
      ·simp at hq
     obtain⟨A,n,cap,rfl⟩:=hv
     have hn:q.2.1=n:=by have:=Y.len w;simpa[Builtin.lenOf] using this.symm
     have L:=Y.cells w n (fun _=>rfl) (by omega)
     have V:=Y.length
     rw[hn] at V
     rw[show us.take (n*1)=us by rw[←V,Ady]] at L
     have G:(convert src dst (.slice A n cap)).run P w=(Conv.bytesToString (.slice A n cap)).run P w:=by
      cases A<;>simp[convert,run_underlying hs,run_underlying C,run_underlying U]
     rw[G]
     cases A with
     | none =>
      rw[run_firstCells_none] at L
      injection L with hc1 _
      have hus:us=[]:=by simpa using hc1.symm
      rw[hus] at e1
      have X:ns=[]:=by simpa using e1.symm
      rw[X] at e2
      simp at e2;subst e2
      simp[Conv.bytesToString];rfl
     | some a =>
      simp only[Builtin.firstCells,Acf] at L
      rw[e1] at L
      rw[run_bytesToString w a n cap ns L,e2]
      have:=tY ns []
      simp at this
      rw[←this];rfl
   ·simp at i
  ·simp at i
 ·rename_i z C
  split at i
  ·rename_i e' b off n hs U
   obtain⟨v,T⟩:=uc i
   simp only[Ab6] at v
   obtain⟨v,hn1⟩:=v
   have hn1:1≤n:=by simpa using hn1
   have v:=Ab5 v
   subst v
   have hee:e'=z:=by rw[hs] at C;simpa using C
   subst hee
   obtain⟨x,y,h2⟩:=ub T
   obtain⟨hsl,h3⟩:=oa h2
   obtain⟨y,hd⟩:=Co hl y
   refine⟨_,_,h3,fun _=>?_⟩
   have hx':=m
   rw[Rep] at m
   obtain⟨x0,A,cap,⟨I,hmp⟩,rfl,hle,hr⟩:=m
   rw[y] at I;simp at I;subst I
   rcases hr with hr | ⟨k1,o1,rfl,hr⟩
   ·omega
   ·rcases hr with hr | ⟨hβ,_,_⟩
    ·simp[hd] at hr
    ·rcases S.blk b x y hd hmp with⟨M,_⟩ | ⟨k2,o2,cs,ty,fr,M,h5,h6,h7,h8,h9,h10⟩
     ·rw[hβ] at M;simp at M
     ·rw[hβ] at M;simp at M;obtain⟨rfl,rfl⟩:=M
      have hsh:w.shape? k1=some (ty,cs.size):=by simp[World.shape?,h5]
      have hnew:∃ K,(w.freeze ⟨k1,cs.size,none⟩ 1).heap[k1]?=some (.cells cs ty K)∧FrOk cs.size K:=by
       obtain⟨lo,hi⟩:=fr
       refine⟨if lo==hi then (cs.size,cs.size+1) else (min lo cs.size,max hi (cs.size+1)),?_,?_⟩
       ·simp[World.freeze,Adt,h5]
       ·by_cases e:lo=hi
        ·simp[e,FrOk]
        ·have h11:cs.size≤lo:=by rcases h6 with h6 | h6;exact absurd h6 e;exact h6
         simp[e,FrOk];omega
      obtain⟨K,hf1,hf2⟩:=hnew
      have A:=Step.mark S y hd hsl hβ h5 hf1 hf2 (fun j D=>by
       simp only[World.freeze]
       rw[if_neg (by decide)]
       show(w.heap.modify k1 _)[j]?=_
       rw[Adt,if_neg (fun e=>D e.symm)]) (by simp[World.freeze]) rfl rfl rfl hmp
      refine⟨_,w.freeze ⟨k1,cs.size,none⟩ 1,?_,J,β,A,Rep.ext A.ext hx'⟩
      simp[convert,run_underlying hs,run_underlying U,markStringish,hsh]
  ·rename_i s hs U
   rw[Rep] at m;subst m
   refine⟨_,_,i,fun hn=>⟨_,_,run_bytes_of_string (P:=P) w src dst z ⟨⟨s⟩⟩ hs C U,?_⟩⟩
   replace hn:=hn.nid (by simp[Nc,A3])
   have hsz:(⟨⟨s⟩⟩:ByteArray).size=s.length:=rfl
   have hcap:s.length≤grownCap w s.length 0 z:=by unfold grownCap;simp[Question.cut]
   rw[hsz]
   obtain⟨J',β',B1,B2⟩:=MN (d:=d) (n:=s.length) (cap:=grownCap w s.length 0 z) (sz:=1) (ty:=z) (fr:=((bytesRow ⟨⟨s⟩⟩ (grownCap w s.length 0 z)).size,(bytesRow ⟨⟨s⟩⟩ (grownCap w s.length 0 z)).size+1))
    (x:={ dead:=false,sealed:=false,pure:=true,taint:=false,sz:=1,cells:=s.map fun b=>.int .u8 (b.toNat:Int) })
    (cs:=bytesRow ⟨⟨s⟩⟩ (grownCap w s.length 0 z)) (Step.drew S).sim hn rfl rfl rfl (FrOk.un (.inr (Ab3 _))) (by simp) (by simp[bytesRow,hsz];omega) hcap
    ⟨fun _=>by
     show RepCs (J false) w.drew (s.map fun b=>.int .u8 (b.toNat:Int)) _ 0
     rw[Bg]
     intro j q D
     rw[Adr] at D
     cases hb:s[j]? with
     | none=>rw[hb] at D;simp at D
     | some b =>
      rw[hb] at D;simp at D;subst D
      refine⟨.int .u8 (b.toNat:Int),?_,by rw[RepC]⟩
      have hlt:j<s.length:=(Ab7.1 hb).1
      simp only[Ab8,bytesRow]
      rw[Aem (by simp;exact hlt)]
      simp[hb],fun hp=>by simp at hp⟩
   exact⟨J',β',(Step.drew S).trans B1 (fun _ k _ _=>by rw[←Zc];exact Mk _ _ k),B2⟩
  ·simp at i
 ·simp at i
theorem aV {t:TypeId} {n:Nat} (h:Bh P t=some n):∃ j,P.info? t=some j∧j.size=n:=by
 unfold Bh at h
 cases hq:P.info? t with
 | none=>rw[hq] at h;cases h
 | some j=>rw[hq] at h;simp at h;exact⟨j,rfl,h⟩
theorem jd {d:Nat} {src dst:TypeId} {x:AV} {vx:Value} {k:AV→Do→O R} (S:SimH J β h w) (I:Looks g h) (i:RP P g d src dst x k=some r) (z:Rep J β h w x vx) :
  ∃ val ups,k val ups=some r∧(UpsFree d h ups→∃ u w',(convert src dst vx).run P w=.ok u w'∧OpDone J β h w ups val u w'):=by
 unfold RP at i
 split at i
 ·rename_i K
  split at i
  ·rename_i t b off hs
   obtain⟨n,hn,i⟩:=ub i
   obtain⟨y,L,i⟩:=ub i
   obtain⟨D,i⟩:=uc i
   simp at D
   obtain⟨v,m⟩:=Co I L
   have A:=z
   rw[Rep] at z
   obtain⟨x1,M,o1,⟨C,gm⟩,rfl,s⟩:=z
   rw[v] at C;simp at C;subst C
   rcases s with s | s
   ·rw[s] at m;cases m
   obtain⟨j,T,F⟩:=aV hn
   rcases S.blk b y v m gm with⟨e1,G⟩ | ⟨V,o2,cs,ty,fr,e1,G,e3,e4,X⟩
   ·rw[s] at e1;cases e1
   ·rw[s] at e1;simp at e1;obtain⟨rfl,rfl⟩:=e1
    refine⟨_,_,i,fun _=>⟨_,w,Lib.run_to_unsafe w ⟨M,o1+off,none⟩ hs K T (by rw[F];exact fun e=>by rw[e] at D;simp at D) (e:=ty) (cells:=cs.size) (by simp[World.shape?,G]) (by show o1+off<_;omega),J,β,Step.refl S,A⟩⟩
  ·cases i
 ·rename_i u K
  split at i
  ·rename_i b off hs
   obtain⟨n,hn,i⟩:=ub i
   obtain⟨y,L,i⟩:=ub i
   obtain⟨q,hq,i⟩:=ub i
   obtain⟨D,i⟩:=uc i
   simp at D
   obtain⟨v,m⟩:=Co I L
   have A:=z
   rw[Rep] at z
   obtain⟨x1,M,o1,⟨C,gm⟩,rfl,s⟩:=z
   rw[v] at C;simp at C;subst C
   rcases s with s | s
   ·rw[s] at m;cases m
   obtain⟨j,T,F⟩:=aV hn
   rcases S.blk b y v m gm with⟨e1,G⟩ | ⟨V,o2,cs,ty,fr,e1,G,e3,e4,X⟩
   ·rw[s] at e1;cases e1
   ·rw[s] at e1;simp at e1;obtain⟨rfl,rfl⟩:=e1
    obtain⟨rfl,rfl,U⟩:=e3.2 q.1 q.2 hq
    have U:cs.size=q.2:=by omega
    refine⟨_,_,i,fun _=>⟨_,w,Lib.run_from_unsafe w ⟨M,0+off,none⟩ hs K T (e:=q.1) (cells:=cs.size) (by simp[World.shape?,G]) (by show liesAt P P.depth q.1 (cs.size/_) (0+off) u 1=true;rw[U,Ab8];exact D.2.2),J,β,Step.refl S,A⟩⟩
  ·cases i
 ·exact ln S I i z
theorem oe {fn : Func} (b : fn.name = "internal/abi.NoEscape") : Extern.find fn = some Extern.AbiNoEscape.same := by
 have l1 : Extern.allGenericRows.lookup "internal/abi.NoEscape" = none := by kernel_rfl
 have l2 : Extern.allTypedRows.lookup "internal/abi.NoEscape" = none := by kernel_rfl
 have l3 : Extern.allRows.lookup "internal/abi.NoEscape" = some Extern.AbiNoEscape.same := by kernel_rfl
 unfold Extern.find
 simp only[b,l1,l2,l3]
 rfl
theorem aW {fn : Func} (b : fn.name = "internal/abi.NoEscape") (d : fn.origin = "") : Extern.findNext fn = none := by
 have l1 : Extern.allNextRows.lookup "internal/abi.NoEscape" = none := by kernel_rfl
 have l2 : Extern.allNextRows.lookup "" = none := by kernel_rfl
 unfold Extern.findNext
 simp only[b,d,l1,l2]
 rfl
theorem rt {f:Nat} (h:tS P f=true) (x:Value) (w:World):(callFunc f #[x]).run P w=.ok (.value x) w:=by
 unfold tS at h
 split at h
 ·rename_i fn d
  simp only[Ab6] at h
  obtain⟨e,hn,b⟩:=h
  have hn : fn.name = "internal/abi.NoEscape" := by simpa using hn
  have b : fn.origin = "" := by simpa using b
  rw[run_callFunc_extern d (by rw[hn];decide) e (aW hn b) (oe hn)]
  rfl
 ·cases h
theorem og {x:AV} {b:UInt8} (h:jX x=some b):x=.int .u8 (b.toNat:Int):=by
 unfold jX at h
 split at h
 ·rename_i n
  obtain⟨e,d⟩:=uc h
  simp at d;subst d
  have:=of_decide_eq_true e
  rw[this]
 ·cases h
theorem DF:∀ {c:LA} {s:Lu},CY c=some s→c=s.map fun b=>.int .u8 (b.toNat:Int)
 | [],s,h=>by simp[CY] at h;subst h;rfl
 | x::r,s,h=>by
  rw[CY] at h
  obtain⟨b,d,h⟩:=ub h
  obtain⟨l,e,h⟩:=ub h
  simp at h;subst h
  rw[og d,DF e];rfl
theorem RX {d:Nat} {ts:Array TypeId} {ty:TypeId} {x:AV} {vx:Value} {k:AV→Do→O R} (S:SimH J β h w) (v:Looks g h) (e:Oq g x k=some r) (q:Rep J β h w x vx) :
  ∃ val ups,k val ups=some r∧(UpsFree d h ups→∃ u w',(Builtin.unsafeSliceData_ ts ty #[vx]).run P w=.ok u w'∧OpDone J β h w ups val u w'):=by
 unfold Oq at e
 split at e
 ·rw[Rep] at q;subst q
  exact⟨_,_,e,fun _=>⟨.pointer none,w,rfl,J,β,Step.refl S,by rw[Rep]⟩⟩
 ·rename_i b off n
  obtain⟨y,C,e⟩:=ub e
  obtain⟨hn,e⟩:=uc e
  have hn:0<n:=by simpa using hn
  obtain⟨j,m⟩:=Co v C
  rw[Rep] at q
  obtain⟨z,A,cap,⟨s,gm⟩,rfl,F,i⟩:=q
  rw[j] at s;simp at s;subst s
  rcases i with i | ⟨D,o1,rfl,i⟩
  ·omega
  rcases i with i | ⟨i,_⟩
  ·rw[i] at m;cases m
  refine⟨_,_,e,fun _=>⟨_,w,Lib.run_unsafeSliceData_row w ts ty _ n cap (by omega),J,β,Step.refl S,?_⟩⟩
  rw[Rep]
  exact⟨y,D,o1,⟨j,gm⟩,rfl,.inr i⟩
 ·cases e
theorem RY {d:Nat} {t it ty:TypeId} {x n:AV} {vx vn:Value} {k:AV→Do→O R} (S:SimH J β h w) (hl:Looks g h) (i:Ot P g t x n k=some r) (T:Rep J β h w x vx) (U:Rep J β h w n vn) :
  ∃ val ups,k val ups=some r∧(UpsFree d h ups→∃ u w',(Builtin.unsafeString_ #[t,it] ty #[vx,vn]).run P w=.ok u w'∧OpDone J β h w ups val u w'):=by
 unfold Ot at i
 split at i
 ·rename_i n
  obtain⟨hn,i⟩:=uc i
  have hn:n=0:=by simpa using hn
  subst hn
  simp only[Rep] at T U;subst T U
  exact⟨_,_,i,fun _=>⟨_,w,Lib.run_unsafeString_none w t it ty none,J,β,Step.refl S,by rw[Rep];rfl⟩⟩
 ·rename_i b off n
  obtain⟨y,hy,i⟩:=ub i
  obtain⟨q,hq,i⟩:=ub i
  split at i
  ·rename_i e he
   obtain⟨hc,i⟩:=uc i
   obtain⟨s,hs,hk⟩:=ub i
   simp only[Ab6,Afc,decide_eq_true_eq] at hc
   obtain⟨c1,c2,c3,c4,c5,c6,c7,c8⟩:=hc
   have c1:=Ab5 c1
   have c2:=Ab5 c2
   have c5:=Ab5 c5
   obtain⟨v,A⟩:=Co hl hy
   simp only[Rep] at T U;subst U
   obtain⟨z,I,o1,⟨Y,gm⟩,rfl,D⟩:=T
   rw[v] at Y;simp at Y;subst Y
   rcases D with D | D
   ·rw[D] at A;cases A
   rcases S.blk b y v A gm with⟨e1,G⟩ | ⟨k2,o2,cs,ty2,fr,e1,G,e3,e4,e5,e6⟩
   ·rw[D] at e1;cases e1
   rw[D] at e1;simp at e1;obtain⟨rfl,rfl⟩:=e1
   obtain⟨rfl,rfl,_⟩:=e3.2 q.1 q.2 hq
   subst c5
   have hsl:s.length=n.toNat:=by
    have:=congrArg List.length (DF hs)
    simp at this;omega
   have hsn:(n:Int)=(s.length:Int):=by omega
   subst hsn
   refine⟨_,_,hk,fun _=>⟨.string ⟨s.toArray⟩,w.freeze ⟨I,0,none⟩ s.length,?_,J,β,?_,by rw[Rep]⟩⟩
   ·refine Lib.run_unsafeString_row w t it ty q.1 (by rw[c1];exact he) (by rw[c1];exact c2) I cs.size (by simp[World.shape?,G]) s (by intro e;subst e;simp at c6) (by omega) (by omega) fun j x V=>?_
    have hjl:j<s.length:=(Ab7.1 V).1
    have F:y.cells[j]?=some (.int .u8 (x.toNat:Int)):=by
     have X:(y.cells.take (s.length:Int).toNat)[j]?=some (.int .u8 (x.toNat:Int)):=by rw[DF hs];simp[V]
     rw[Ac9] at X
     split at X
     ·exact X
     ·cases X
    obtain⟨u,C,K⟩:=Bg.1 (e5.1 c3) j _ F
    rw[RepC] at K;subst K
    have C:cs[j]?=some (.int .u8 (x.toNat:Int)):=by simpa using C
    by_cases ej:j=0
    ·subst ej;simp[World.cell?,Addr.add,G,C]
    ·simp[World.cell?,Addr.add,G,ej,C]
   ·have ap:Ah [(b,none)] h=Dd h b { y with dead:=true,pure:=true,cells:=[] }:=by simp[Ah,v]
    rw[ap]
    have m:s.length≠0:=by omega
    refine Step.giveUp S v A c4 D gm rfl (fun j V=>?_) (by simp[World.freeze,m]) (by simp[World.freeze,m]) (by simp[World.freeze,m]) (by simp[World.freeze,m]) ?_
    ·simp only[World.freeze]
     rw[if_neg m]
     show(w.heap.modify I _)[j]?=_
     rw[Adt,if_neg (fun e=>V e.symm)]
    ·obtain⟨lo,hi⟩:=fr
     have L:∃ M,(w.freeze ⟨I,0,none⟩ s.length).heap[I]?=some (.cells cs q.1 M):=⟨_,by simp[World.freeze,m,Adt,G];rfl⟩
     obtain⟨M,hf⟩:=L
     rw[Cd G,Cd hf];exact Ab3 _
  ·cases i
 ·cases i
end
end Gx
namespace Gx
open Go
def Zd (CR:AV→Value→Prop) (c:LA) (cs:List Value):Prop:=c.length=cs.length∧∀ (j:Nat) (x:AV) (u:Value),c[j]?=some x→cs[j]?=some u→CR x u
def PartsRel (CR:AV→Value→Prop):List (Nat×LA)→List (Nat×Value)→Prop
 | [],vs=>vs=[]
 | (i,c)::r,vs=>∃ v vs',vs=(i,v)::vs'∧Zd CR c v.cells.toList∧PartsRel CR r vs'
theorem qv:∀ (vs:List Value) (n off:Nat) (cells:Array Value) (j:Nat),
  ((vs.zipIdx n).foldl (fun (cs:Array Value) (p:Value×Nat)=>cs.setIfInBounds (off+p.2) p.1) cells)[j]?=if off+n≤j∧j<off+n+vs.length∧j<cells.size then vs[j - (off+n)]? else cells[j]?
 | [],n,off,cells,j=>by simp;omega
 | v::r,n,off,cells,j=>by
  rw[List.zipIdx_cons,Ad2,qv r (n+1) off]
  simp only[Afg,Acd]
  by_cases d:j=off+n
  ·subst d
   rw[if_neg (by omega)]
   by_cases b:off+n<cells.size
   ·rw[if_pos (by omega)];simp[b]
   ·rw[if_neg (by omega)];simp[b]
  ·by_cases b:off+(n+1)≤j∧j<off+(n+1)+r.length∧j<cells.size
   ·rw[if_pos b,if_pos (by omega),show j - (off+n)=(j - (off+(n+1)))+1 by omega];simp
   ·rw[if_neg b,if_neg (by omega),Aew (by omega)]
theorem MO:∀ (vs:List Value) (n off:Nat) (cells:Array Value),((vs.zipIdx n).foldl (fun (cs:Array Value) (p:Value×Nat)=>cs.setIfInBounds (off+p.2) p.1) cells).size=cells.size
 | [],_,_,_=>rfl
 | v::r,n,off,cells=>by rw[List.zipIdx_cons,Ad2,MO r];simp
theorem Xi {CR:AV→Value→Prop} {place:Nat→Option (Nat×Nat)}:∀ {parts:List (Nat×LA)} {vparts:List (Nat×Value)} {c y:LA} {cs:Array Value},PartsRel CR parts vparts→Zd CR c cs.toList →
  K3 place parts c=some y→∃ b,Instr.fill place cs vparts=some b∧Zd CR y b.toList
 | [],vparts,c,y,cs,k,z,m=>by
  rw[PartsRel] at k;subst k
  simp[K3] at m;subst m
  exact⟨cs,rfl,z⟩
 | (i,vs)::r,vparts,c,y,cs,k,z,m=>by
  rw[PartsRel] at k
  obtain⟨v,G,rfl,D,hr⟩:=k
  rw[K3] at m
  obtain⟨p,C,I⟩:=ub m
  obtain⟨F,K⟩:=uc I
  simp at F
  obtain⟨T,U⟩:=F
  have e1:vs.length=v.cells.size:=by have:=D.1;simpa using this
  have L:c.length=cs.size:=by have:=z.1;simpa using this
  have s:p.1+vs.length≤c.length:=by omega
  have key:Zd CR (setCells c p.1 vs) (v.cells.zipIdx.foldl (fun (cs:Array Value) (q:Value×Nat)=>cs.setIfInBounds (p.1+q.2) q.1) cs).toList:=by
   have d:v.cells.zipIdx.foldl (fun (cs:Array Value) (q:Value×Nat)=>cs.setIfInBounds (p.1+q.2) q.1) cs=(v.cells.toList.zipIdx 0).foldl (fun (cs:Array Value) (q:Value×Nat)=>cs.setIfInBounds (p.1+q.2) q.1) cs:=by
    rw[←Array.foldl_toList];simp
   rw[d]
   refine⟨by rw[L4 s,L];exact(MO _ 0 _ _).symm,fun j x u A e=>?_⟩
   rw[Y9 s] at A
   rw[Afw,qv] at e
   simp only[Ac4,Aef] at e
   split at A
   ·rename_i M
    rw[if_pos (by omega)] at e
    exact D.2 _ x u A e
   ·rename_i M
    rw[if_neg (by omega)] at e
    exact z.2 j x u A (by simpa using e)
  obtain⟨b,O,S⟩:=Xi hr key K
  refine⟨b,?_,S⟩
  rw[Instr.fill,C]
  have:¬ (v.cells.size≠p.2||p.1+v.cells.size>cs.size)=true:=by simp;omega
  simp only[this]
  exact O
section
variable {R:Type} {r:R} {P:Program} {J J':Bool→Nat→Prop} {β:Bu} {h:Ao} {w w':World} {g:A6}
def RepParts (J:Bool→Nat→Prop) (β:Bu) (h:Ao) (w:World):List (Nat×AV)→List (Nat×Value)→Prop
 | [],vs=>vs=[]
 | (i,x)::r,vs=>∃ v vs',vs=(i,v)::vs'∧Rep J β h w x v∧RepParts J β h w r vs'
theorem RepParts.ext {β':Bu} {h':Ao} (E:Ext J β h w J' β' h' w'):∀ {ps:List (Nat×AV)} {vs:List (Nat×Value)},RepParts J β h w ps vs→RepParts J' β' h' w' ps vs
 | [],_,hr=>hr
 | (i,x)::r,vs,hr=>by
  rw[RepParts] at hr ⊢
  obtain⟨v,b,e,d,j⟩:=hr
  exact⟨v,b,e,Rep.ext E d,RepParts.ext E j⟩
theorem PartsRel.mono {CR CR':AV→Value→Prop} (d:∀ x u,CR x u→CR' x u):∀ {ps:List (Nat×LA)} {vs:List (Nat×Value)},PartsRel CR ps vs→PartsRel CR' ps vs
 | [],_,hr=>hr
 | (i,c)::r,vs,hr=>by
  rw[PartsRel] at hr ⊢
  obtain⟨v,b,e,k,m⟩:=hr
  exact⟨v,b,e,⟨k.1,fun j x u q s=>d _ _ (k.2 j x u q s)⟩,PartsRel.mono d m⟩
theorem Pr {J:Nat→Prop} {c:LA} {d:List Value} (e:RepCs J w c (fun j=>d[j]?) 0) (i:c.length=d.length):Zd (RepC J w) c d :=
 ⟨i,fun j x u k m=>by
  obtain⟨q,b,hr⟩:=e.at k
  rw[m] at b;simp at b;subst b;exact hr⟩
theorem IM {J:Nat→Prop} {c:LA} {b:List Value} (d:Zd (RepC J w) c b):RepCs J w c (fun j=>b[j]?) 0:=by
 rw[Bg]
 intro j x e
 have:j<b.length:=by rw[←d.1];exact(Ab7.1 e).1
 exact⟨b[j],by simp[this],d.2 j x _ e (Ab1 this)⟩
theorem BJ:∀ {ps:List (Nat×AV)} {vs:List (Nat×Value)} {q:List (Nat×LA)} {ups:Do} {org:Bool} {J:Bool→Nat→Prop} {h:Ao},SimH J β h w→LooksS g h→Xc g ps=some (q,ups,org)→RepParts J β h w ps vs →
  ∃ J',Step J β h w J' β (Ah ups h) w∧PartsRel (RepC (J' org) w) q vs∧LooksS g (Ah ups h)∧∀ b,A3 ups b=true→∃ x,g b=some x
 | [],vs,q,ups,org,J,h,S,s,d,e=>by
  simp[Xc] at d;obtain⟨rfl,rfl,rfl⟩:=d
  rw[RepParts] at e
  exact⟨J,Step.refl S,by rw[PartsRel];exact e,s,fun b j=>by simp[A3] at j⟩
 | (i,x)::r,vs,q,ups,org,J,h,S,s,d,e=>by
  rw[Xc] at d
  obtain⟨⟨c1,u1,o1⟩,K,O⟩:=ub d
  obtain⟨⟨U,u2,o2⟩,hq,L⟩:=ub O
  simp at L
  obtain⟨rfl,rfl,rfl⟩:=L
  rw[RepParts] at e
  obtain⟨v,y,rfl,z,C⟩:=e
  obtain⟨J1,A,hA,m,D⟩:=BI S s K z
  obtain⟨J2,B,hB,F,G⟩:=BJ A.sim D hq (RepParts.ext A.ext C)
  refine⟨J2,by rw[B0];exact A.trans B (fun _ _ _ _=>Ab3 _),?_,by rw[B0];exact F,fun b j=>?_⟩
  ·rw[PartsRel]
   refine⟨v,y,rfl,Pr (RepCs.keep (J:=J1 o1) (w:=w) (fun k I=>GJ B.sim.jft _ _ k (B.ext.jsub _ k I)) (fun _ _=>rfl) (fun _=>rfl) hA) m,?_⟩
   exact PartsRel.mono (fun x u T=>RepC.keep (J:=J2 o2) (w:=w) (fun k I=>aT B.sim.jft _ _ k I) (fun _ _=>rfl) T) hB
  ·rw[F6] at j
   cases M:A3 u1 b with
   | true=>exact f5 K b M
   | false=>rw[M] at j;exact G b (by simpa using j)
theorem Xj {place:Nat→Option (Nat×Nat)} {k:LA→O R}:∀ (ps:List (Nat×LA)) (c:LA),aI place ps c k=(K3 place ps c).bind k
 | [],c=>rfl
 | (i,vs)::r,c=>by
  rw[aI,K3,Abz]
  congr 1;funext p
  rw[Xj r]
  cases (beq vs.length p.2&&ble (p.1+p.2) c.length)<;>rfl
theorem MP {d len:Nat} {t:TypeId} {ps:List (Nat×AV)} {vs:List (Nat×Value)} {k:AV→Do→O R} (S:SimH J β h w) (X:Looks g h) (F:Mu P g d t len ps k=some r) (hv:RepParts J β h w ps vs) :
  ∃ val ups,k val ups=some r∧(UpsFree d h ups→∃ u w',(Instr.buildSlice t len vs.toArray).run P w=.ok u w'∧OpDone J β h w ups val u w'):=by
 unfold Mu at F
 split at F
 ·rename_i el Y
  obtain⟨sz,b,h1⟩:=ub F
  obtain⟨zz,hz,h2⟩:=ub h1
  obtain⟨⟨q,u1,o1⟩,hq,h3⟩:=ub h2
  obtain⟨hb,h4⟩:=uc h3
  rw[Xj] at h4
  obtain⟨cells,hc,h5⟩:=ub h4
  simp at hb
  obtain⟨i,z,hi,I,rfl,K,e1,e2⟩:=Ov hz
  have e:i.size=sz:=by simp[Bh,hi] at b;exact b
  refine⟨_,_,h5,fun hn=>?_⟩
  replace hn:=hn.nid (by simp[F6,Nc,A3])
  obtain⟨J1,A,hA,_,y⟩:=BJ S X.s hq hv
  have L:=Zb (w:=w) (J:=J1 o1) K len (len*sz) (by rw[e1,e];exact Ab3 _)
  have M:Zd (RepC (J1 o1) w) (Dy len (I8 z.cells.toList)) (madeCells z.cells (len*sz)).toList:=by
   refine Pr (RepCs.keep (J:=J1 o1) (w:=w) (fun _ T=>T) (fun _ _=>rfl) (fun j=>by simp) L) ?_
   rw[En,e2,e,Aef,size_madeCells]
  obtain⟨m,f1,f2⟩:=Xi hA M hc
  have C:cells.length=len*sz:=by
   have:∀ {ps:List (Nat×LA)} {c G:LA},K3 (fun i=>some (i*sz,sz)) ps c=some G→G.length=c.length:=by
    intro ps
    induction ps with
    | nil=>intro c G D;simp[K3] at D;rw[D]
    | cons p r ih =>
     intro c G D
     obtain⟨i,vs⟩:=p
     rw[K3] at D
     obtain⟨p,hpl,g1⟩:=ub D
     obtain⟨gb,g2⟩:=uc g1
     simp at gb
     rw[ih g2,L4 (by omega)]
   rw[this hc,En,e2,e]
  have hcs:m.size=len*sz:=by have:=f2.1;simp at this;omega
  refine⟨.slice (some ⟨w.heap.size,0,none⟩) len len,w.alloc (.cells m el),?_,?_⟩
  ·have v:Instr.fill (fun i=>some (i*sz,sz)) ((Array.range (len*sz)).map (z.cells[·%z.cells.size]!)) vs=some m:=f1
   have U:¬ (16777216<len*sz):=by omega
   by_cases h0:len*sz=0
   ·have V:∀ (a:Array Value),(Array.range (len*sz)).map (a[·%a.size]!)=#[]:=fun a=>by rw[h0];simp[Array.range_zero']
    rw[V] at v
    simp[Instr.buildSlice,run_underlying Y,B5 b,h0,Array.range_zero',v,newRow]
   ·simp[Instr.buildSlice,run_underlying Y,B5 b,U,h0,zeroValue,typeInfo,hi,I,v,newRow]
  ·refine OpDone.after A (MN (sz:=sz) (fr:=(0,0)) A.sim (qu X y hn) rfl rfl rfl FrTy.un0 C (by omega) (Ab3 _) ⟨fun _=>?_,fun K=>by simp at K⟩) (Mk _ _)
   have:=IM f2
   exact RepCs.keep (J:=J1 o1) (w:=w) (fun _ T=>T) (fun _ _=>rfl) (fun j=>by simp) this
 ·simp at F
theorem KR {t:TypeId} {ps:List (Nat×AV)} {k:AV→O R}:jU P t ps k=(jT P t ps).bind k:=by
 unfold jU jT
 rw[Abz]
 congr 1;funext place
 cases (ps.all fun p=>CX p.2) with
 | false=>rfl
 | true =>
  simp only[cond_true]
  cases (ps.any fun p=>Y1 p.2) with
  | true =>
   simp only[cond_true]
   cases (ps.any fun p=>aJ p.2) with
   | true =>
    simp only[cond_true]
    rw[Abz]
    congr 1;funext z
    rw[Xj]
    cases K3 place (Hn ps) z<;>rfl
   | false =>
    simp only[cond_false]
    rw[Abz]
    congr 1;funext z
    rw[Xj]
    cases K3 place (Ek ps) z<;>rfl
  | false =>
   simp only[cond_false]
   rw[Abz]
   congr 1;funext z
   rw[Xj]
   cases K3 place (Ek ps) z<;>rfl
theorem tZ {x:AV} {u:Value} (hr:RepC (fun _=>False) w x u):Rep J β h w x u:=by
 have b:∀ o:Bool,RepC (J o) w x u:=fun o=>RepC.keep (J:=fun _=>False) (w:=w) (fun _ d=>d.elim) (fun _ _=>rfl) hr
 cases x
 case imm c n sz t org=>rw[Rep];exact b org
 case iptr c org=>rw[Rep];exact b org
 case fn f c =>
  cases c with
  | nil=>rw[RepC] at hr;subst hr;rw[Rep];exact⟨[],by simp,by rw[Reps]⟩
  | cons a l=>simp[RepC] at hr
 all_goals first | (rw[RepC] at hr;rw[Rep];exact hr) | simp[RepC] at hr
theorem RZ {d len:Nat} {t:TypeId} {ps:List (Nat×AV)} {vs:List (Nat×Value)} {k:AV→Do→O R} (S:SimH J β h w) (L:Oo P g d t len ps k=some r) (C:RepParts J β h w ps vs) :
  ∃ val ups,k val ups=some r∧(UpsFree d h ups→∃ u w',(Instr.buildSlice t len vs.toArray).run P w=.ok u w'∧OpDone J β h w ups val u w'):=by
 unfold Oo at L
 split at L
 ·rename_i el A
  obtain⟨sz,m,M⟩:=ub L
  obtain⟨zz,hz,U⟩:=ub M
  obtain⟨V,h4⟩:=uc U
  obtain⟨cells,hc,h5⟩:=ub h4
  simp at V
  obtain⟨rfl,V,X⟩:=V
  obtain⟨i,z,hi,Y,rfl,hp,e1,e2⟩:=Ov hz
  have D:i.size=1:=by simp[Bh,hi] at m;exact m
  refine⟨_,_,h5,fun hn=>?_⟩
  replace hn:=hn.nid (by simp[Nc,A3])
  have hz0:=Zb (w:=w) (J:=fun _=>False) hp len (len*1) (by rw[e1,D];exact Ab3 _)
  have hz1:Zd (fun x u=>Rep J β h w x u∧u.oneCell'=true) (Dy len (I8 z.cells.toList)) (madeCells z.cells (len*1)).toList:=by
   have hl:Zd (RepC (fun _=>False) w) (Dy len (I8 z.cells.toList)) (madeCells z.cells (len*1)).toList:=by
    refine Pr (RepCs.keep (J:=fun _=>False) (w:=w) (fun _ hk=>hk) (fun _ _=>rfl) (fun j=>by simp) hz0) ?_
    rw[En,e2,D,Aef,size_madeCells]
   exact⟨hl.1,fun j x u hx A=>⟨tZ (hl.2 j x u hx A),MM (hl.2 j x u hx A)⟩⟩
  have q:∀ {ps:List (Nat×AV)} {vs:List (Nat×Value)},Kk g (ps.map (·.2))=true→RepParts J β h w ps vs→PartsRel (fun x u=>Rep J β h w x u∧u.oneCell'=true) (ps.map fun p=>(p.1,[p.2])) vs:=by
   intro ps
   induction ps with
   | nil=>intro vs _ C;rw[RepParts] at C;rw[Aei,PartsRel];exact C
   | cons p r ih =>
    obtain⟨i,x⟩:=p
    intro vs hs C
    rw[RepParts] at C
    obtain⟨v,vs',rfl,M,U⟩:=C
    simp[Kk] at hs
    rw[Acc,PartsRel]
    refine⟨v,vs',rfl,?_,ih (by simpa using hs.2) U⟩
    have ho:=Kn hs.1 M
    have s:v.cells=#[v]:=by cases v<;>simp_all[Value.cells,Value.oneCell']
    rw[s]
    refine⟨rfl,fun j y u hy A=>?_⟩
    cases j with
    | zero=>simp at hy A;subst hy A;exact⟨M,ho⟩
    | succ j=>simp at hy
  obtain⟨b,f1,f2⟩:=Xi (q X C) hz1 hc
  have F:cells.length=len*1:=by
   have:∀ {ps:List (Nat×LA)} {c T:LA},K3 (fun i=>some (i*1,1)) ps c=some T→T.length=c.length:=by
    intro ps
    induction ps with
    | nil=>intro c T G;simp[K3] at G;rw[G]
    | cons p r ih =>
     intro c T G
     obtain⟨i,vs⟩:=p
     rw[K3] at G
     obtain⟨p,hpl,g1⟩:=ub G
     obtain⟨gb,g2⟩:=uc g1
     simp at gb
     rw[ih g2,L4 (by omega)]
   rw[this hc,En,e2,D]
  have hcs:b.size=len*1:=by have:=f2.1;simp at this;omega
  refine⟨.slice (some ⟨w.heap.size,0,none⟩) len len,w.alloc (.cells b el),?_,?_⟩
  ·have e:Instr.fill (fun i=>some (i*1,1)) ((Array.range (len*1)).map (z.cells[·%z.cells.size]!)) vs=some b:=f1
   have I:¬ (16777216<len*1):=by omega
   by_cases h0:len*1=0
   ·have hme:∀ (a:Array Value),(Array.range (len*1)).map (a[·%a.size]!)=#[]:=fun a=>by rw[h0];simp[Array.range_zero']
    rw[hme] at e
    simp only[Acf] at h0
    simp[Instr.buildSlice,run_underlying A,B5 m,h0,Array.range_zero',newRow]
    simp at e
    simp[e]
   ·simp only[Acf] at e h0 I
    simp[Instr.buildSlice,run_underlying A,B5 m,I,h0,zeroValue,typeInfo,hi,Y,e,newRow]
  ·refine MN (sz:=1) (fr:=(0,0)) S hn rfl rfl rfl FrTy.un0 F (by omega) (Ab3 _) ⟨fun hp=>by simp at hp,fun _ j y hj=>?_⟩
   have K:j<b.size:=by have:=(Ab7.1 hj).1;simp at this;omega
   have:=f2.2 j y b[j] hj (by simp[K])
   exact⟨b[j],by simp[K],this.1,this.2⟩
 ·simp at L
theorem Ps {d:Nat}:∀ {l:List (Nat×Nat)} {j:Nat} {c:LA} {cs:List Value} {β:Bu} {h:Ao},SimH J β h w→1≤j→j+l.length≤16→(∀ i,j≤i→i<16→A3 (Ew d l j c).2 (nid d+i)=true→Ag h (nid d+i)=none)→Reps J β h w c cs →
  ∃ β',Step J β h w J β' (Ah (Ew d l j c).2 h) w∧Reps J β' (Ah (Ew d l j c).2 h) w (Ew d l j c).1 cs
 | [],j,c,cs,β,h,S,_,_,_,hr=>⟨β,Step.refl S,hr⟩
 | (o,sz)::l,j,c,cs,β,h,S,M,G,s,hr=>by
  rw[Ew] at s ⊢
  split
  ·rename_i v
   simp only[v] at s
   simp at G
   have L:Ag h (nid d+j)=none:=s j (Ab3 _) (by omega) (by simp[A3])
   have A:=Step.newNone S (d:=nid d+j) (x:=Eu sz) L rfl
   have k:=Reps.ext A.ext hr
   rw[Bx] at k
   have C:Reps J (fun b=>if b=nid d+j then none else β b) (Dd h (nid d+j) (Eu sz)) w (c.set o (.own (nid d+j) 0 0)) cs:=by
    rw[Bx]
    refine⟨by rw[k.1];simp,fun i y u z I=>?_⟩
    by_cases hi:i=o
    ·subst hi
     have D:i<c.length:=(Ab7.1 v).1
     rw[List.getElem?_set_self D] at z;simp at z;subst z
     have K:=k.2 i _ u v I
     rw[Rep] at K;subst K
     rw[Rep]
     exact⟨Eu sz,none,0,⟨by simp[Ac],rfl⟩,rfl,Ab3 _,.inl rfl⟩
    ·rw[List.getElem?_set_ne (by omega)] at z
     exact k.2 i y u z I
   obtain⟨β',B,hB⟩:=Ps (d:=d) (l:=l) (j:=j+1) A.sim (by omega) (by omega) (fun i hi m q=>by
    have:=s i (by omega) m (by
     rw[A3]
     have:beq (nid d+j) (nid d+i)=false:=CN (by omega)
     rw[this];exact q)
    rw[Ac,if_neg (by omega)];exact this) C
   exact⟨β',by simp only[Ah];exact A.trans B (fun _ _ _ _=>Ab3 _),by simp only[Ah];exact hB⟩
  ·rename_i v
   have e:Ew d ((o,sz)::l) j c=Ew d l (j+1) c:=by
    rw[Ew]
    split
    ·rename_i F;exact absurd F (v ·)
    ·rfl
   simp at G
   split at s
   ·rename_i F;exact absurd F (v ·)
   ·exact Ps S (by omega) (by omega) (fun i hi m q=>s i (by omega) m q) hr
theorem oh {t:TypeId} {co:Bool} {d:Nat} {v:AV} {vc:Value} {k:AV→Do→O R} (S:SimH J β h w) (b:rm P t co d v k=some r) (e:Rep J β h w v vc) :
  ∃ val ups,k val ups=some r∧(UpsFree d h ups→OpDone J β h w ups val vc w):=by
 unfold rm at b
 split at b
 ·rename_i c
  obtain⟨q,s⟩:=uc b
  refine⟨_,_,s,fun u=>?_⟩
  rw[Rep] at e
  obtain⟨cs,rfl,hr⟩:=e
  obtain⟨β',A,hA⟩:=Ps (d:=d) (l:=Nf P t) (j:=1) S (Ab3 _) (by simp at q;omega) (fun i hi y m=>u _ m (by unfold Xf;simp;omega)) hr
  exact⟨J,β',A,by rw[Rep];exact⟨cs,rfl,hA⟩⟩
 ·exact⟨_,_,b,fun _=>⟨J,β,Step.refl S,e⟩⟩
theorem U' {x:AV} {v:Value} (b:Rep J β h w x v) (m:Y1 x=false) (e:CX x=true):Zd (Rep J β h w) (cellsOf x) v.cells.toList:=by
 have one:v.cells=#[v]→cellsOf x=[x]→Zd (Rep J β h w) (cellsOf x) v.cells.toList:=fun q d=>by
  rw[q,d]
  refine⟨rfl,fun j y u i k=>?_⟩
  cases j with
  | zero=>simp at i k;subst i k;exact b
  | succ j=>simp at i
 cases x
 case pagg=>simp[Y1] at m
 case agg c =>
  rw[Rep] at b
  obtain⟨cs,rfl,d⟩:=b
  rw[Bx] at d
  exact⟨d.1.symm,d.2⟩
 case tup c=>simp[CX] at e
 case undef=>simp[CX] at e
 case omap=>simp[CX] at e
 case own=>rw[Rep] at b;obtain⟨_,A,cap,_,rfl,_⟩:=b;exact one rfl rfl
 case optr=>rw[Rep] at b;obtain⟨_,kk,o,_,rfl,_⟩:=b;exact one rfl rfl
 case fn=>rw[Rep] at b;obtain⟨cs,rfl,_⟩:=b;exact one rfl rfl
 case imm=>rw[Rep,RepC] at b;obtain⟨_,A,cap,rfl,_⟩:=b;exact one rfl rfl
 case iptr=>rw[Rep,RepC] at b;obtain⟨a,rfl,_⟩:=b;exact one rfl rfl
 all_goals (rw[Rep] at b;subst b;exact one rfl rfl)
theorem iH {x:AV} {v:Value} (e:∀ k,J false k→J true k) (d:Rep J β h w x v) (hr:KM x=false) {o:Bool} (i:jS x=true→o=true):RepC (J o) w x v:=by
 cases x<;>simp[KM] at hr
 case imm c n sz t org =>
  rw[Rep] at d
  refine RepC.keep (J:=J org) (w:=w) (fun k b=>?_) (fun _ _=>rfl) d
  cases org
  ·cases o
   ·exact b
   ·exact e k b
  ·rw[i rfl];exact b
 case iptr c org =>
  rw[Rep] at d
  refine RepC.keep (J:=J org) (w:=w) (fun k b=>?_) (fun _ _=>rfl) d
  cases org
  ·cases o
   ·exact b
   ·exact e k b
  ·rw[i rfl];exact b
 all_goals (rw[Rep] at d;rw[RepC];exact d)
theorem je {x:AV} {v:Value} (m:∀ k,J false k→J true k) (e:Rep J β h w x v) (hr:aJ x=false) {o:Bool} (q:UQ x=true→o=true):Zd (RepC (J o) w) (cellsOf x) v.cells.toList:=by
 have one:KM x=false→cellsOf x=[x]→UQ x=jS x→Zd (RepC (J o) w) (cellsOf x) v.cells.toList:=fun h0 b s=>by
  have D:=iH (o:=o) m e h0 (by rw[←s];exact q)
  have z:v.cells=#[v]:=by have:=MM D;cases v<;>simp_all[Value.cells,Value.oneCell']
  rw[z,b]
  refine⟨rfl,fun j y u d i=>?_⟩
  cases j with
  | zero=>simp at d i;subst d i;exact D
  | succ j=>simp at d
 cases x
 case pagg c org =>
  rw[Rep] at e
  obtain⟨cs,rfl,z,b⟩:=e
  refine Pr (RepCs.keep (J:=J org) (w:=w) (fun k A=>?_) (fun _ _=>rfl) (fun j=>by simp[Value.cells]) b) (by simp[Value.cells,cellsOf,z])
  cases org
  ·cases o
   ·exact A
   ·exact m k A
  ·rw[q rfl];exact A
 case agg c =>
  rw[Rep] at e
  obtain⟨cs,rfl,b⟩:=e
  rw[Bx] at b
  refine⟨b.1.symm,fun j y u d i=>?_⟩
  simp only[aJ,Ae9] at hr
  have F:y ∈ c:=Af0 d
  have C:KM y=false:=by simpa using hr y F
  refine iH m (b.2 j y u d i) C (fun s=>q ?_)
  rw[UQ,List.any_eq_true];exact⟨y,F,s⟩
 all_goals first | exact one hr rfl rfl | simp[aJ,KM] at hr
theorem ry {o:Bool} {x:AV} {v:Value} (hr:RepC (J o) w x v):Rep J β h w (l_ o x) v:=by
 cases x
 case imm=>rw[l_,Rep];rw[RepC] at hr ⊢;exact hr
 case iptr=>rw[l_,Rep];rw[RepC] at hr ⊢;exact hr
 case fn f c =>
  cases c with
  | nil=>rw[RepC] at hr;subst hr;show Rep J β h w (.fn f []) _;rw[Rep];exact⟨[],by simp,by rw[Reps]⟩
  | cons a b=>simp[RepC] at hr
 all_goals first | (rw[RepC] at hr;unfold l_;rw[Rep];exact hr) | (simp[RepC] at hr)
theorem om {x:AV} {v:Value} (e:Rep J β h w x v) (q:CX x=true):Zd (Rep J β h w) (aK x) v.cells.toList:=by
 cases i:Y1 x with
 | false =>
  have:=U' e i q
  cases x<;>first | exact this | simp[Y1] at i
 | true =>
  cases x<;>simp[Y1] at i
  rename_i c o
  rw[Rep] at e
  obtain⟨cs,rfl,s,z⟩:=e
  refine⟨by simp[aK,Value.cells,s],fun j y u d m=>?_⟩
  simp only[aK,Adr] at d
  cases k:c[j]? with
  | none=>rw[k] at d;simp at d
  | some x0 =>
   rw[k] at d;simp at d;subst d
   obtain⟨A,b,hr⟩:=z.at k
   simp[Value.cells] at m
   rw[m] at b;simp at b;subst b
   exact ry hr
theorem DG {CR:AV→Value→Prop}:∀ {ps:List (Nat×AV)} {vs:List (Nat×Value)},RepParts J β h w ps vs→(∀ p ∈ ps,∀ v,Rep J β h w p.2 v→Zd CR (aK p.2) v.cells.toList)→PartsRel CR (Hn ps) vs
 | [],vs,hr,_=>by rw[RepParts] at hr;rw[Hn,PartsRel];exact hr
 | (i,x)::r,vs,hr,d=>by
  rw[RepParts] at hr
  obtain⟨v,b,rfl,e,j⟩:=hr
  rw[Hn,PartsRel]
  exact⟨v,b,rfl,d (i,x) (by simp) v e,DG j (fun p k=>d p (by simp[k]))⟩
theorem Wl {CR:AV→Value→Prop}:∀ {ps:List (Nat×AV)} {vs:List (Nat×Value)},RepParts J β h w ps vs→(∀ p ∈ ps,∀ v,Rep J β h w p.2 v→Zd CR (cellsOf p.2) v.cells.toList)→PartsRel CR (Ek ps) vs
 | [],vs,hr,_=>by rw[RepParts] at hr;rw[Ek,PartsRel];exact hr
 | (i,x)::r,vs,hr,d=>by
  rw[RepParts] at hr
  obtain⟨v,b,rfl,e,j⟩:=hr
  rw[Ek,PartsRel]
  exact⟨v,b,rfl,d (i,x) (by simp) v e,Wl j (fun p k=>d p (by simp[k]))⟩
theorem aX {t:TypeId} {place:Nat→Option (Nat×Nat)} {i:TypeInfo} {z:Value} {vs:List (Nat×Value)} {cs:Array Value} (b:MD P t=some place) (hi:P.info? t=some i) (k:i.zero=some z)
  (m:Instr.fill place z.cells vs=some cs):P.built t vs=some cs:=by
 unfold MD at b
 unfold Program.built
 split at b
 ·rename_i n e j
  cases d:P.info? e with
  | none=>simp[d] at b
  | some ie=>simp[d] at b;subst b;simp only[hi,j,k,d];exact m
 ·rename_i fs j
  cases d:fs.toList.mapM fun f=>(P.info? f.type).map fun i=>(f.offset,i.size) with
  | none=>rw[d] at b;simp at b
  | some pl =>
   rw[d] at b;simp at b;subst b
   simp only[hi,j,k,d]
   simpa using m
 ·simp at b
theorem jf {t:TypeId} {ps:List (Nat×AV)} {vs:List (Nat×Value)} {v:AV} (S:SimH J β h w) (T:jT P t ps=some v) (M:RepParts J β h w ps vs) :
  ∃ u,(Instr.build t vs.toArray).run P w=.ok u w∧Rep J β h w v u:=by
 unfold jT at T
 obtain⟨place,A,V⟩:=ub T
 obtain⟨K,C⟩:=uc V
 cases D:ps.any (fun p=>Y1 p.2) with
 | true =>
  rw[D] at C
  cases F:ps.any (fun p=>aJ p.2) with
  | true =>
   rw[F] at C
   obtain⟨zz,d,k⟩:=ub C
   unfold hU at d
   obtain⟨i,hi,d⟩:=ub d
   cases e:i.zero with
   | none=>rw[e] at d;simp at d
   | some z =>
    rw[e] at d;simp at d;subst d
    cases m:K3 place (Hn ps) (I8 z.cells.toList) with
    | none=>rw[m] at k;simp at k
    | some c =>
     rw[m] at k;simp at k;subst k
     have b:PartsRel (Rep J β h w) (Hn ps) vs:=DG M (fun p G u I=>om I (Aey.1 K p G))
     have q:Zd (Rep J β h w) (I8 z.cells.toList) z.cells.toList:=by
      have:=GG (J:=J) (β:=β) (h:=h) (w:=w) z.cells.toList
      rw[Bx] at this
      exact⟨this.1.symm,this.2⟩
     obtain⟨cs,L,s⟩:=Xi b q m
     refine⟨.agg cs,run_build w t vs.toArray cs (aX A hi e (by simpa using L)),?_⟩
     rw[Rep]
     exact⟨cs.toList,rfl,Bx.2 ⟨s.1.symm,s.2⟩⟩
  | false =>
  rw[F] at C
  have X:=C
  obtain⟨zz,d,k⟩:=ub X
  obtain⟨i,z,hi,e,rfl,Y,e1,e2⟩:=Ov d
  cases m:K3 place (Ek ps) (I8 z.cells.toList) with
  | none=>rw[m] at k;simp at k
  | some c =>
   rw[m] at k;simp at k;subst k
   have b:PartsRel (RepC (J (ps.any fun p=>UQ p.2)) w) (Ek ps) vs:=Wl M (fun p G u I=>je S.jft I (by
     have:=Ae9.1 F p G;simpa using this) (fun ho=>by rw[List.any_eq_true];exact⟨p,G,ho⟩))
   have q:Zd (RepC (J (ps.any fun p=>UQ p.2)) w) (I8 z.cells.toList) z.cells.toList:=by
    refine⟨U9 _,fun j x u hx I=>?_⟩
    obtain⟨y,O,g2⟩:=KQ (w:=w) (J:=J (ps.any fun p=>UQ p.2)) Y j u I
    rw[hx] at O;simp at O;subst O;exact g2
   obtain⟨cs,L,s⟩:=Xi b q m
   refine⟨.agg cs,run_build w t vs.toArray cs (aX A hi e (by simpa using L)),?_⟩
   rw[Rep]
   exact⟨cs.toList,rfl,s.1.symm,IM s⟩
 | false =>
  rw[D] at C
  obtain⟨zz,d,k⟩:=ub C
  unfold hU at d
  obtain⟨i,hi,d⟩:=ub d
  cases e:i.zero with
  | none=>rw[e] at d;simp at d
  | some z =>
   rw[e] at d;simp at d;subst d
   cases m:K3 place (Ek ps) (I8 z.cells.toList) with
   | none=>rw[m] at k;simp at k
   | some c =>
    rw[m] at k;simp at k;subst k
    have b:PartsRel (Rep J β h w) (Ek ps) vs:=Wl M (fun p G u I=>U' I (by
      have:=Ae9.1 D p G;simpa using this) (Aey.1 K p G))
    have q:Zd (Rep J β h w) (I8 z.cells.toList) z.cells.toList:=by
     have:=GG (J:=J) (β:=β) (h:=h) (w:=w) z.cells.toList
     rw[Bx] at this
     exact⟨this.1.symm,this.2⟩
    obtain⟨cs,L,s⟩:=Xi b q m
    refine⟨.agg cs,run_build w t vs.toArray cs (aX A hi e (by simpa using L)),?_⟩
    rw[Rep]
    exact⟨cs.toList,rfl,Bx.2 ⟨s.1.symm,s.2⟩⟩
end
end Gx
namespace Gx
open Go
section
variable {R:Type} {r:R} {P:Program} {J:Bool→Nat→Prop} {β:Bu} {h:Ao} {w:World}
def PRd (n:Nat) (x:LA) (rd:Nat→Option Value):Prop:=∀ j q,j<n→x[j]?=some q →
 (∀ k m,q=.int k m→rd j=some (.int k m))∧(∀ b,q=.bool b→rd j=some (.bool b))∧(∀ s,q=.str s→rd j=some (.string ⟨⟨s⟩⟩))
theorem PRd.drop {n m o:Nat} {x:LA} {xs:Array Value} {ox sz:Nat} (u:PRd sz x (fun j=>xs[ox+j]?)) (C:o+m≤sz) (hn:n=m):PRd n (x.drop o) (fun j=>(xs.extract ox (ox+sz))[o+j]?):=by
 subst hn
 intro j q D hq
 rw[Ac2] at hq
 have d:=u (o+j) q (by omega) hq
 have e:∀ v,xs[ox+(o+j)]?=some v→(xs.extract ox (ox+sz))[o+j]?=some v:=by
  intro v i
  have y:=(Ac3.1 i).1
  rw[Array.getElem?_extract,if_pos (by omega)];exact i
 exact⟨fun k m z=>e _ (d.1 k m z),fun b A=>e _ (d.2.1 b A),fun s hs=>e _ (d.2.2 s hs)⟩
theorem Tj {t:TypeId} {d:TypeDesc} {xs:Array Value} {ox:Nat} {v:Value} (b:P.underlying t=some d) (e:d.isRow=false) (i:xs[ox]?=some v):(part t xs ox).run P w=.ok v w:=by
 unfold part isAgg
 simp only[Sem.run_bind,run_underlying b,Result.andThen_ok]
 cases d<;>simp_all[TypeDesc.isRow]
theorem Xk {t:TypeId} {d:TypeDesc} {xs:Array Value} {ox s:Nat} (b:P.underlying t=some d) (e:d.isRow=true) (hs:Bh P t=some s):(part t xs ox).run P w=.ok (.agg (xs.extract ox (ox+s))) w:=by
 unfold part isAgg
 have:=B5 hs w
 simp only[Sem.run_bind,run_underlying b,Result.andThen_ok]
 cases d<;>simp_all[TypeDesc.isRow]
def oq (P:Program) (w:World) (D:Nat) (step:TypeId→LA→LA→(Bool→O R)→O R):Prop :=
 ∀ (r:R) (t:TypeId) (s:Nat) (x y:LA) (k:Bool→O R) (xs ys:Array Value) (ox oy:Nat),Bh P t=some s→0<s→step t x y k=some r→PRd s x (fun j=>xs[ox+j]?)→PRd s y (fun j=>ys[oy+j]?) →
  ∃ b a a',k b=some r∧(part t xs ox).run P w=.ok a w∧(part t ys oy).run P w=.ok a' w∧(Op.equalIn D t a a').run P w=.ok b w
theorem BK {D:Nat} {step:TypeId→LA→LA→(Bool→O R)→O R} (hs:oq P w D step) {x y:LA} {xs ys:Array Value} {ox oy sz:Nat} (u:PRd sz x (fun j=>xs[ox+j]?)) (v:PRd sz y (fun j=>ys[oy+j]?)) :
  ∀ (fs:List Field) {k:Bool→O R},fs.all (jP P sz)=true→Xa step x y (fs.map fun f=>(f.offset,f.type)) k=some r →
  ∃ b,k b=some r∧(Op.eqFields D (xs.extract ox (ox+sz)) (ys.extract oy (oy+sz)) fs).run P w=.ok b w
 | [],k,_,m=>⟨true,by simpa[Xa] using m,by simp[Op.eqFields]⟩
 | f::fs,k,q,m=>by
  rw[Acl,Ab6] at q
  obtain⟨i,q⟩:=q
  unfold jP at i
  cases d:Bh P f.type with
  | none=>rw[d] at i;simp at i
  | some s =>
   rw[d] at i
   simp only[Ab6,Afp] at i
   obtain⟨L,z,A⟩:=i
   have e : f.name ≠ "_" := by simpa using A
   rw[Acc,Xa] at m
   obtain⟨b,a,M,C,F,G,I⟩:=hs r f.type s _ _ _ (xs.extract ox (ox+sz)) (ys.extract oy (oy+sz)) f.offset f.offset d (by omega) m (u.drop z rfl) (v.drop z rfl)
   obtain⟨c,e1,K⟩:=BK hs u v fs q C
   refine⟨b&&c,e1,?_⟩
   rw[Op.eqFields,if_pos e]
   simp only[Sem.run_bind,F,G,I,Result.andThen_ok]
   cases b with
   | false=>simp
   | true=>simpa using K
theorem DH {D:Nat} {step:TypeId→LA→LA→(Bool→O R)→O R} (hs:oq P w D step) {x y:LA} {xs ys:Array Value} {ox oy sz:Nat} {e:TypeId} {s:Nat} (d:Bh P e=some s) (m:0<s) (u:PRd sz x (fun j=>xs[ox+j]?)) (v:PRd sz y (fun j=>ys[oy+j]?)) :
  ∀ (is:List Nat) {k:Bool→O R},(∀ i ∈ is,i*s+s≤sz)→Xa step x y (is.map fun i=>(i*s,e)) k=some r →
  ∃ b,k b=some r∧(Op.eqItems D e s (xs.extract ox (ox+sz)) (ys.extract oy (oy+sz)) is).run P w=.ok b w
 | [],k,_,q=>⟨true,by simpa[Xa] using q,by simp[Op.eqItems]⟩
 | i::is,k,z,q=>by
  have A:=z i (by simp)
  rw[Acc,Xa] at q
  obtain⟨b,a,M,C,F,G,I⟩:=hs r e s _ _ _ (xs.extract ox (ox+sz)) (ys.extract oy (oy+sz)) (i*s) (i*s) d m q (u.drop A rfl) (v.drop A rfl)
  obtain⟨c,e1,K⟩:=DH hs d m u v is (fun j L=>z j (by simp[L])) C
  refine⟨b&&c,e1,?_⟩
  rw[Op.eqItems]
  simp only[Sem.run_bind,F,G,I,Result.andThen_ok]
  cases b with
  | false=>simp
  | true=>simpa using K
theorem KS:∀ (d D:Nat),d≤D→oq P w D (XY (R:=R) P d)
 | 0,D,_=>fun r t s x y k xs ys ox oy hs q j=>by simp[XY] at j
 | d+1,D,hD=>fun r t s x y k xs ys ox oy hs q j O S=>by
  obtain⟨D,rfl⟩:∃ D',D=D'+1:=⟨D - 1,by omega⟩
  rw[XY] at j
  split at j
  ·rename_i M m
   obtain⟨u,A,j⟩:=ub j
   obtain⟨a,F,j⟩:=ub j
   obtain⟨v,C,j⟩:=ub j
   obtain⟨b,G,j⟩:=ub j
   have T:u=.int M a:=by
    unfold CU at F;split at F
    ·obtain⟨U,V⟩:=uc F;simp[Jp] at U V;subst U V;rfl
    ·simp at F
   have eb:v=.int M b:=by
    unfold CU at G;split at G
    ·obtain⟨U,X⟩:=uc G;simp[Jp] at U X;subst U X;rfl
    ·simp at G
   have px:=(O 0 u q (by rw[←Acm];exact A)).1 M a T
   have py:=(S 0 v q (by rw[←Acm];exact C)).1 M b eb
   exact⟨_,_,_,j,Tj m rfl (by simpa using px),Tj m rfl (by simpa using py),run_equalIn_int w D t M M a b m⟩
  ·rename_i m
   obtain⟨u,A,j⟩:=ub j
   obtain⟨a,F,j⟩:=ub j
   obtain⟨v,C,j⟩:=ub j
   obtain⟨b,G,j⟩:=ub j
   have T:u=.bool a:=by unfold asBool at F;split at F<;>simp_all
   have eb:v=.bool b:=by unfold asBool at G;split at G<;>simp_all
   have px:=(O 0 u q (by rw[←Acm];exact A)).2.1 a T
   have py:=(S 0 v q (by rw[←Acm];exact C)).2.1 b eb
   exact⟨_,_,_,j,Tj m rfl (by simpa using px),Tj m rfl (by simpa using py),run_equalIn_bool' w D t a b m⟩
  ·rename_i m
   obtain⟨u,A,j⟩:=ub j
   obtain⟨a,F,j⟩:=ub j
   obtain⟨v,C,j⟩:=ub j
   obtain⟨b,G,j⟩:=ub j
   have T:u=.str a:=by unfold UO at F;split at F<;>simp_all
   have eb:v=.str b:=by unfold UO at G;split at G<;>simp_all
   have px:=(O 0 u q (by rw[←Acm];exact A)).2.2 a T
   have py:=(S 0 v q (by rw[←Acm];exact C)).2.2 b eb
   refine⟨_,_,_,j,Tj m rfl (by simpa using px),Tj m rfl (by simpa using py),?_⟩
   have:=run_equalIn_string w D t ⟨⟨a⟩⟩ ⟨⟨b⟩⟩ m
   rw[this]
   simp[ByteArray.toList_eq]
  ·rename_i fs m
   obtain⟨sz,z,j⟩:=ub j
   obtain⟨Y,K⟩:=oa j
   simp only[Bool.or_eq_false_iff,Bool.not_eq_false'] at Y
   rw[hs] at z;simp at z;subst z
   obtain⟨b,h1,h2⟩:=BK (KS d D (by omega)) O S fs.toList Y.2 K
   refine⟨b,_,_,h1,Xk m rfl hs,Xk m rfl hs,?_⟩
   have hfo:P.fieldsOf t=fs:=by simp[Program.fieldsOf,m]
   rw[run_equalIn_struct w D t _ _ (by rw[hfo];exact m) Y.1,hfo]
   exact h2
  ·rename_i n e m
   obtain⟨s',I,j⟩:=ub j
   obtain⟨sz,z,j⟩:=ub j
   obtain⟨Y,K⟩:=uc j
   simp only[Ab6,Afp] at Y
   rw[hs] at z;simp at z;subst z
   obtain⟨b,h1,h2⟩:=DH (KS d D (by omega)) I (by omega) O S (List.range n) (fun i hi=>by
    have:=List.mem_range.1 hi
    have h3:(i+1)*s'≤n*s':=Aco _ this
    rw[Agi] at h3;omega) K
   refine⟨b,_,_,h1,Xk m rfl hs,Xk m rfl hs,?_⟩
   cases hi:P.info? e with
   | none=>simp[Bh,hi] at I
   | some i =>
    have L:P.cellsOf e=s':=by simp[Bh,hi] at I;simp[Program.cellsOf,hi,I]
    rw[run_equalIn_array w D _ _ m hi,L]
    exact h2
  ·simp at j
theorem lp {c:LA} {org:Bool} {v:Value} {a:LA} {x:AV} (i:jQ x=some a) (hr:Rep J β h w x v):∃ cs:List Value,v=.agg ⟨cs⟩∧cs.length=a.length∧∀ n,PRd n a (fun j=>(⟨cs⟩:Array Value)[0+j]?):=by
 unfold jQ at i
 split at i
 ·simp at i;subst i
  rw[Rep] at hr
  obtain⟨cs,A,y,F⟩:=hr
  refine⟨cs,A,y,fun n j q _ hq=>?_⟩
  rw[Bg] at F
  obtain⟨u,z,d⟩:=F j q hq
  simp only[Ab8] at z ⊢
  refine⟨fun k m C=>?_,fun b D=>?_,fun s hs=>?_⟩
  ·subst C;rw[RepC] at d;subst d;simpa using z
  ·subst D;rw[RepC] at d;subst d;simpa using z
  ·subst hs;rw[RepC] at d;subst d;simpa using z
 ·simp at i;subst i
  rw[Rep] at hr
  obtain⟨cs,A,y⟩:=hr
  rw[Bx] at y
  refine⟨cs,A,y.1,fun n j q _ hq=>?_⟩
  have e:j<cs.length:=by rw[y.1];exact(Ab7.1 hq).1
  have d:=y.2 j q cs[j] hq (Ab1 e)
  simp only[Ab8]
  refine⟨fun k m C=>?_,fun b D=>?_,fun s hs=>?_⟩
  ·subst C;rw[Rep] at d;simp[e,d]
  ·subst D;rw[Rep] at d;simp[e,d]
  ·subst hs;rw[Rep] at d;simp[e,d]
 ·simp at i
theorem lq {op:BinOp} {t:TypeId} {x y:AV} {k:AV→O R} {vx vy:Value} (i:hI P t op x y k=some r) (C:Rep J β h w x vx) (D:Rep J β h w y vy) (ox oy:Operand) :
  ∃ v vc,k v=some r∧(do eqGuard op t ox oy vx vy;binOp op t vx vy:Sem Value).run P w=.ok vc w∧Rep J β h w v vc:=by
 unfold hI at i
 split at i
 ·rename_i a b S T
  obtain⟨s,hs,i⟩:=ub i
  obtain⟨F,i⟩:=uc i
  simp only[Ab6,Afp,Afc] at F
  obtain⟨Y,G,I,m,U⟩:=F
  have G:=Ab5 G
  have I:=Ab5 I
  obtain⟨cs,rfl,K,px⟩:=lp (c:=[]) (org:=false) S C
  obtain⟨j,rfl,V,py⟩:=lp (c:=[]) (org:=false) T D
  have L:=run_eqGuard_agg w op t ox oy ⟨cs⟩ ⟨j⟩ U
  have whole:∀ (l:List Value),l.length=s→(⟨l⟩:Array Value).extract 0 (0+s)=⟨l⟩:=by
   intro l K;subst K;simp
  have key:∀ {kk:Bool→O R},XY P 8 t a b kk=some r→∃ c,kk c=some r∧(Op.equal t (.agg ⟨cs⟩) (.agg ⟨j⟩)).run P w=.ok c w:=by
   intro kk X
   obtain⟨c,u,u',e1,q,e3,e4⟩:=KS 8 10000 (by omega) r t s a b kk ⟨cs⟩ ⟨j⟩ 0 0 hs (by omega) X (px s) (py s)
   refine⟨c,e1,?_⟩
   have A:∃ d,P.underlying t=some d∧d.isRow=true:=by
    unfold tM at m
    split at m
    ·rename_i fs z;exact⟨_,z,rfl⟩
    ·rename_i n e z;exact⟨_,z,rfl⟩
    ·simp at m
   obtain⟨d,z,M⟩:=A
   rw[Xk z M hs,whole cs (by omega)] at q
   rw[Xk z M hs,whole j (by omega)] at e3
   simp only[Result.ok.injEq,and_true] at q e3
   subst q e3
   exact e4
  split at i
  ·obtain⟨c,e1,q⟩:=key i
   refine⟨_,.bool c,e1,?_,by rw[Rep]⟩
   simp only[Sem.run_bind,L,Result.andThen_ok,binOp,q,Sem.run_pure]
  ·obtain⟨c,e1,q⟩:=key i
   refine⟨_,.bool (!c),e1,?_,by rw[Rep]⟩
   simp only[Sem.run_bind,L,Result.andThen_ok,binOp,q,Sem.run_pure]
  ·simp at i
 ·exact o_ i C D ox oy
theorem lw {t:TypeId} {x y:AV} {b:Bool} {vx vy:Value} {g:A6} (S:SimH J β h w) (L:Looks g h) (d:tR g x y=some b) (u:o7 P t=true) (i:Rep J β h w x vx) (j:Rep J β h w y vy) :
  ∃ p q,vx=.pointer p∧vy=.pointer q∧(Op.equal t (.pointer p) (.pointer q)).run P w=.ok b w:=by
 unfold o7 at u
 split at u
 ·rename_i e v
  split at u
  ·rename_i n hn
   have D:n≠0:=fun e=>by subst e;simp at u
   have v:=run_underlying (w:=w) v
   have hs:(Go.sizeOf e).run P w=.ok n w:=B5 hn w
   have nn:∀ q:Option Addr,(Op.equal t (.pointer none) (.pointer q)).run P w=.ok q.isNone w:=fun q=>by
    unfold Op.equal Op.maxDepth Op.equalIn;simp[v]
   have A:∀ a:Addr,(Op.equal t (.pointer (some a)) (.pointer none)).run P w=.ok false w:=fun q=>by
    unfold Op.equal Op.maxDepth Op.equalIn;simp[v]
   unfold tR at d
   split at d
   ·simp only[Rep] at i j;subst i j;simp at d;subst d;exact⟨_,_,rfl,rfl,nn none⟩
   ·simp only[Rep] at i j;obtain⟨_,k,o,_,rfl,_⟩:=j;subst i;simp at d;subst d;exact⟨_,_,rfl,rfl,nn (some _)⟩
   ·simp only[Rep] at i j;obtain⟨_,k,o,_,rfl,_⟩:=i;subst j;simp at d;subst d;exact⟨_,_,rfl,rfl,A _⟩
   ·simp only[Rep] at i j;rw[RepC] at j;obtain⟨a,rfl,_⟩:=j;subst i;simp at d;subst d;exact⟨_,_,rfl,rfl,nn (some _)⟩
   ·simp only[Rep] at i j;rw[RepC] at i;obtain⟨a,rfl,_⟩:=i;subst j;simp at d;subst d;exact⟨_,_,rfl,rfl,A _⟩
   ·rename_i O o1 T o2
    obtain⟨z,M,d⟩:=ub d
    obtain⟨F,d⟩:=uc d
    have F:=Ab5 F
    subst F
    obtain⟨G,m⟩:=Co L M
    rw[Rep] at i j
    obtain⟨x1,U,V,⟨I,_⟩,rfl,C⟩:=i
    obtain⟨x2,X,Y,⟨K,_⟩,rfl,s⟩:=j
    rw[G] at I K;simp at I K;subst I K
    rcases C with C | C
    ·rw[C] at m;cases m
    ·rcases s with s | s
     ·rw[s] at m;cases m
     ·rw[C] at s;simp at s;obtain⟨rfl,rfl⟩:=s
      refine⟨_,_,rfl,rfl,?_⟩
      simp at d
      unfold Op.equal Op.maxDepth Op.equalIn
      simp[v,hs,D,sameAddr]
      by_cases e:o1=o2
      ·subst e;simp at d;simp[d]
      ·rw[CN e] at d;subst d;simp;exact e
   ·cases d
  ·cases u
 ·cases u
theorem lx {g:A6} {op:BinOp} {t:TypeId} {x y:AV} {k:AV→O R} {vx vy:Value} (S:SimH J β h w) (m:Looks g h) (d:iC P g t op x y k=some r) (e:Rep J β h w x vx) (i:Rep J β h w y vy) (ox oy:Operand) :
  ∃ v vc,k v=some r∧(do eqGuard op t ox oy vx vy;binOp op t vx vy:Sem Value).run P w=.ok vc w∧Rep J β h w v vc:=by
 unfold iC at d
 split at d
 ·rename_i b s
  obtain⟨u,d⟩:=uc d
  obtain⟨p,q,rfl,rfl,j⟩:=lw S m s u e i
  split at d
  ·refine⟨_,.bool b,d,?_,by rw[Rep]⟩
   simp[eqGuard,binOp,j]
  ·refine⟨_,.bool (!b),d,?_,by rw[Rep]⟩
   simp[eqGuard,binOp,j]
  ·cases d
 ·exact lq d e i ox oy
end
end Gx
namespace Gx
open Go Go.MapKept
section
variable {R:Type} {r:R} {P:Program} {J:Bool→Nat→Prop} {β:Bu} {h:Ao} {w:World} {g:A6}
theorem R_:∀ (l:List Int) (n:Int),aL (l.map fun m=>.int .i64 m) n=true↔n ∈ l
 | [],n=>by simp[aL]
 | m::r,n=>by
  rw[Acc,aL]
  by_cases e:n=m
  ·simp[e]
  ·simp[e,R_ r n]
theorem ly {c:LA} {es:Array MapEntry} {l:List Int} (d:es.toList.map (fun e=>(e.key,e.val))=l.map (fun n=>((.int .i64 n:Value),(.bool true:Value)))) {x:MapEntry} (i:x ∈ es.toList):∃ n,n ∈ l∧x.key=.int .i64 n∧x.val=.bool true:=by
 have:=Af7 (f:=fun e:MapEntry=>(e.key,e.val)) i
 rw[d] at this
 obtain⟨n,hn,b⟩:=Acs.1 this
 simp at b
 exact⟨n,hn,b.1.symm,b.2.symm⟩
theorem t_ {es:Array MapEntry} {l:List Int} (d:es.toList.map (fun e=>(e.key,e.val))=l.map (fun n=>((.int .i64 n:Value),(.bool true:Value)))) {n:Int} (hn:n ∈ l):∃ x ∈ es.toList,x.key=.int .i64 n:=by
 have:=Af7 (f:=fun n:Int=>((.int .i64 n:Value),(.bool true:Value))) hn
 rw[←d] at this
 obtain⟨x,i,b⟩:=Acs.1 this
 simp at b
 exact⟨x,i,b.1⟩
theorem lz {c:LA} {es:Array MapEntry} (D:wo c es) (n:Int) :
  (aL c n=false∧Instr.findNow (.int .i64) (.int .i64 n) es.toList 0=some none) ∨
  (aL c n=true∧∃ j e,Instr.findNow (.int .i64) (.int .i64 n) es.toList 0=some (some (j,.bool true))∧es[j]?=some e∧e.key=.int .i64 n∧e.val=.bool true):=by
 obtain⟨l,rfl,v⟩:=D
 have y:∀ x ∈ es.toList,IsKey (.int .i64) x.key:=fun x z=>by
  obtain⟨m,_,i,_⟩:=ly (c:=[]) v z
  rw[i];simp[IsKey]
 rcases findNow_spec (d:=.int .i64) (k:=.int .i64 n) (by simp[IsKey]) es.toList 0 y with⟨i,u⟩ | ⟨j,e,i,u,C⟩
 ·left
  refine⟨?_,i⟩
  cases F:aL (l.map fun m=>.int .i64 m) n with
  | false=>rfl
  | true =>
   obtain⟨x,z,G⟩:=t_ v ((R_ l n).1 F)
   exact absurd G (u x z)
 ·right
  have q:e ∈ es.toList:=Af0 u
  obtain⟨m,A,b,s⟩:=ly (c:=[]) v q
  rw[C] at b;simp at b;subst b
  refine⟨(R_ l n).2 A,j,e,?_,by simpa using u,C,s⟩
  rw[i,s,Ab8]
theorem aY {t:TypeId} (hs:jY P t=true):∃ kt et,P.underlying t=some (.map kt et)∧P.underlying kt=some (.int .i64)∧∀ w,(zeroValue et).run P w=.ok (.bool false) w:=by
 unfold jY at hs
 split at hs
 ·rename_i kt et k
  simp only[Ab6] at hs
  obtain⟨e,j⟩:=hs
  refine⟨kt,et,k,?_,fun w=>?_⟩
  ·split at e
   ·assumption
   ·cases e
  ·split at j
   ·rename_i b
    unfold aG at b
    cases hi:P.info? et with
    | none=>rw[hi] at b;simp at b
    | some i =>
     rw[hi] at b
     cases d:i.zero with
     | none=>simp[d] at b
     | some z =>
      simp[d] at b
      have:z=.bool false:=by
       have h0:=Y7 (J:=fun _ _=>False) (β:=fun _=>none) (h:=[]) (w:=w) z
       rw[b,Rep] at h0;exact h0
      subst this
      simp[zeroValue,typeInfo,hi,d]
   ·cases j
 ·cases hs
theorem ta {b:Nat} {x:Blk} {v:Value} (S:SimH J β h w) (i:Ag h b=some x) (j:x.dead=false) (hr:Rep J β h w (.omap b) v) :
  ∃ k ob,x.mp=true∧β b=some (k,0)∧v=xk x.sz k∧w.heap[k]?=some ob∧ObjIs x ob∧x.sealed=false∧x.pure=true:=by
 rw[Rep] at hr
 obtain⟨y,k,⟨d,m⟩,hr⟩:=hr
 rw[i] at d;simp at d;subst d
 rcases hr with hr | ⟨q,s⟩
 ·simp[j] at hr
 ·obtain⟨u,z,D,ob,e,A,C,_⟩:=S.mblk b x i j m
  rw[q] at e;simp at e;subst e
  exact⟨k,ob,m,q,s,A,C,z,u⟩
theorem qw {b:Nat} {x:Blk} {v:Value} (S:SimH J β h w) (i:Ag h b=some x) (j:x.dead=false) (m:x.sz=0) (hr:Rep J β h w (.omap b) v) :
  ∃ k es clk,x.mp=true∧β b=some (k,0)∧v=.map (some k)∧w.heap[k]?=some (.map es clk)∧wo x.cells es∧x.sealed=false∧x.pure=true:=by
 obtain⟨k,ob,q,s,e,u,d,y,z⟩:=ta S i j hr
 rw[m] at e
 rcases d with⟨_,es,clk,rfl,d⟩ | ⟨d,_⟩
 ·exact⟨k,es,clk,q,s,e,u,d,y,z⟩
 ·omega
theorem vO {b:Nat} {x:Blk} {v:Value} (S:SimH J β h w) (i:Ag h b=some x) (j:x.dead=false) (m:x.sz=1) (hr:Rep J β h w (.omap b) v) :
  ∃ k s pos,x.mp=true∧β b=some (k,0)∧v=.pointer (some ⟨k,0,none⟩)∧w.heap[k]?=some (.stringIter ⟨⟨s⟩⟩ pos)∧x.cells=[.str s,.int .i64 (pos:Int)]∧x.sealed=false∧x.pure=true:=by
 obtain⟨k,ob,q,u,e,y,d,z,A⟩:=ta S i j hr
 rw[m] at e
 rcases d with⟨d,_⟩ | ⟨_,s,pos,rfl,d⟩
 ·omega
 ·exact⟨k,s,pos,q,u,e,y,d,z,A⟩
theorem BL {k pos:Nat} {s:ByteArray} (b:w.heap[k]?=some (.stringIter s pos)):(getObj k).run P w=.ok (.stringIter s pos) w:=by
 simp[getObj,Sem.run,b]
theorem XZ {k pos:Nat} {s:ByteArray} (ob:Obj) (b:w.heap[k]?=some (.stringIter s pos)):(setObj k ob).run P w=.ok () { w with heap:=w.heap.setIfInBounds k ob }:=by
 simp[setObj,Sem.run,b]
theorem jg {d:Nat} {t:TypeId} {x:AV} {vx:Value} {k:AV→Do→O R} (S:SimH J β h w) (b:RR P d t x k=some r) (e:Rep J β h w x vx) :
  ∃ val ups,k val ups=some r∧(UpsFree d h ups→∃ vc w',(Instr.range t vx).run P w=.ok vc w'∧OpDone J β h w ups val vc w'):=by
 unfold RR at b
 split at b
 ·rename_i s i
  rw[Rep] at e;subst e
  refine⟨_,_,b,fun j=>⟨.pointer (some ⟨w.heap.size,0,none⟩),w.alloc (.stringIter ⟨⟨s⟩⟩ 0),?_,?_⟩⟩
  ·simp only[Instr.range,Sem.run_bind,run_underlying i,Result.andThen_ok,Sem.run_pure];rfl
  have A:=Step.newObj (x:={ dead:=false,sealed:=false,pure:=true,taint:=false,sz:=1,cells:=[.str s,.int .i64 0],mp:=true }) (ob:=.stringIter ⟨⟨s⟩⟩ 0) S (j.nid (by simp[A3])) rfl rfl rfl (.inr ⟨rfl,s,0,rfl,rfl⟩) rfl
  refine⟨_,_,A,?_⟩
  rw[Rep]
  exact⟨{ dead:=false,sealed:=false,pure:=true,taint:=false,sz:=1,cells:=[.str s,.int .i64 0],mp:=true },w.heap.size,⟨by simp[Ah,Ac],rfl⟩,.inr ⟨by simp,rfl⟩⟩
 ·simp at b
theorem mA {d:Nat} {t:TypeId} {it:AV} {b:Bool} {vi:Value} {k:AV→Do→O R} (S:SimH J β h w) (K:Looks g h) (v:iB g it b k=some r) (hi:Rep J β h w it vi) :
  ∃ val ups,k val ups=some r∧(UpsFree d h ups→∃ vc w',(Instr.next vi b t).run P w=.ok vc w'∧OpDone J β h w ups val vc w'):=by
 unfold iB at v
 split at v
 ·rename_i L
  obtain⟨x,M,T⟩:=ub v
  obtain⟨G,m⟩:=uc T
  simp only[Ab6] at G
  obtain⟨q,y⟩:=G
  have y:=Ab5 y
  obtain⟨I,z⟩:=Co K M
  obtain⟨kk,s,pos,_,U,rfl,u,A,C,D⟩:=vO S I z y hi
  rw[A] at m
  simp only at m
  have F:=Ng u
  cases e:decide ((pos:Int)<(s.length:Int)) with
  | true =>
   rw[e] at m
   have e:pos<s.length:=by have:=of_decide_eq_true e;omega
   have i:pos<(⟨⟨s⟩⟩:ByteArray).size:=e
   refine⟨_,_,m,fun _=>⟨.tuple #[.bool true,goInt pos,.int .i32 ((rn s pos).1:Nat)],{ w with heap:=w.heap.setIfInBounds kk (.stringIter ⟨⟨s⟩⟩ (pos+(rn s pos).2)) },?_,J,β,?_,?_⟩⟩
   ·simp[Instr.next,BL u,i,XZ _ u,rn]
   ·show Step J β h w J β (Dd h L _) _
    refine Step.setObj (ob:=.stringIter ⟨⟨s⟩⟩ pos) S I z q U u (by simp[F]) (fun j V=>by simp[Adw,Ne.symm V]) (by simp) rfl rfl rfl (.inr ⟨y,s,pos+(rn s pos).2,rfl,by simp⟩) z C D rfl q
   ·rw[Rep]
    refine⟨_,rfl,?_⟩
    simp[Reps,Rep,goInt]
  | false =>
   rw[e] at m
   have e:¬ pos<s.length:=by have:=of_decide_eq_false e;omega
   have i:¬ pos<(⟨⟨s⟩⟩:ByteArray).size:=e
   refine⟨_,_,m,fun _=>⟨.tuple #[.bool false],w,?_,J,β,Step.refl S,?_⟩⟩
   ·simp[Instr.next,BL u,i]
   ·rw[Rep]
    refine⟨_,rfl,?_⟩
    simp[Reps,Rep]
 ·simp at v
theorem aZ {d:Nat} {t:TypeId} {k:AV→Do→O R} (S:SimH J β h w) (b:Tq d none k=some r) :
  ∃ val ups,k val ups=some r∧(UpsFree d h ups→∃ vc w',(Instr.makeMap t none).run P w=.ok vc w'∧OpDone J β h w ups val vc w'):=by
 unfold Tq at b
 refine⟨_,_,b,fun e=>⟨.map (some w.heap.size),w.alloc (.map #[] 0),rfl,?_⟩⟩
 have A:=Step.newObj (x:={ dead:=false,sealed:=false,pure:=true,taint:=false,sz:=0,cells:=[],mp:=true }) (ob:=.map #[] 0) S (e.nid (by simp[A3])) rfl rfl rfl (.inl ⟨rfl,#[],0,rfl,[],rfl,by simp⟩) rfl
 refine⟨_,_,A,?_⟩
 rw[Rep]
 exact⟨{ dead:=false,sealed:=false,pure:=true,taint:=false,sz:=0,cells:=[],mp:=true },w.heap.size,⟨by simp[Ah,Ac],rfl⟩,.inr ⟨by simp,rfl⟩⟩
theorem mB {t:TypeId} {m key:AV} {c:Bool} {vm vk:Value} {k:AV→O R} (S:SimH J β h w) (A:Looks g h) (s:iA P g t m key c k=some r) (C:Rep J β h w m vm) (i:Rep J β h w key vk) :
  ∃ v vc,k v=some r∧(Instr.lookup t vm vk c).run P w=.ok vc w∧Rep J β h w v vc:=by
 unfold iA at s
 split at s
 ·rename_i b n
  obtain⟨hs,D⟩:=uc s
  obtain⟨x,F,G⟩:=ub D
  obtain⟨d,I⟩:=uc G
  simp only[Ab6] at d
  obtain⟨d,u⟩:=d
  have u:=Ab5 u
  obtain⟨K,L⟩:=Co A F
  rw[Rep] at i;subst i
  obtain⟨kk,es,clk,_,M,rfl,i,hr,_,_⟩:=qw S K L u C
  obtain⟨kt,et,u1,u2,u3⟩:=aY hs
  refine⟨_,.bool (aL x.cells n),I,?_,by rw[Rep]⟩
  have q:IsKey (.int .i64) (.int .i64 n):=by simp[IsKey]
  rcases lz hr n with⟨y,z⟩ | ⟨y,j,e,z,_,_,_⟩
  ·rw[y]
   simp[Instr.lookup,run_underlying u1,run_getObj_map i,run_checkKey u2 q,run_findKey u2 z,u3,Result.andThen]
  ·rw[y]
   simp[Instr.lookup,run_underlying u1,run_getObj_map i,run_checkKey u2 q,run_findKey u2 z,Result.andThen]
 ·simp at s
theorem jh {t:TypeId} {m key val:AV} {vm vk vv:Value} {k:AV→Do→O R} (S:SimH J β h w) (X:Looks g h) (D:RQ P g t m key val k=some r) (Y:Rep J β h w m vm) (q:Rep J β h w key vk) (M:Rep J β h w val vv) :
  ∃ ups,k .undef ups=some r∧∃ J' β' w',(Instr.mapUpdate t vm vk vv).run P w=.ok () w'∧Step J β h w J' β' (Ah ups h) w':=by
 unfold RQ at D
 split at D
 ·rename_i b n
  obtain⟨hs,h1⟩:=uc D
  obtain⟨x,hx,h2⟩:=ub h1
  obtain⟨d,h3⟩:=uc h2
  simp only[Ab6] at d
  obtain⟨d,y⟩:=d
  have y:=Ab5 y
  obtain⟨F,z⟩:=Co X hx
  simp only[Rep] at q M;subst q M
  obtain⟨kk,es,clk,_,T,rfl,q,hr,A,C⟩:=qw S F z y Y
  obtain⟨kt,et,u1,u2,u3⟩:=aY hs
  have s:IsKey (.int .i64) (.int .i64 n):=by simp[IsKey]
  have hlt:=Ng q
  refine⟨_,h3,J,β,?_⟩
  rcases lz hr n with⟨G,I⟩ | ⟨G,j,e,I,U,V,g5⟩
  ·refine⟨{ w with heap:=w.heap.setIfInBounds kk (.map (es.push { key:=.int .i64 n,val:=.bool true,born:=clk }) (clk+1)) },?_,?_⟩
   ·simp[Instr.mapUpdate,run_underlying u1,run_getObj_map q,run_checkKey u2 s,run_findKey u2 I,run_setObj_map _ q,Result.andThen]
   ·refine Step.setObj S F z d T q (heap_set q).1 (fun j K=>(heap_set q).2 j K) (by simp) rfl rfl rfl (.inl ⟨y,_,_,rfl,?_⟩) z A C rfl d
    obtain⟨l,u,v⟩:=hr
    refine⟨l++[n],?_,?_⟩
    ·show tQ x.cells n=_
     unfold tQ;rw[G,u];simp
    ·simp[v]
  ·refine⟨{ w with heap:=w.heap.setIfInBounds kk (.map (es.modify j fun e=>{ e with key:=.int .i64 n,val:=.bool true }) clk) },?_,?_⟩
   ·simp[Instr.mapUpdate,run_underlying u1,run_getObj_map q,run_checkKey u2 s,run_findKey u2 I,U,V,run_keyThatStays s,run_setObj_map _ q,Result.andThen]
   ·refine Step.setObj S F z d T q (heap_set q).1 (fun j K=>(heap_set q).2 j K) (by simp) rfl rfl rfl (.inl ⟨y,_,_,rfl,?_⟩) z A C rfl d
    obtain⟨l,u,v⟩:=hr
    refine⟨l,?_,?_⟩
    ·show tQ x.cells n=_
     unfold tQ;rw[G,u];rfl
    ·have:es.modify j (fun e=>{ e with key:=.int .i64 n,val:=.bool true })=es:=by
      apply Agf
      intro i
      rw[Adt]
      split
      ·rename_i L;subst L
       rw[U];simp;rw[←V,←g5]
      ·rfl
     rw[this];exact v
 ·simp at D
end
end Gx
namespace Gx
open Go
def KT (E:Env):Prop:=∀ (R:Type) (r:R) (k:AV→Do→O R) (J:Bool→Nat→Prop) (β:Bu) (h:Ao) (w:World) (g:A6) (d f:Nat) (args:LA) (vs:List Value),
 SimH J β h w→Looks g h→iD E g d f args k=some r→Reps J β h w args vs →
 ∃ val ups,k val ups=some r∧(UpsFree d h ups→Calls E.P f vs.toArray w fun e w'=>∃ vc,e=.returned vc∧OpDone J β h w ups val vc w')
section
variable {R:Type} {r:R} {P:Program} {J J':Bool→Nat→Prop} {β:Bu} {h:Ao} {w w':World} {g:A6} {o:Oper} {a:Act} {next:Act→World→Prop} {Q:Exit→Act→World→Prop}
theorem Ev {vc:Value} (b:(execOp a.eval o).run P w=.ok (.value vc) w') (hn:next (a.put o.dst vc) w'):o.wp P a w next Q:=by
 unfold Oper.wp;rw[b];exact hn
theorem mC (b:(execOp a.eval o).run P w=.ok .skip w') (hn:next (a.put o.dst undef) w'):o.wp P a w next Q:=by
 unfold Oper.wp;rw[b];exact hn
theorem OpDone.same (S:SimH J β h w) {v:AV} {vc:Value} (b:Rep J β h w v vc):OpDone J β h w [] v vc w:=⟨J,β,Step.refl S,b⟩
theorem a6 {s:Fe} (SS:SimS J β h w s a.tmps):∀ (xs:List Operand),Reps J β h w (xs.map (ev s)) (xs.map a.eval)
 | []=>by simp[Reps]
 | x::r=>by rw[Acc,Acc,Reps];exact⟨_,_,rfl,A5 SS x,a6 SS r⟩
theorem Sa {s:Fe} (SS:SimS J β h w s a.tmps):∀ (ps:List (Nat×Operand)),RepParts J β h w (ps.map fun p=>(p.1,ev s p.2)) (ps.map fun p=>(p.1,a.eval p.2))
 | []=>by simp[RepParts]
 | p::r=>by rw[Acc,Acc,RepParts];exact⟨_,_,rfl,A5 SS p.2,Sa SS r⟩
theorem a7 {s:Fe} (SS:SimS J β h w s a.tmps) (x:Option Operand):Rk J β h w (x.map (ev s)) (x.map a.eval):=by
 cases x with
 | none=>simp[Rk]
 | some x=>simp[Rk];exact A5 SS x
theorem Reps.append:∀ {c e:LA} {cs b:List Value},Reps J β h w c cs→Reps J β h w e b→Reps J β h w (c++e) (cs++b)
 | [],e,cs,b,d,i=>by rw[Reps] at d;subst d;exact i
 | x::r,e,cs,b,d,i=>by
  rw[Reps] at d
  obtain⟨u,j,rfl,k,m⟩:=d
  rw[Ada,Ada,Reps]
  exact⟨u,j++b,rfl,k,Reps.append m i⟩
theorem mD {J:Nat→Prop}:∀ {c:LA} {cs:List Value},Aw c=true→Reps (fun _ _=>False) (fun _=>none) [] w c cs→RepCs J w c (fun j=>cs[j]?) 0∧cs.length=c.length:=by
 intro c cs k hr
 rw[Bx] at hr
 refine⟨?_,hr.1⟩
 rw[Bg]
 intro j x d
 have b:j<cs.length:=by rw[hr.1];exact(Ab7.1 d).1
 refine⟨cs[j],by simp[b],?_⟩
 have e:=hr.2 j x cs[j] d (Ab1 b)
 have m:Aw [x]=true:=by
  clear hr e b
  induction c generalizing j with
  | nil=>simp at d
  | cons y r q =>
   have i:Aw r=true:=by unfold Aw at k;split at k<;>simp_all
   cases j with
   | zero=>simp at d;subst d;cases y<;>simp_all[Aw]
   | succ j=>exact q i j (by simpa using d)
 cases x<;>simp[Aw] at m<;>(rw[Rep] at e;rw[RepC];exact e)
theorem rz {co:Bool} {v:AV} {vv:Value} (h0:∀ (J:Bool→Nat→Prop) (β:Bu) (h:Ao),Rep J β h w v vv):Rep J β h w (tN co v) vv:=by
 unfold tN
 split
 ·rename_i c
  cases d:Aw c with
  | false=>exact h0 J β h
  | true =>
   have b:=h0 (fun _ _=>False) (fun _=>none) []
   rw[Rep] at b
   obtain⟨cs,rfl,e⟩:=b
   obtain⟨i,j⟩:=mD (J:=J false) d e
   rw[cond_true,Rep]
   exact⟨cs,rfl,j,i⟩
 ·exact h0 J β h
theorem KU {d:Nat}:∀ {l:List (Nat×Nat)} {j:Nat} {c:LA},1≤j→A3 (Ew d l j c).2 (nid d)=false
 | [],_,_,_=>by simp[Ew,A3]
 | (o,sz)::l,j,c,b=>by
  rw[Ew]
  split
  ·simp only[A3]
   rw[CN (by omega),cond_false]
   exact KU (by omega)
  ·exact KU (by omega)
theorem f7 {d:Nat} {t:TypeId} {k:AV→Do→O R} (S:SimH J β h w) (s:GC P g d t k=some r) :
  ∃ v val ups,(∃ i,P.info? t=some i∧i.zero=some v)∧k val ups=some r∧(UpsFree d h ups→∃ vc w',(Instr.box t v).run P w=.ok vc w'∧OpDone J β h w ups val vc w'):=by
 unfold GC at s
 split at s
 ·rename_i c m
  obtain⟨F,L⟩:=uc s
  simp only[Ab6] at F
  obtain⟨M,z⟩:=F
  obtain⟨v,T,U⟩:∃ v,(∃ i,P.info? t=some i∧i.zero=some v)∧RE v=.agg c:=by
   unfold aG at m
   cases hi:P.info? t with
   | none=>simp[hi] at m
   | some i =>
    cases e:i.zero with
    | none=>simp[hi,e] at m
    | some v=>simp[hi,e] at m;exact⟨v,⟨i,rfl,e⟩,m⟩
  have hr:=Y7 (J:=J) (β:=β) (h:=h) (w:=w) v
  rw[U,Rep] at hr
  obtain⟨cs,rfl,hr⟩:=hr
  refine⟨_,_,_,T,L,fun G=>⟨_,_,Za,?_⟩⟩
  have hn:=G.nid (by simp[F6,Nc,A3])
  obtain⟨β',A,hA⟩:=Ps (d:=d) (l:=Nf P t) (j:=1) S (Ab3 _) (by simp at M;omega) (fun i hi V C=>G _ (by rw[F6,C];rfl) (by unfold Xf;simp;omega)) hr
  have D:Ag (Ah (Ew d (Nf P t) 1 c).2 h) (nid d)=none:=by rw[B3 _ _ _ (KU (Ab3 _))];exact hn
  have q:∀ (j:Nat) u,cs[j]?=some u→u.oneCell'=true:=fun j u I=>by
   rw[Bx] at hr
   have b:j<c.length:=by rw[←hr.1];exact(Ab7.1 I).1
   exact Kn (R9 z j c[j] (Ab1 b)) (hr.2 j c[j] u (Ab1 b) I)
  rw[Bx] at hA
  refine OpDone.after A (GI A.sim D rfl rfl (by simp[Value.cells,hA.1]) ⟨fun X=>by simp at X,fun _ j y K=>?_⟩) (Mk _ _)
  have b:j<cs.length:=by rw[hA.1];exact(Ab7.1 K).1
  exact⟨cs[j],by simp[Value.cells,b],hA.2 j y _ K (Ab1 b),q j _ (Ab1 b)⟩
 ·simp at s
theorem ji {co:Bool} {d:Nat} {t:TypeId} {k:AV→Do→O R} (S:SimH J β h w) (L:Looks g h) (q:RL P g co d t k=some r) :
  ∃ v val ups,(∃ i,P.info? t=some i∧i.zero=some v)∧k val ups=some r∧(UpsFree d h ups→∃ vc w',(Instr.box t v).run P w=.ok vc w'∧OpDone J β h w ups val vc w'):=by
 have zv:∀ {z:AV},aG P t=some z→∃ v,(∃ i,P.info? t=some i∧i.zero=some v)∧RE v=z:=by
  intro z m
  unfold aG at m
  cases hi:P.info? t with
  | none=>simp[hi] at m
  | some i =>
   cases s:i.zero with
   | none=>simp[hi,s] at m
   | some v=>simp[hi,s] at m;exact⟨v,⟨i,rfl,s⟩,m⟩
 unfold RL at q
 split at q
 ·rename_i U V m
  obtain⟨v,u,C⟩:=zv m
  obtain⟨sz,hs,q⟩:=ub q
  refine⟨v,_,_,u,q,fun K=>⟨_,_,Za,?_⟩⟩
  have hr:=Y7 (J:=J) (β:=β) (h:=h) (w:=w) v
  rw[C,Rep] at hr;subst hr
  have D:∀ b,b=nid d+1→Xf d b=true:=fun b M=>by subst M;unfold Xf nid;simp
  have F:Ag h (nid d+1)=none:=K _ (by simp[A3]) (D _ rfl)
  have G:Ag h (nid d)=none:=K.nid (by simp[A3])
  have A:=Step.newNone S (d:=nid d+1) (x:=Eu sz) F rfl
  have e:([(nid d+1,some (Eu sz)),(nid d,some { dead:=false,sealed:=false,pure:=false,taint:=false,sz:=0,cells:=[.own (nid d+1) 0 0] })]:Do)=[(nid d+1,some (Eu sz))]++[(nid d,some { dead:=false,sealed:=false,pure:=false,taint:=false,sz:=0,cells:=[.own (nid d+1) 0 0] })]:=rfl
  rw[e]
  refine OpDone.after A (GI A.sim ?_ rfl rfl (by simp[Value.cells]) ⟨fun T=>by simp at T,fun _ j y I=>?_⟩) (Mk _ _)
  ·simp only[Ah];rw[Ac,if_neg (by omega)];exact G
  ·cases j with
   | zero =>
    simp at I;subst I
    refine⟨.slice none 0 0,by simp[Value.cells],?_,rfl⟩
    rw[Rep]
    exact⟨Eu sz,none,0,⟨by simp[Ah,Ac],rfl⟩,rfl,Ab3 _,.inl rfl⟩
   | succ j=>simp at I
 ·rename_i z m _
  obtain⟨v,u,C⟩:=zv m
  obtain⟨val,ups,F,G⟩:=aR S L q (vv:=v) (rz fun J β h=>by rw[←C];exact Y7 v)
  exact⟨v,val,ups,u,F,G⟩
 ·simp at q
theorem mE {c x y:AV} {vc vx vy:Value} {k:AV→O R} (d:iE c x y k=some r) (e:Rep J β h w c vc) (i:Rep J β h w x vx) (j:Rep J β h w y vy) :
  ∃ v,k v=some r∧∃ t:Bool,vc=.bool t∧Rep J β h w v (if t then vx else vy):=by
 unfold iE at d
 split at d
 ·rename_i t a b
  rw[Rep] at e i j
  subst e i j
  exact⟨_,d,t,rfl,by cases t<;>simp[Rep]⟩
 ·rename_i t x _
  rw[Rep] at e;subst e
  obtain⟨m,q⟩:=uc d
  subst m
  exact⟨_,q,true,rfl,i⟩
 ·rename_i t _ _ _
  rw[Rep] at e;subst e
  obtain⟨m,q⟩:=oa d
  subst m
  exact⟨_,q,false,rfl,j⟩
 ·rename_i t _ _ _
  rw[Rep] at e;subst e
  cases t
  ·exact⟨_,d,false,rfl,j⟩
  ·exact⟨_,d,true,rfl,i⟩
 ·simp at d
theorem ot {E:Env} (hC:KT E) {d:Nat} {s:Fe} {k:AV→Do→O R} (S:SimH J β h w) (SS:SimS J β h w s a.tmps) (U:Looks g h)
  (A:f3 E g d (ev s) o.op k=some r) :
  ∃ val ups,k val ups=some r∧(UpsFree d h ups→(∀ vc w',OpDone J β h w ups val vc w'→next (a.put o.dst vc) w')→o.wp E.P a w next Q):=by
 unfold f3 at A
 have same:∀ {v:AV} {vc:Value},k v []=some r→(execOp a.eval o).run E.P w=.ok (.value vc) w→Rep J β h w v vc →
   ∃ val ups,k val ups=some r∧(UpsFree d h ups→(∀ vc w',OpDone J β h w ups val vc w'→next (a.put o.dst vc) w')→o.wp E.P a w next Q) :=
  fun hk hrun hr=>⟨_,_,hk,fun _ hn=>Ev hrun (hn _ _ (OpDone.same S hr))⟩
 split at A
 ·rename_i x G
  exact same A (by simp[execOp,G]) (A5 SS x)
 ·rename_i x G
  exact same A (by simp[execOp,G]) (A5 SS x)
 ·rename_i c x y G
  obtain⟨v,C,D⟩:=mE A (A5 SS c) (A5 SS x) (A5 SS y)
  obtain⟨t,ht,hr⟩:=D
  refine same C (vc:=if t then a.eval x else a.eval y) ?_ hr
  cases t<;>simp[execOp,G,ht,Go.asBool]
 ·rename_i t G
  obtain⟨v,val,ups,h0,C,D⟩:∃ v val ups,(∃ i,E.P.info? t=some i∧i.zero=some v)∧k val ups=some r∧(UpsFree d h ups→∃ vc w',(Instr.box t v).run E.P w=.ok vc w'∧OpDone J β h w ups val vc w'):=by
   cases hm:Gm E.cob (d+1000000) with
   | true=>rw[hm] at A;exact f7 S A
   | false=>rw[hm] at A;exact ji S U A
  refine⟨val,ups,C,fun T hn=>?_⟩
  obtain⟨vc,w',F,I⟩:=D T
  refine Ev ?_ (hn vc w' I)
  rw[Za] at F
  simp only[Result.ok.injEq] at F
  obtain⟨rfl,rfl⟩:=F
  obtain⟨i,hi,hiz⟩:=h0
  simp[execOp,G,Instr.alloc,zeroValue,typeInfo,hi,hiz,newVar,newRow]
 ·rename_i t x G
  obtain⟨v',h0,hv'⟩:=j9 A (A5 SS x)
  obtain⟨val,ups,C,D⟩:=aR S U h0 hv'
  refine⟨val,ups,C,fun T hn=>?_⟩
  obtain⟨vc,w',F,I⟩:=D T
  exact Ev (by simp[execOp,G,F]) (hn vc w' I)
 ·rename_i t parts G
  rw[KR] at A
  obtain⟨v,M,A⟩:=ub A
  obtain⟨u,C,D⟩:=jf (P:=E.P) S M (Sa SS parts.toList)
  obtain⟨val,ups,F,I⟩:=oh S A D
  refine⟨val,ups,F,fun T hn=>Ev ?_ (hn _ _ (I T))⟩
  have:(parts.map fun p=>(p.1,a.eval p.2))=(parts.toList.map fun p=>(p.1,a.eval p.2)).toArray:=by apply Adb;simp
  simp[execOp,G,this,C]
 ·rename_i t len parts G
  have:(parts.map fun p=>(p.1,a.eval p.2))=(parts.toList.map fun p=>(p.1,a.eval p.2)).toArray:=by apply Adb;simp
  cases hhard:(parts.toList.map fun p=>(p.1,ev s p.2)).any fun p=>tO p.2 with
  | true =>
   rw[hhard] at A
   obtain⟨val,ups,C,D⟩:=RZ S A (Sa SS parts.toList)
   refine⟨val,ups,C,fun T hn=>?_⟩
   obtain⟨vc,w',F,I⟩:=D T
   exact Ev (by simp[execOp,G,this,F]) (hn vc w' I)
  | false =>
   rw[hhard] at A
   obtain⟨val,ups,C,D⟩:=MP S U A (Sa SS parts.toList)
   refine⟨val,ups,C,fun T hn=>?_⟩
   obtain⟨vc,w',F,I⟩:=D T
   exact Ev (by simp[execOp,G,this,F]) (hn vc w' I)
 ·rename_i t p G
  obtain⟨v,vc,C,D,F⟩:=UX S U A (A5 SS p)
  exact same C (by simp[execOp,G,D]) F
 ·rename_i t p x G
  obtain⟨val,ups,C,J',β',w',D,F,rfl⟩:=j8 S U A (A5 SS p) (A5 SS x)
  exact⟨.undef,ups,C,fun _ hn=>mC (w':=w') (by simp[execOp,G,D]) (hn undef w' ⟨J',β',F,by simp[Rep]⟩)⟩
 ·rename_i x G
  have C:=A5 SS x
  split at A
  ·rename_i c oo X
   rw[X] at C
   refine same A (vc:=a.eval x) ?_ C
   rw[Rep,RepC] at C
   obtain⟨ad,D,_⟩:=C
   simp[execOp,G,D]
  ·rename_i b oo X
   rw[X] at C
   refine same A (vc:=a.eval x) ?_ C
   rw[Rep] at C
   obtain⟨_,kk,o',_,D,_⟩:=C
   simp[execOp,G,D]
  ·simp at A
 ·rename_i op t x y t2 G
  obtain⟨v,vc,C,D,F⟩:=lx S U A (A5 SS x) (A5 SS y) x y
  refine same C ?_ F
  simp only[execOp,G]
  rw[Sem.run_bind,D];simp
 ·rename_i op t x G
  obtain⟨v,M,A⟩:=ub A
  obtain⟨vc,D,F⟩:=rq (P:=E.P) M (A5 SS x)
  exact same A (by simp[execOp,G,D]) F
 ·rename_i src dst x G
  obtain⟨val,ups,C,D⟩:=jd S U A (A5 SS x)
  refine⟨val,ups,C,fun T hn=>?_⟩
  obtain⟨vc,w',F,I⟩:=D T
  exact Ev (by simp[execOp,G,F]) (hn vc w' I)
 ·rename_i f first caps G
  obtain⟨T,A⟩:=uc A
  have hf':f<1000000:=by simpa using T
  have key:∀ (a n:Nat),a<1000000→(a+1000000*n)%1000000=a∧(a+1000000*n)/1000000=n:=by intro a n h;omega
  have e1:=(key f first.toList.length hf').1
  have e2:=(key f first.toList.length hf').2
  refine same (vc:=.func (.func f) ⟨first.toList.map a.eval⟩ ⟨caps.toList.map a.eval⟩) A ?_ ?_
  ·simp only[execOp,G,Instr.makeFunc]
   simp
   refine⟨?_,?_⟩<;>(apply Adb;simp)
  ·rw[Rep,e1,e2]
   refine⟨(first.toList++caps.toList).map a.eval,?_,a6 SS _⟩
   simp
 ·rename_i t l c G
  obtain⟨val,ups,C,D⟩:=lj S A (A5 SS l) (A5 SS c)
  refine⟨val,ups,C,fun T hn=>?_⟩
  obtain⟨vc,w',F,I⟩:=D T
  exact Ev (by simp[execOp,G,F]) (hn vc w' I)
 ·rename_i t x lo hi mx G
  obtain⟨v,vc,C,D,F⟩:=j7 S U A (A5 SS x) (a7 SS lo) (a7 SS hi) (a7 SS mx)
  exact same C (by simp[execOp,G,D]) F
 ·rename_i t x f G
  obtain⟨v,vc,C,D,F⟩:=RW A (A5 SS x)
  exact same C (by simp[execOp,G,D]) F
 ·rename_i t x f G
  obtain⟨v,vc,C,D,F⟩:=j5 A (A5 SS x)
  exact same C (by simp[execOp,G,D]) F
 ·rename_i t x i G
  obtain⟨v,vc,C,D,F⟩:=RV A (A5 SS x) (A5 SS i)
  exact same C (by simp[execOp,G,D]) F
 ·rename_i t x i G
  obtain⟨v,vc,C,D,F⟩:=j6 A (A5 SS x) (A5 SS i)
  exact same C (by simp[execOp,G,D]) F
 ·rename_i t rr G
  cases rr with
  | some x=>simp[Tq] at A
  | none =>
   obtain⟨val,ups,C,D⟩:=aZ (P:=E.P) (t:=t) S A
   refine⟨val,ups,C,fun T hn=>?_⟩
   obtain⟨vc,w',F,I⟩:=D T
   exact Ev (by simp[execOp,G,F]) (hn vc w' I)
 ·rename_i t m x y G
  obtain⟨ups,C,J',β',w',D,F⟩:=jh S U A (A5 SS m) (A5 SS x) (A5 SS y)
  exact⟨.undef,ups,C,fun _ hn=>mC (w':=w') (by simp[execOp,G,D]) (hn undef w' ⟨J',β',F,by simp[Rep]⟩)⟩
 ·rename_i t m x c G
  obtain⟨v,vc,C,D,F⟩:=mB S U A (A5 SS m) (A5 SS x)
  exact same C (by simp[execOp,G,D]) F
 ·rename_i t x G
  obtain⟨val,ups,C,D⟩:=jg (P:=E.P) S A (A5 SS x)
  refine⟨val,ups,C,fun T hn=>?_⟩
  obtain⟨vc,w',F,I⟩:=D T
  exact Ev (by simp[execOp,G,F]) (hn vc w' I)
 ·rename_i x b G
  obtain⟨val,ups,C,D⟩:=mA (P:=E.P) (d:=d) (t:=o.type) S U A (A5 SS x)
  refine⟨val,ups,C,fun T hn=>?_⟩
  obtain⟨vc,w',F,I⟩:=D T
  exact Ev (by simp[execOp,G,F]) (hn vc w' I)
 ·rename_i t i G
  split at A
  ·rename_i vs ht
   obtain⟨v,M,A⟩:=ub A
   have C:=A5 SS t
   rw[ht,Rep] at C
   obtain⟨cs,D,F⟩:=C
   rw[Bx] at F
   have hlt:i<cs.length:=by rw[F.1];exact(Ab7.1 M).1
   refine same A (vc:=cs[i]) ?_ (F.2 i v _ M (Ab1 hlt))
   simp[execOp,G,Instr.extract,D,hlt]
  ·simp at A
 ·rename_i c G
  split at A
  ·rename_i V
   split at A
   ·rename_i x t C D
    obtain⟨v,M,A⟩:=ub A
    have e1:c.args=#[x]:=by apply Adb;simpa using C
    have e2:c.argTypes=#[t]:=by apply Adb;simpa using D
    obtain⟨vc,F,I⟩:=oc (P:=E.P) (ty:=o.type) M (A5 SS x)
    refine same A ?_ I
    simp[execOp,G,resolve,V,e1,e2,invoke,builtin,F]
   ·simp at A
  ·rename_i V
   split at A
   ·rename_i x y t tx C D
    have e1:c.args=#[x,y]:=by apply Adb;simpa using C
    have e2:c.argTypes=#[t,tx]:=by apply Adb;simpa using D
    obtain⟨val,ups,F,I⟩:=f6 (ty:=o.type) S U A (A5 SS x) (A5 SS y)
    refine⟨val,ups,F,fun T hn=>?_⟩
    obtain⟨vc,w',h5,h6⟩:=I T
    refine Ev ?_ (hn vc w' h6)
    simp[execOp,G,resolve,V,e1,e2,invoke,builtin,h5]
   ·simp at A
  ·rename_i V
   split at A
   ·rename_i x y t tx C D
    have e1:c.args=#[x,y]:=by apply Adb;simpa using C
    have e2:c.argTypes=#[t,tx]:=by apply Adb;simpa using D
    obtain⟨val,ups,F,vc,w',h5,h6⟩:=lm (tx:=tx) (ty:=o.type) S U A (A5 SS x) (A5 SS y)
    refine⟨val,ups,F,fun T hn=>?_⟩
    refine Ev ?_ (hn vc w' h6)
    simp[execOp,G,resolve,V,e1,e2,invoke,builtin,h5]
   ·simp at A
  ·rename_i V
   split at A
   ·rename_i x t C D
    have e1:c.args=#[x]:=by apply Adb;simpa using C
    have e2:c.argTypes=#[t]:=by apply Adb;simpa using D
    obtain⟨val,ups,F,vc,w',h5,h6⟩:=jc (ty:=o.type) S U A (A5 SS x)
    refine⟨val,ups,F,fun T hn=>?_⟩
    refine Ev ?_ (hn vc w' h6)
    simp[execOp,G,resolve,V,e1,e2,invoke,builtin,h5]
   ·simp at A
  ·rename_i V
   split at A
   ·rename_i x y C
    obtain⟨v,M,A⟩:=ub A
    have e1:c.args=#[x,y]:=by apply Adb;simpa using C
    have D:=A5 SS x
    have F:=A5 SS y
    unfold ro at M
    split at M
    ·rename_i k1 a1 k2 a2 X hy
     simp at M;subst M
     rw[X,Rep] at D;rw[hy,Rep] at F
     refine same A (vc:=.int k1 (Hi a1 a2)) ?_ (by rw[Rep])
     simp[execOp,G,resolve,V,e1,invoke,builtin,D,F,Builtin.min_,Builtin.min2,Hi,cond_eq_ite]
    ·simp at M
   ·rename_i x y z C
    obtain⟨q,hq,A⟩:=ub A
    obtain⟨v,M,A⟩:=ub A
    have e1:c.args=#[x,y,z]:=by apply Adb;simpa using C
    have D:=A5 SS x
    have F:=A5 SS y
    have I:=A5 SS z
    unfold ro at hq
    split at hq
    ·rename_i k1 a1 k2 a2 X hy
     simp at hq;subst hq
     unfold ro at M
     split at M
     ·rename_i k3 a3 k4 a4 hx2 hz
      simp at hx2;obtain⟨rfl,rfl⟩:=hx2
      simp at M;subst M
      rw[X,Rep] at D;rw[hy,Rep] at F;rw[hz,Rep] at I
      refine same A (vc:=.int k1 (Hi (Hi a1 a2) a4)) ?_ (by rw[Rep])
      simp[execOp,G,resolve,V,e1,invoke,builtin,D,F,I,Builtin.min_,Builtin.min2,Hi,cond_eq_ite]
     ·simp at M
    ·simp at hq
   ·simp at A
  ·rename_i V
   split at A
   ·rename_i x y C
    obtain⟨v,M,A⟩:=ub A
    have e1:c.args=#[x,y]:=by apply Adb;simpa using C
    have D:=A5 SS x
    have F:=A5 SS y
    unfold rp at M
    split at M
    ·rename_i k1 a1 k2 a2 X hy
     simp at M;subst M
     rw[X,Rep] at D;rw[hy,Rep] at F
     refine same A (vc:=.int k1 (KO a1 a2)) ?_ (by rw[Rep])
     simp[execOp,G,resolve,V,e1,invoke,builtin,D,F,Builtin.max_,Builtin.max2,KO,cond_eq_ite]
    ·simp at M
   ·rename_i x y z C
    obtain⟨q,hq,A⟩:=ub A
    obtain⟨v,M,A⟩:=ub A
    have e1:c.args=#[x,y,z]:=by apply Adb;simpa using C
    have D:=A5 SS x
    have F:=A5 SS y
    have I:=A5 SS z
    unfold rp at hq
    split at hq
    ·rename_i k1 a1 k2 a2 X hy
     simp at hq;subst hq
     unfold rp at M
     split at M
     ·rename_i k3 a3 k4 a4 hx2 hz
      simp at hx2;obtain⟨rfl,rfl⟩:=hx2
      simp at M;subst M
      rw[X,Rep] at D;rw[hy,Rep] at F;rw[hz,Rep] at I
      refine same A (vc:=.int k1 (KO (KO a1 a2) a4)) ?_ (by rw[Rep])
      simp[execOp,G,resolve,V,e1,invoke,builtin,D,F,I,Builtin.max_,Builtin.max2,KO,cond_eq_ite]
     ·simp at M
    ·simp at hq
   ·simp at A
  ·rename_i V
   split at A
   ·rename_i x C
    have e1:c.args=#[x]:=by apply Adb;simpa using C
    obtain⟨val,ups,F,I⟩:=RX (P:=E.P) (d:=d) (ts:=c.argTypes) (ty:=o.type) S U A (A5 SS x)
    refine⟨val,ups,F,fun T hn=>?_⟩
    obtain⟨vc,w',h5,h6⟩:=I T
    refine Ev ?_ (hn vc w' h6)
    simp[execOp,G,resolve,V,e1,invoke,builtin,h5]
   ·simp at A
  ·rename_i V
   split at A
   ·rename_i x y t tx C D
    have e1:c.args=#[x,y]:=by apply Adb;simpa using C
    have e2:c.argTypes=#[t,tx]:=by apply Adb;simpa using D
    obtain⟨val,ups,F,I⟩:=RY (d:=d) (it:=tx) (ty:=o.type) S U A (A5 SS x) (A5 SS y)
    refine⟨val,ups,F,fun T hn=>?_⟩
    obtain⟨vc,w',h5,h6⟩:=I T
    refine Ev ?_ (hn vc w' h6)
    simp[execOp,G,resolve,V,e1,e2,invoke,builtin,h5]
   ·simp at A
  ·rename_i fo V
   split at A
   ·rename_i f0 caps T
    have C:=A5 SS fo
    rw[T,Rep] at C
    obtain⟨cs0,D,Y⟩:=C
    cases K:j1 E.P (f0%1000000) with
    | false =>
     rw[K,cond_false] at A
     obtain⟨hne,A⟩:=uc A
     split at A
     ·rename_i x L hold
      rw[Reps] at Y;subst Y
      obtain⟨y,hy,rfl⟩:∃ y,c.args=#[y]∧x=ev s y:=by
       cases U:c.args.toList with
       | nil=>rw[U] at L;cases L
       | cons y l =>
        rw[U] at L;simp at L
        exact⟨y,by apply Adb;rw[U,L.2],L.1.symm⟩
      refine same (vc:=a.eval y) A ?_ (A5 SS y)
      simp only[execOp,G,Sem.run_bind,resolve,V,D,Deferred.ofValue,Sem.run_pure,Result.andThen_ok,invoke,hy]
      simpa using rt hne (a.eval y) w
     ·simp at A
    | true =>
    rw[K,cond_true] at A
    have htk:Reps J β h w (caps.take (f0/1000000)) (cs0.take (f0/1000000))∧Reps J β h w (caps.drop (f0/1000000)) (cs0.drop (f0/1000000)):=by
     rw[Bx] at Y
     refine⟨Bx.2 ⟨by simp[Y.1],fun j x u X hu=>?_⟩,Bx.2 ⟨by simp[Y.1],fun j x u X hu=>?_⟩⟩
     ·rw[Ac9] at X hu
      split at X
      ·rename_i hj;rw[if_pos hj] at hu;exact Y.2 j x u X hu
      ·simp at X
     ·rw[Ac2] at X hu;exact Y.2 _ x u X hu
    generalize f0%1000000=f at *
    generalize cs0.take (f0/1000000)=fs at *
    generalize cs0.drop (f0/1000000)=cs at *
    obtain⟨val,ups,I,h5⟩:=hC R r k J β h w g d f _ _ S U A (htk.1.append ((a6 SS c.args.toList).append htk.2))
    refine⟨val,ups,I,fun hfr hn=>?_⟩
    have hcall:=h5 hfr
    unfold j1 at K
    cases hfn:E.P.funcs[f]? with
    | none=>rw[hfn] at K;simp at K
    | some fn =>
     rw[hfn] at K
     simp at K
     obtain⟨hb1,hb2⟩:=K
     have hb3:fn.body.isNone=false:=by cases hq:fn.body<;>simp_all
     have L:(⟨fs⟩:Array Value)++c.args.map a.eval++(⟨cs⟩:Array Value)=(fs++(c.args.toList.map a.eval++cs)).toArray:=by apply Adb;simp
     have hrun:(execOp a.eval o).run E.P w=.ok (.enter f (fs++(c.args.toList.map a.eval++cs)).toArray) w:=by
      simp only[execOp,G,Sem.run_bind,resolve,V,D,Deferred.ofValue,Sem.run_pure,Result.andThen_ok,invoke,callFunc,run_program,hfn]
      simp only[hb3,L]
      simp[hb2]
     unfold Oper.wp
     rw[hrun]
     refine Calls.mono hcall ?_
     rintro e w' ⟨vc,rfl,hd⟩
     exact hn vc w' hd
   ·simp at A
  ·simp at A
 ·simp at A
end
end Gx
namespace Gx
open Go
structure Start where
 J:Bool→Nat→Prop
 β:Bu
 h:Ao
 w:World
structure Inv (Z:Start) (nt:Nat) (J:Bool→Nat→Prop) (β:Bu) (st:St) (a:Act) (w:World):Prop where
 sim:SimH J β st.h w
 ss:SimS J β st.h w st.s a.tmps
 tmps:a.tmps.size=nt
 defers:a.defers=[]
 os:w.os=Z.w.os
 tape:w.tape=Z.w.tape
 output:w.output=Z.w.output
 size:Z.w.heap.size≤w.heap.size
 frame:∀ k,k<Z.w.heap.size→¬ li Z.β Z.h k→w.heap[k]?=Z.w.heap[k]?
 wr:∀ k,li β st.h k→k<Z.w.heap.size→li Z.β Z.h k
 jsub:∀ o k,Z.J o k→J o k
 jup:∀ o k,J o k→Z.J o k∨li Z.β Z.h k∨Z.w.heap.size≤k
 sizes:∀ k,Ar Z.w k≤Ar w k
 zlt:∀ b x0,Ag Z.h b=some x0→b<200000
 zge:∀ b x0,Ag Z.h b=some x0→100000≤b
 outs:∀ b x0 x,Ag Z.h b=some x0→Ag st.h b=some x→x.dead=false→(β b=Z.β b∧x.mp=x0.mp)∧x.sz=x0.sz∧(x0.mp=false→x.cells.length=x0.cells.length)∧x0.dead=false
section
variable {R:Type} {r:R} {Z:Start} {nt:Nat} {J J':Bool→Nat→Prop} {β β':Bu} {st:St} {h':Ao} {a:Act} {w w':World} {ops:Array Oper} {o:Oper}
theorem Ko {s:Fe} {d:Option Nat} {v:AV} {i:Nat}:Et (o8 nt s d v) i=if d=some i∧i<nt then v else Et s i:=by
 unfold o8
 cases d with
 | none=>simp
 | some d =>
  simp only[Ac0]
  cases j:Nat.blt d nt with
  | true =>
   have b:d<nt:=by simpa using j
   simp only[cond_true]
   rw[Km]
   by_cases e:i=d
   ·subst e;simp[b]
   ·rw[if_neg e,if_neg (fun k=>e k.1.symm)]
  | false =>
   have b:¬ d<nt:=by intro m;rw[show Nat.blt d nt=true by simpa using m] at j;cases j
   simp only[cond_false]
   rw[if_neg (fun k=>by obtain⟨q,u⟩:=k;subst q;exact b u)]
theorem SimS.put {h:Ao} {s:Fe} {d:Option Nat} {v:AV} {vc:Value} (H:SimS J β h w s a.tmps) (hn:a.tmps.size=nt) (k:Rep J β h w v vc):SimS J β h w (o8 nt s d v) (a.put d vc).tmps:=by
 refine⟨fun i u b=>?_,fun i hi=>?_⟩
 ·rw[Ko]
  cases d with
  | none=>simp;exact H.slot i u b
  | some d =>
   simp only[Act.put] at b
   rw[Adw] at b
   by_cases e:d=i
   ·subst e
    simp only[if_true] at b
    by_cases j:d<a.tmps.size
    ·simp[j] at b;subst b
     rw[if_pos ⟨rfl,by omega⟩];exact k
    ·simp[j] at b
   ·rw[if_neg e] at b
    rw[if_neg (fun m=>e (by simpa using m.1))]
    exact H.slot i u b
 ·have hs:(a.put d vc).tmps.size=a.tmps.size:=by cases d<;>simp[Act.put]
  rw[hs] at hi
  rw[Ko,if_neg (by omega)]
  exact H.out i hi
theorem SimS.ext {h:Ao} {s:Fe} {t:Array Value} (E:Ext J β h w J' β' h' w') (H:SimS J β h w s t):SimS J' β' h' w' s t :=
 ⟨fun i v b=>Rep.ext E (H.slot i v b),H.out⟩
theorem Inv.step (I:Inv Z nt J β st a w) (A:Step J β st.h w J' β' h' w') (j:∀ b x,Ag h' b=some x→Ag st.h b=none→Fu≤b):Inv Z nt J' β' { s:=st.s,h:=h' } a w' where
 sim:=A.sim
 ss:=I.ss.ext A.ext
 tmps:=I.tmps
 defers:=I.defers
 os:=A.os.trans I.os
 tape:=A.tape.trans I.tape
 output:=A.output.trans I.output
 size:=Add I.size A.size
 frame k d e:=(A.frame k (Adj d I.size) (fun u=>e (I.wr k u d))).trans (I.frame k d e)
 wr k e d:=I.wr k (A.wr k e (Adj d I.size)) d
 jsub o k v:=A.ext.jsub o k (I.jsub o k v)
 jup o k v:=by
  rcases A.jup o k v with m | m | m
  ·exact I.jup o k m
  ·by_cases d:k<Z.w.heap.size
   ·exact .inr (.inl (I.wr k m d))
   ·exact .inr (.inr (by omega))
  ·exact .inr (.inr (Add I.size m))
 sizes k:=by
  refine Add (I.sizes k) ?_
  by_cases e:∃ b o,β b=some (k,o)
  ·obtain⟨b,o,i⟩:=e;exact A.ext.size b k o i
  ·by_cases d:k<w.heap.size
   ·have:=A.frame k d (fun ⟨b,x,o,_,_,_,i⟩=>e ⟨b,o,i⟩)
    simp[Ar,this]
   ·simp[Ar,Acq (Adm d)]
 outs b x0 x h0 z D:=by
  cases i:Ag st.h b with
  | none=>have:=j b x z i;have:=I.zlt b x0 h0;unfold Fu at *;omega
  | some y =>
   obtain⟨x',⟨C,gm⟩,q⟩:=A.ext.blk b y i
   change Ag h' b=some x at z
   rw[z] at C;simp at C;subst C
   rcases q with q | ⟨q,F,G,K⟩
   ·simp[D] at q
   ·obtain⟨⟨e1,em⟩,L,e3,e4⟩:=I.outs b x0 y h0 i q
    exact⟨⟨F.trans e1,gm.trans em⟩,G.trans L,fun h=>(K (em.trans h)).trans (e3 h),e4⟩
 zlt:=I.zlt
 zge:=I.zge
theorem Inv.put (I:Inv Z nt J β st a w) {d:Option Nat} {v:AV} {vc:Value} (b:Rep J β st.h w v vc):Inv Z nt J β { s:=o8 nt st.s d v,h:=st.h } (a.put d vc) w where
 sim:=I.sim
 ss:=I.ss.put I.tmps b
 tmps:=by cases d<;>simp[Act.put,I.tmps]
 defers:=by cases d<;>simp[Act.put,I.defers]
 os:=I.os
 tape:=I.tape
 output:=I.output
 size:=I.size
 frame:=I.frame
 wr:=I.wr
 jsub:=I.jsub
 jup:=I.jup
 sizes:=I.sizes
 zlt:=I.zlt
 zge:=I.zge
 outs:=I.outs
theorem a8 {d:Nat} {F:List Nat} {h:Ao}:∀ {ups:Do},IG d F h ups=true→∀ b,A3 ups b=true→(Xf d b=true∧Ag h b=none)∨(Xf d b=false∧Gm F b=true∧∃ x,Ag h b=some x)
 | [],_,b,j=>by simp[A3] at j
 | (i,_)::r,e,b,j=>by
  rw[IG] at e
  simp at e
  rw[A3] at j
  cases hi:beq i b with
  | true =>
   have:i=b:=Ab5 hi
   subst this
   cases hn:Xf d i with
   | true=>rw[hn] at e;simp at e;exact .inl ⟨rfl,e.1⟩
   | false =>
    rw[hn] at e;simp at e
    obtain⟨⟨k,m⟩,_⟩:=e
    exact .inr ⟨rfl,k,Afe.1 m⟩
  | false=>rw[hi] at j;exact a8 e.2 b (by simpa using j)
theorem tb {d b:Nat} (hn:Xf d b=true):Fu≤b:=by
 unfold Xf nid at hn
 simp at hn
 unfold Fu;omega
theorem jj {d:Nat} {F:List Nat} {h:Ao} {ups:Do} (j:IG d F h ups=true) {b:Nat} {x:Blk} (e:Ag (Ah ups h) b=some x) (hn:Ag h b=none):Fu≤b:=by
 cases hi:A3 ups b with
 | false=>rw[B3 _ _ _ hi,hn] at e;cases e
 | true =>
  rcases a8 j b hi with⟨k,_⟩ | ⟨_,_,y,i⟩
  ·exact tb k
  ·rw[hn] at i;cases i
theorem ou {h:Ao} {F:List Nat}:Looks (fun b=>cond (Gm F b) (Ag h b) none) h:=fun b x d=>by
 cases e:Gm F b with
 | true=>simpa[e] using d
 | false=>simp[e] at d
theorem f9 {h:Ao} {s:Fe} (H:SimS J β h w s a.tmps) {t:Bool} (d:Y3 ops s o=some t):Region.wanted o (yielded ops a.tmps)=t:=by
 unfold Y3 at d
 unfold Region.wanted
 split at d
 ·rename_i e;rw[e];simpa using d
 ·rename_i j want e
  rw[e]
  simp only
  unfold yielded
  split at d
  ·rename_i t' i
   rw[i]
   simp only[Acn]
   cases m:a.tmps[t']? with
   | none =>
    have:=H.out t' (by simpa using m)
    rw[this] at d;simp at d
   | some v =>
    have hr:=H.slot t' v m
    split at d
    ·rename_i b k
     rw[k,Rep] at hr;subst hr
     simp at d;subst d
     simp
    ·rename_i k
     rw[k,Rep] at hr
     obtain⟨cs,rfl,q⟩:=hr
     rw[Reps] at q;subst q
     simp at d;subst d
     simp
    ·simp at d
  ·rename_i i
   rw[i]
   simp at d;subst d
   simp
theorem a_ {E:Env} (hC:KT E) (I:Inv Z E.nt J β st a w) {k:St→Foot→O R} (e:ld E ops o st k=some r) {K:Act→World→Prop} {Q:Exit→Act→World→Prop} :
  ∃ st' f,k st' f=some r∧((∀ i w' J' β',Inv Z E.nt J' β' st' i w'→K i w')→if Region.wanted o (yielded ops a.tmps) then o.wp E.P a w K Q else K (a.put o.dst undef) w):=by
 unfold ld at e
 obtain⟨t,m,d⟩:=ub e
 rw[f9 I.ss m]
 cases t with
 | false =>
  refine⟨_,_,d,fun hK=>?_⟩
  simp only[Adx,if_false]
  exact hK _ _ J β (I.put (by rw[Rep];exact⟨[],rfl,by rw[Reps]⟩))
 | true =>
  rw[cond_true] at d
  obtain⟨val,ups,q,s⟩:=ot (o:=o) (next:=K) (Q:=Q) hC I.sim I.ss ou d
  obtain⟨j,u⟩:=uc q
  refine⟨_,_,u,fun hK=>?_⟩
  simp only[if_true]
  refine s (fun b v hn=>?_) (fun vc w' y=>?_)
  ·rcases a8 j b v with⟨_,g⟩ | ⟨g,_⟩
   ·exact g
   ·rw[hn] at g;cases g
  ·obtain⟨J',β',A,z⟩:=y
   exact hK _ _ J' β' ((I.step A (fun b x C hn=>jj j C hn)).put z)
def Eqv (a b:St):Prop:=(∀ t,Et a.s t=Et b.s t)∧(∀ b',Ag a.h b'=Ag b.h b')
theorem Eqv.refl (a:St):Eqv a a:=⟨fun _=>rfl,fun _=>rfl⟩
theorem Eqv.symm {a b:St} (h:Eqv a b):Eqv b a:=⟨fun t=>(h.1 t).symm,fun t=>(h.2 t).symm⟩
theorem Eqv.trans {a b c:St} (h:Eqv a b) (k:Eqv b c):Eqv a c:=⟨fun t=>(h.1 t).trans (k.1 t),fun t=>(h.2 t).trans (k.2 t)⟩
theorem Inv.eqv {nt:Nat} {J:Bool→Nat→Prop} {β:Bu} {st st2:St} {a:Act} {w:World} (I:Inv Z nt J β st a w) (h:Eqv st st2):Inv Z nt J β st2 a w:=by
 have hr:∀ {x v},Rep J β st.h w x v→Rep J β st2.h w x v:=fun m=>Rep.ext ⟨fun _ _ q=>q,fun _ _ _=>rfl,fun b x d=>⟨x,⟨by rw[←h.2 b];exact d,rfl⟩,by cases e:x.dead<;>simp⟩,fun _ _ _ _=>Ab3 _⟩ m
 refine⟨⟨I.sim.jlt,I.sim.jft,I.sim.gl,fun b x d e s=>?_,fun b x d e s=>I.sim.mblk b x (by rw[h.2];exact d) e s,fun b C x x' k o o' d y=>I.sim.sep b C x x' k o o' (by rw[h.2];exact d) (by rw[h.2];exact y)⟩,⟨fun i v D=>by rw[←h.1 i];exact hr (I.ss.slot i v D),fun i hi=>by rw[←h.1 i];exact I.ss.out i hi⟩,I.tmps,I.defers,I.os,I.tape,I.output,I.size,I.frame,?_,I.jsub,I.jup,I.sizes,I.zlt,I.zge,fun b x0 x h0 m=>I.outs b x0 x h0 (by rw[h.2];exact m)⟩
 ·rcases I.sim.blk b x (by rw[h.2];exact d) e s with z | ⟨k,o,cs,ty,fr,z,F,G,K,A,L⟩
  ·exact .inl z
  ·exact .inr ⟨k,o,cs,ty,fr,z,F,G,K,⟨A.1,fun M j c q=>by
    obtain⟨u,O,S,T⟩:=A.2 M j c q
    exact⟨u,O,hr S,T⟩⟩,L⟩
 ·rintro k ⟨b,x,o,d,e,hs,U⟩ V
  exact I.wr k ⟨b,x,o,by rw[h.2];exact d,e,hs,U⟩ V
theorem bA {st:St} {k:St→O R} (d:RS ops o st k=some r):∃ st',Eqv st st'∧k st'=some r:=by
 unfold RS at d
 split at d
 ·exact⟨st,Eqv.refl _,d⟩
 ·rename_i j want v
  split at d
  ·exact⟨st,Eqv.refl _,d⟩
  ·rename_i t y
   split at d
   ·rename_i b q
    have key:∀ c:Bool,b=c→Eqv st { s:=KK st.s t (.bool c),h:=st.h }:=by
     intro c u
     refine⟨fun i=>?_,fun _=>rfl⟩
     simp only
     rw[Km]
     by_cases e:i=t
     ·subst e;rw[if_pos rfl,q,u]
     ·rw[if_neg e]
    cases m:(b==want) with
    | true =>
     rw[m] at d
     exact⟨_,key want (by simpa using m),d⟩
    | false =>
     rw[m] at d
     exact⟨_,key (!want) (by cases b<;>cases want<;>simp_all),d⟩
   ·exact⟨st,Eqv.refl _,d⟩
theorem bB {E:Env} (hC:KT E) {Q:Exit→Act→World→Prop}:∀ (l:List Oper) {st:St} {tr:List Foot} {k:St→List Foot→O R} {a:Act} {w:World} {J:Bool→Nat→Prop} {β:Bu},
  Inv Z E.nt J β st a w→aM E ops l st tr k=some r→(∀ st' d e w' J' β',Inv Z E.nt J' β' st' e w'→k st' d=some r→Q .normal e w')→wpList E.P ops Q l a w
 | [],st,tr,k,a,w,J,β,I,b,hQ=>hQ st tr a w J β I b
 | o::l,st,tr,k,a,w,J,β,I,b,hQ=>by
  rw[aM] at b
  obtain⟨wH,j,b⟩:=bA b
  obtain⟨st',f,m,q⟩:=a_ (K:=wpList E.P ops Q l) (Q:=Q) hC (I.eqv j) b
  have:=q (fun e w' J' β' I'=>bB hC l I' m hQ)
  rw[wpList]
  split
  ·rename_i i;rw[if_pos i] at this;exact .inl this
  ·rename_i i;rw[if_neg i] at this;exact this
end
end Gx
