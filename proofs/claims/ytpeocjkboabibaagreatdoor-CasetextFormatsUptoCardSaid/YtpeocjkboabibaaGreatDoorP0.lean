/- A part of the proof; each theorem says what it holds. -/
import GoSem.Step
import Derived.KernelRfl
import Derived.WalkKit
import Derived.Deep.MidRow
import Derived.Deep.AppendSrc
import Derived.Laws.IdiomStrings
import Derived.Deep.Upon
import Derived.Lib.Builder
import Derived.Laws.BytesString
import Derived.Lib.UnsafeStr
import Derived.Laws.Externs
import Derived.Laws.Tables
import Derived.Laws.StructEq
import Derived.ChangeKeysEq
import Derived.MapKept
set_option linter.unusedVariables false
set_option linter.defProp false
set_option linter.unusedSimpArgs false
open Nat (ble beq)
open List (take drop replicate)
open Go.IntKind (wrap)
namespace Gx
abbrev Lu:=List UInt8
def Adw:=@List.length_append
def Adx:=@List.length_cons
def Ady:=@List.length_nil
def Adz:=@Option.bind_assoc
def Ad0:=@List.take_of_length_le
def Ad1:=@List.getElem?_eq_getElem
def Ad2:=@Int.toNat_natCast
def Ad3:=@Bool.and_eq_true
def Ad4:=@Nat.le_refl
def Ad5:=@List.map_cons
def Ad6:=@List.mem_cons
def Ad7:=@List.mem_append
def Ad8:=@Nat.eq_of_beq_eq_true
def Ad9:=@List.getElem_mem
def Aea:=@List.append_assoc
def Aeb:=@List.cons_append
def Aec:=@Nat.zero_add
def Aed:=@List.getElem?_eq_some_iff
def Aee:=@List.getD_eq_getElem?_getD
def Aef:=@List.mem_map
def Aeg:=@List.drop_zero
def Aeh:=@Nat.mul_one
def Aei:=@List.not_mem_nil
def Aej:=@List.append_nil
def Aek:=@List.all_cons
def Ael:=@Bool.or_assoc
def Aem:=@List.map_nil
def Aen:=@List.flatMap_cons
def Aeo:=@List.take_succ_eq_append_getElem
def Aep:=@List.getElem_of_mem
def Aeq:=@List.foldl_cons
def Aer:=@List.length_singleton
def Aes:=@List.head?_eq_getElem?
def Aet:=@Nat.mul_le_mul_right
def Aeu:=@List.all_nil
def Aev:=@List.getElem?_append
def Aew:=@Bool.false_or
def Aex:=@Bool.true_and
def Aey:=@Bool.and_assoc
def Aez:=@List.any_cons
def Ae0:=@List.foldl_append
def Ae1:=@Nat.pow_succ
def Ae2:=@List.any_nil
def Ae3:=@List.all_eq_true
def Ae4:=@Option.bind_some
def Ae5:=@List.nodup_cons
def Ae6:=@List.mem_singleton
def Ae7:=@Nat.mod_eq_of_lt
def Ae8:=@List.getElem?_drop
def Ae9:=@Nat.min_eq_left
def Afa:=@Array.ext'
def Afb:=@Array.getElem?_eq_some_iff
def Afc:=@List.length_take
def Afd:=@Bool.and_true
def Afe:=@List.drop_eq_getElem_cons
def Aff:=@Array.getElem?_eq_none
def Afg:=@List.getElem?_take
def Afh:=@Nat.add_zero
def Afi:=@Nat.le_trans
def Afj:=@Nat.lt_of_lt_of_le
def Afk:=@Bool.or_false
def Afl:=@Nat.add_assoc
def Afm:=@List.drop_succ_cons
def Afn:=@Nat.add_mul
def Afo:=@List.getElem?_eq_none
def Afp:=@Nat.lt_of_le_of_lt
def Afq:=@Nat.pow_le_pow_right
def Afr:=@List.nil_append
def Afs:=@List.take_left'
def Aft:=@List.flatMap_nil
def Afu:=@Nat.mul_comm
def Afv:=@List.getElem?_map
def Afw:=@Array.getElem?_modify
def Afx:=@List.foldl_nil
def Afy:=@List.map_append
def Afz:=@List.mem_cons_of_mem
def Af0:=@Array.getD_eq_getD_getElem?
def Af1:=@Bool.not_false
def Af2:=@Option.some.injEq
def Af3:=@List.flatMap_append
def Af4:=@List.length_map
def Af5:=@Nat.mul_add
def Af6:=@List.mem_filter
def Af7:=@Nat.div_add_mod
def Af8:=@Nat.mul_assoc
def Af9:=@Int.natCast_zero
def Aga:=@List.take_length
def Agb:=@Nat.div_eq_of_lt
def Agc:=@Bool.false_eq_true
def Agd:=@List.take_zero
def Age:=@Nat.eq_zero_or_pos
def Agf:=@Bool.or_true
def Agg:=@Bool.true_or
def Agh:=@Array.length_toList
def Agi:=@List.filter_cons
def Agj:=@List.eq_nil_of_length_eq_zero
def Agk:=@List.contains_cons
def Agl:=@Eq.trans
def Agm:=@Bool.not_true
def Agn:=@Array.getElem?_append_left
def Ago:=@Nat.mod_lt
def Agp:=@List.map_map
def Agq:=@List.mem_flatMap
def Agr:=@List.range'_succ
def Ags:=@Nat.le_of_not_lt
def Agt:=@List.map_congr_left
def Agu:=@BitVec.toNat_ofNat
def Agv:=@List.length_eq_zero_iff
def Agw:=@Nat.zero_le
def Agx:=@List.drop_eq_nil_of_le
def Agy:=@Array.getElem?_setIfInBounds_ne
def Agz:=@Option.bind_none
def Ag0:=@List.getLast?_append
def Ag1:=@List.mem_of_getElem?
def Ag2:=@List.mem_of_mem_take
def Ag3:=@Array.getElem?_setIfInBounds
def Ag4:=@Nat.div_le_self
def Ag5:=@List.filter_eq_self
def Ag6:=@List.replicate_succ
def Ag7:=@List.take_succ_cons
def Ag8:=@Nat.mul_le_mul_left
def Ag9:=@List.getElem?_append_right
def Aha:=@List.pairwise_cons
def Ahb:=@List.getElem?_append_left
def Ahc:=@Bool.not_eq_true'
def Ahd:=@List.any_eq_false
def Ahe:=@Nat.dvd_mul_right
def Ahf:=@Nat.pow_add
def Ahg:=@Array.size_setIfInBounds
def Ahh:=@Option.isSome_iff_exists
def Ahi:=@List.getLast_eq_getElem
def Ahj:=@Bool.or_comm
def Ahk:=@List.getElem_cons_succ
def Ahl:=@List.getElem_cons_zero
def Ahm:=@List.length_take_of_le
def Ahn:=@Nat.beq_eq
def Aho:=@Nat.div_div_eq_div_mul
def Ahp:=@Nat.lt_or_ge
def Ahq:=@Nat.succ_mul
def Ahr:=@Array.getElem?_toList
def Ahs:=@List.set_getElem_self
def Aht:=@List.getElem?_zipIdx
def Ahu:=@List.mapM_cons
def Ahv:=@List.mem_of_mem_tail
def Ahw:=@List.nodup_nil
def Ahx:=@List.pairwise_append
def Ahy:=@Nat.add_mul_div_left
def Ahz:=@Nat.pow_pos
def Ah0:=@Int.toNat_of_nonneg
def Ah1:=@List.mem_map_of_mem
def Ah2:=@List.drop_nil
def Ah3:=@List.map_take
def Ah4:=@Int.tmod_lt_of_pos
def Ah5:=@Nat.add_sub_cancel
def Aig:=@Nat.one_mul
def Aih:=@Nat.pow_mul
end Gx
namespace Gx
open Go
inductive AV where
 | int (k:IntKind) (n:Int)
 | bool (b:Bool)
 | str (s:List UInt8)
 | nsl
 | imm (c:List AV) (len sz:Nat) (tight org:Bool)
 | iptr (c:List AV) (org:Bool)
 | pagg (c:List AV) (org:Bool)
 | own (b off len:Nat)
 | optr (b off:Nat)
 | agg (c:List AV)
 | tup (c:List AV)
 | fn (f:Nat) (caps:List AV)
 | nilptr
 | nilfn
 | undef
 | omap (b:Nat)
structure Blk where
 dead:Bool
 sealed:Bool
 pure:Bool
 taint:Bool
 sz:Nat
 cells:List AV
 mp:Bool:=false
 ty:Option (Nat×Nat):=none
abbrev LA:=List AV
abbrev O (R:Type):=Option R
abbrev Aw:=List (Nat×Blk)
abbrev Hf:=List (Nat×AV)
def Al:Aw→Nat→Option Blk
 | [],_=>none
 | (i,x)::r,b=>cond (beq i b) (some x) (Al r b)
def Fx:Aw→Nat→Blk→Aw
 | [],b,y=>[(b,y)]
 | (i,x)::r,b,y=>cond (beq i b) ((b,y)::r) (cond (Nat.blt b i) ((b,y)::(i,x)::r) ((i,x)::Fx r b y))
def Gp:Hf→Nat→AV
 | [],_=>.undef
 | (i,x)::r,b=>cond (beq i b) x (Gp r b)
def QC:Hf→Nat→AV→Hf
 | [],b,y=>[(b,y)]
 | (i,x)::r,b,y=>cond (beq i b) ((b,y)::r) (cond (Nat.blt b i) ((b,y)::(i,x)::r) ((i,x)::QC r b y))
structure St where
 s:Hf
 h:Aw
mutual
def VI:Value→AV
 | .int k n=>.int k n
 | .bool b=>.bool b
 | .string ⟨⟨s⟩⟩=>.str s
 | .slice none 0 0=>.nsl
 | .pointer none=>.nilptr
 | .nilFunc=>.nilfn
 | .agg ⟨cs⟩=>.agg (Ls cs)
 | _=>.undef
def Ls:List Value→List AV
 | []=>[]
 | v::r=>VI v::Ls r
end
def ev (s:Hf):Operand→AV
 | .tmp t=>Gp s t
 | .const v=>VI v
 | .func f=>cond (Nat.blt f 1000000) (.fn f []) .undef
 | .global _=>.undef
def Bq (P:Program) (t:TypeId):Option Nat:=(P.info? t).map (·.size)
def kW (P:Program) (t:TypeId):Option Nat:=(P.info? t).map (·.bytes)
def sO (P:Program) (t:TypeId):Bool:=((P.info? t).map (·.hasPointers)).getD true
def dS (P:Program) (t:TypeId):Option AV:=((P.info? t).bind (·.zero)).map VI
def Ax:LA→Bool
 | []=>true
 | .int ..::r=>Ax r
 | .bool _::r=>Ax r
 | .str _::r=>Ax r
 | .nsl::r=>Ax r
 | .nilptr::r=>Ax r
 | .nilfn::r=>Ax r
 | _=>false
def OS (P:Program) (t:TypeId):Option (LA) :=
 (P.info? t).bind fun i=>(i.zero).bind fun v=>cond (Ax (Ls v.cells.toList)&&beq v.cells.toList.length i.size) (some (Ls v.cells.toList)) none
def VJ (op:BinOp) (k:IntKind) (a b:Int):Option AV :=
 match op with
 | .add=>some (.int k (k.wrap (a+b)))
 | .sub=>some (.int k (k.wrap (a - b)))
 | .mul=>some (.int k (k.wrap (a*b)))
 | .and=>some (.int k (k.wrap ((BitVec.ofInt k.bits a &&& BitVec.ofInt k.bits b).toNat:Int)))
 | .or=>some (.int k (k.wrap ((BitVec.ofInt k.bits a ||| BitVec.ofInt k.bits b).toNat:Int)))
 | .xor=>some (.int k (k.wrap ((BitVec.ofInt k.bits a ^^^ BitVec.ofInt k.bits b).toNat:Int)))
 | .andNot=>some (.int k (k.wrap ((BitVec.ofInt k.bits a &&& ~~~ (BitVec.ofInt k.bits b)).toNat:Int)))
 | .eql=>some (.bool (a==b))
 | .neq=>some (.bool (a != b))
 | .lss=>some (.bool (decide (a<b)))
 | .leq=>some (.bool (decide (a≤b)))
 | .gtr=>some (.bool (decide (a>b)))
 | .geq=>some (.bool (decide (a≥b)))
 | _=>none
def Na (k k':IntKind):Bool:=decide (k=k')
def MO (P:Program) (t:TypeId):Bool:=match P.underlying t with | some .bool=>true | _=>false
def tS {R:Type} (P:Program) (t:TypeId) (op:BinOp) (x y:AV) (r:AV→O R):O R :=
 match x,y with
 | .int k a,.int k' b =>
  match op with
  | .shl=>cond (decide (b<0)) none (r (.int k (k.wrap (a*2 ^ (min b.toNat k.bits)))))
  | .shr=>cond (decide (b<0)) none (r (.int k (a.fdiv (2 ^ (min b.toNat k.bits)))))
  | .quo=>cond (Na k k') (cond (b==0) none (r (.int k (k.wrap (a.tdiv b))))) none
  | .rem=>cond (Na k k') (cond (b==0) none (r (.int k (a.tmod b)))) none
  | op=>cond (Na k k') ((VJ op k a b).bind r) none
 | .bool a,.bool b =>
  match op with
  | .eql=>cond (MO P t) (r (.bool (a==b))) none
  | .neq=>cond (MO P t) (r (.bool (!(a==b)))) none
  | _=>none
 | .str a,.str b =>
  match op with
  | .add=>cond (ble (a.length+b.length) 140737488355328) (r (.str (a++b))) none
  | .eql=>r (.bool (a==b))
  | .neq=>r (.bool (!(a==b)))
  | .lss=>r (.bool (Op.bytesLess a b))
  | .leq=>r (.bool (Op.bytesLess a b||a==b))
  | .gtr=>r (.bool (!(Op.bytesLess a b||a==b)))
  | .geq=>r (.bool (!Op.bytesLess a b))
  | _=>none
 | _,_=>none
def Aar (op:UnOp) (x:AV):Option AV :=
 match op,x with
 | .neg,.int k n=>some (.int k (k.wrap (0 - n)))
 | .xor,.int k n=>VJ .xor k (cond k.signed (-1) k.max) n
 | .not,.bool b=>some (.bool (!b))
 | _,_=>none
def OT (k:IntKind):AV→Option Int
 | .int k' n=>cond (Na k k') (some n) none
 | _=>none
def asBool:AV→Option Bool
 | .bool b=>some b
 | _=>none
def YH:AV→Option Lu
 | .str s=>some s
 | _=>none
def uj (sz:Nat):AV→Option (LA×Nat)
 | .imm c len sz' _ _=>cond (beq sz sz') (some (c,len)) none
 | .nsl=>some ([],0)
 | _=>none
def qT:AV→Option UInt8
 | .int .u8 n=>some (UInt8.ofNat n.toNat)
 | _=>none
def T6:LA→Option Lu
 | []=>some []
 | x::r=>(qT x).bind fun b=>(T6 r).bind fun l=>some (b::l)
def C' {R:Type} (step:TypeId→LA→LA→(Bool→O R)→O R) (x y:LA):List (Nat×TypeId)→(Bool→O R)→O R
 | [],k=>k true
 | (off,t)::r,k=>step t (x.drop off) (y.drop off) fun b=>C' step x y r fun c=>k (b&&c)
def kX (P:Program) (sz:Nat) (f:Field):Bool:=match Bq P f.type with
 | some s => ble 1 s && (ble (f.offset + s) sz && !(f.name == "_"))
 | none=>false
def bE {R:Type} (P:Program):Nat→TypeId→LA→LA→(Bool→O R)→O R
 | 0,_,_,_,_=>none
 | d+1,t,x,y,k=>match P.underlying t with
  | some (.int kd)=>(x.head?).bind fun u=>(OT kd u).bind fun a=>(y.head?).bind fun v=>(OT kd v).bind fun b=>k (a==b)
  | some .bool=>(x.head?).bind fun u=>(asBool u).bind fun a=>(y.head?).bind fun v=>(asBool v).bind fun b=>k (a==b)
  | some .string=>(x.head?).bind fun u=>(YH u).bind fun a=>(y.head?).bind fun v=>(YH v).bind fun b=>k (a==b)
  | some (.struct fs)=>(Bq P t).bind fun sz=>cond (P.stoodInHeld t||!(fs.toList.all (kX P sz))) none (C' (bE P d) x y (fs.toList.map fun f=>(f.offset,f.type)) k)
  | some (.array n e)=>(Bq P e).bind fun s=>(Bq P t).bind fun sz=>cond (ble 1 s&&ble (n*s) sz) (C' (bE P d) x y ((List.range n).map fun i=>(i*s,e)) k) none
  | _=>none
def kY:AV→Option (LA)
 | .pagg c _=>some c
 | .agg c=>some c
 | _=>none
def uk (P:Program) (t:TypeId):Bool:=match P.underlying t with | some (.struct _)=>true | some (.array _ _)=>true | _=>false
def jS {R:Type} (P:Program) (t:TypeId) (op:BinOp) (x y:AV) (r:AV→O R):O R :=
 match kY x,kY y with
 | some a,some b=>(Bq P t).bind fun s=>cond (ble 1 s&&(beq a.length s&&(beq b.length s&&(uk P t&&!(P.eqGuardType P.depth t)))))
  (match op with
   | .eql=>bE P 8 t a b fun c=>r (.bool c)
   | .neq=>bE P 8 t a b fun c=>r (.bool (!c))
   | _=>none) none
 | _,_=>tS P t op x y r
def Xd {R:Type} (P:Program) (t:TypeId) (c:LA) (org:Bool) (k:Bool→O R):O R :=
 cond (sO P t) (k org) (cond (!org||Ax c) (k false) none)
def JK {R:Type} (P:Program) (t:TypeId) (c:LA) (org:Bool) (k:AV→O R):O R :=
 match P.underlying t with
 | some (.int kd)=>(c.head?).bind fun x=>(OT kd x).bind fun n=>k (.int kd n)
 | some .bool=>(c.head?).bind fun x=>(asBool x).bind fun b=>k (.bool b)
 | some .string=>(c.head?).bind fun x=>(YH x).bind fun s=>k (.str s)
 | some (.slice e)=>(Bq P e).bind fun sz=>(c.head?).bind fun x=>(uj sz x).bind fun p=>k (.imm p.1 p.2 sz false org)
 | some (.struct _)=>(Bq P t).bind fun n=>cond (ble n c.length) (Xd P t (c.take n) org fun o=>k (.pagg (c.take n) o)) none
 | some (.array _ _)=>(Bq P t).bind fun n=>cond (ble n c.length) (Xd P t (c.take n) org fun o=>k (.pagg (c.take n) o)) none
 | _=>none
def E_ {R:Type} (n:Nat) (k:AV→O R):LA→Nat→O R
 | [],_=>none
 | v::r,i=>cond (beq n i) (k v) (E_ n k r (i+1))
def YI {R:Type} (P:Program) (t:TypeId) (c:LA) (k:AV→O R):O R :=
 match P.underlying t with
 | some (.struct _)=>(Bq P t).bind fun n=>cond (ble n c.length) (k (.agg (c.take n))) none
 | some (.array _ _)=>(Bq P t).bind fun n=>cond (ble n c.length) (k (.agg (c.take n))) none
 | some _=>(c.head?).bind k
 | none=>none
def JL {R:Type} (P:Program) (t:TypeId) (c:LA) (off:Nat) (k:AV→O R):O R :=
 match P.underlying t with
 | some (.struct _)=>(Bq P t).bind fun n=>cond (ble n (c.drop off).length) (k (.agg ((c.drop off).take n))) none
 | some (.array _ _)=>(Bq P t).bind fun n=>cond (ble n (c.drop off).length) (k (.agg ((c.drop off).take n))) none
 | some _=>E_ off k c 0
 | none=>none
abbrev Bg:=Nat→Option Blk
def Gm (g:Bg) (b:Nat):Option Blk:=(g b).bind fun x=>cond x.dead none (some x)
def dT {R:Type} (P:Program) (g:Bg) (t:TypeId) (p:AV) (k:AV→O R):O R :=
 match p with
 | .iptr c org=>JK P t c org k
 | .optr b off=>(Gm g b).bind fun x=>cond x.pure (JK P t (x.cells.drop off) x.taint k) (JL P t x.cells off k)
 | _=>none
def Aj (i:Int) (n:Nat):Bool:=decide (0≤i)&&decide (i<(n:Int))
def S9 {R:Type} (P:Program) (t:TypeId) (x i:AV) (k:AV→O R):O R :=
 match P.underlying t,x,i with
 | some (.slice el),.imm c len sz _ org,.int _ i=>(Bq P el).bind fun sz'=>cond (beq sz sz') (cond (Aj i len) (k (.iptr (c.drop (i.toNat*sz)) org)) none) none
 | some (.slice el),.own b off len,.int _ i=>(Bq P el).bind fun sz=>cond (Aj i len) (k (.optr b (off+i.toNat*sz))) none
 | some (.array len el),.iptr c org,.int _ i=>(Bq P el).bind fun sz=>cond (Aj i len) (k (.iptr (c.drop (i.toNat*sz)) org)) none
 | some (.array len el),.optr b off,.int _ i=>(Bq P el).bind fun sz=>cond (Aj i len) (k (.optr b (off+i.toNat*sz))) none
 | _,_,_=>none
def dH (P:Program) (t:TypeId) (f:Nat):Option (Nat×TypeId) :=
 match P.underlying t with
 | some (.struct fs)=>(fs[f]?).map fun x=>(x.offset,x.type)
 | _=>none
def Ta {R:Type} (P:Program) (t:TypeId) (x:AV) (f:Nat) (k:AV→O R):O R :=
 (dH P t f).bind fun p=>(Bq P p.2).bind fun n=>cond (beq n 0) none
 (match x with
 | .iptr c org=>k (.iptr (c.drop p.1) org)
 | .optr b off=>k (.optr b (off+p.1))
 | _=>none)
def VK {R:Type} (P:Program) (t:TypeId) (x:AV) (f:Nat) (k:AV→O R):O R :=
 (dH P t f).bind fun p =>
 match x with
 | .pagg c org=>JK P p.2 (c.drop p.1) org k
 | .agg c=>YI P p.2 (c.drop p.1) k
 | _=>none
def VL {R:Type} (P:Program) (t:TypeId) (x i:AV) (k:AV→O R):O R :=
 match P.underlying t,x,i with
 | some .string,.str s,.int _ i=>cond (Aj i s.length) (k (.int .u8 ((s.getD i.toNat 0).toNat:Int))) none
 | some (.array len el),.pagg c org,.int _ i=>(Bq P el).bind fun sz=>cond (Aj i len) (JK P el (c.drop (i.toNat*sz)) org k) none
 | some (.array len el),.agg c,.int _ i=>(Bq P el).bind fun sz=>cond (Aj i len) (JL P el c (i.toNat*sz) k) none
 | _,_,_=>none
def RY (o:Option AV) (d:Nat):Option Int:=match o with | none=>some (d:Int) | some (.int _ i)=>some i | _=>none
def Xe {R:Type} (lo hi mx:Option AV) (n:Nat) (k:Nat→Nat→O R):O R :=
 (RY lo 0).bind fun l=>(RY hi n).bind fun h=>(RY mx n).bind fun m=>cond (mx.isSome&&!hi.isSome) none <|
 cond (decide (0≤l)&&(decide (l≤h)&&(decide (h≤m)&&decide (m≤(n:Int))))) (k l.toNat h.toNat) none
def sP (tight:Bool) (hi mx:Option AV):Bool:=match hi,mx with | none,none=>tight | some (.int _ a),some (.int _ b)=>a==b | _,_=>false
def VM {R:Type} (P:Program) (g:Bg) (t:TypeId) (x:AV) (lo hi mx:Option AV) (k:AV→O R):O R :=
 match P.underlying t,x with
 | some .string,.str s=>cond mx.isSome none (Xe lo hi none s.length fun l h=>k (.str ((s.drop l).take (h - l))))
 | some (.slice el),.nsl=>(Bq P el).bind fun _=>Xe lo hi mx 0 fun _ _=>k .nsl
 | some (.slice el),.imm c n sz tight org=>(Bq P el).bind fun sz'=>cond (beq sz sz') (Xe lo hi mx n fun l h =>
   k (.imm ((c.drop (l*sz)).take ((h - l)*sz)) (h - l) sz (sP tight hi mx) org)) none
 | some (.slice el),.own b off n=>(Bq P el).bind fun sz=>(Gm g b).bind fun y=>cond (beq sz y.sz) (Xe lo hi mx n fun l h=>k (.own b (off+l*sz) (h - l))) none
 | some (.array n el),.optr b off=>(Bq P el).bind fun _=>(Gm g b).bind fun y=>cond (beq y.sz 0&&(ble (off+n) y.cells.length&&(lo.isNone&&(hi.isNone&&mx.isNone)))) (k (.own b off n)) none
 | _,_=>none
def xo (P:Program) (t:TypeId) (x:AV):Option AV :=
 match P.underlying t,x with
 | some (.slice _),.nsl=>some (.int .i64 0)
 | some (.slice _),.imm _ n _ _ _=>some (.int .i64 n)
 | some (.slice _),.own _ _ n=>some (.int .i64 n)
 | some .string,.str s=>some (.int .i64 s.length)
 | some (.array n _),_=>some (.int .i64 n)
 | _,_=>none
def HW (g:Bg) (sz:Nat):AV→Option (LA×Nat×Bool)
 | .nsl=>some ([],0,false)
 | .imm c n sz' _ org=>cond (beq sz sz') (some (c,n,org)) none
 | .own b off n=>(Gm g b).bind fun x=>cond (x.pure&&beq sz x.sz) (some ((x.cells.drop off).take (n*sz),n,x.taint)) none
 | .str s=>cond (beq sz 1) (some (s.map fun b=>.int .u8 (b.toNat:Int),s.length,false)) none
 | _=>none
def QD {R:Type} (P:Program) (el:TypeId) (g:Bg) (sz:Nat) (x:AV) (k:LA×Nat×Bool→O R):O R :=
 (HW g sz x).bind fun q=>Xd P el q.1 q.2.2 fun o=>k (q.1,q.2.1,o)
abbrev Eh:=List (Nat×Option Blk)
def OU (g:Bg):AV→Option (AV×Eh×Bool)
 | .own b off n=>(Gm g b).bind fun x=>cond x.pure (some (.imm ((x.cells.drop off).take (n*x.sz)) n x.sz false x.taint,[(b,some { x with sealed:=true })],x.taint)) none
 | .optr .. | .agg _ | .tup _ | .undef | .fn .. | .omap _=>none
 | .imm c n sz t org=>some (.imm c n sz t org,[],org)
 | .iptr c org=>some (.iptr c org,[],org)
 | .pagg _ _=>none
 | v=>some (v,[],false)
def Ys (g:Bg):LA→Option (LA×Eh×Bool)
 | []=>some ([],[],false)
 | v::r=>(OU g v).bind fun p=>(Ys g r).bind fun q=>some (p.1::q.1,p.2.1++q.2.1,p.2.2||q.2.2)
def Yk (g:Bg):AV→Option (LA×Eh×Bool)
 | .pagg c org=>some (c,[],org)
 | .agg c=>Ys g c
 | v=>Ys g [v]
def Gt (c:LA) (off:Nat) (vs:LA):LA:=c.take off++vs++c.drop (off+vs.length)
def A9:Eh→Nat→Bool
 | [],_=>false
 | (i,_)::r,b=>cond (beq i b) true (A9 r b)
def DA (g:Bg):AV→Bool
 | .own b _ _=>(Gm g b).isSome
 | .optr b _=>(Gm g b).isSome
 | .agg _=>false
 | .pagg _ _=>false
 | .tup _=>false
 | .undef=>false
 | .omap _=>false
 | _=>true
def Od (g:Bg):LA→Bool
 | []=>true
 | v::r=>DA g v&&Od g r
def setCells (c:LA) (off:Nat) (vs:LA):LA:=match vs with | [y]=>c.set off y | ys=>Gt c off ys
def VN {R:Type} (P:Program) (g:Bg) (t:TypeId) (p v:AV) (k:AV→Eh→O R):O R :=
  match p with
  | .optr b off=>(Gm g b).bind fun x=>(Bq P t).bind fun n =>
    cond x.sealed none
    (cond x.pure
      ((Yk g v).bind fun q=>cond (beq q.1.length n&&(ble (off+n) x.cells.length&&!A9 q.2.1 b))
        (k .undef (q.2.1++[(b,some { x with cells:=setCells x.cells off q.1,taint:=x.taint||q.2.2 })])) none)
      (match v with
        | .agg c=>cond (Od g c&&(beq c.length n&&ble (off+n) x.cells.length)) (k .undef [(b,some { x with cells:=Gt x.cells off c })]) none
        | .pagg c org=>cond (beq off 0&&(beq c.length n&&beq x.cells.length n)) (k .undef [(b,some { x with pure:=true,taint:=org,cells:=c })]) none
        | v=>cond (DA g v&&(beq n 1&&Nat.blt off x.cells.length)) (k .undef [(b,some { x with cells:=x.cells.set off v })]) none))
  | _=>none
def Hv:Nat:=1000000
def nid (d:Nat):Nat:=1000000+d*16
def kZ (P:Program) (t:TypeId):Option (Nat×Nat) :=
 match P.underlying t with
 | some (.struct fs)=>(fs[0]?).bind fun f=>match P.underlying f.type with
  | some (.pointer u)=>cond (beq u t) ((Bq P t).map fun n=>(t,n)) none
  | some (.struct gs)=>(gs[0]?).bind fun g=>match P.underlying g.type with
   | some (.pointer u)=>cond (beq u f.type) ((Bq P t).map fun n=>(t,n)) none
   | _=>none
  | _=>none
 | _=>none
def Ri (d:Nat) (pure taint:Bool) (sz:Nat) (cells:LA):Eh :=
 [(nid d,some { dead:=false,sealed:=false,pure,taint,sz,cells })]
def nM {R:Type} (P:Program) (g:Bg) (d:Nat) (t:TypeId) (v:AV) (k:AV→Eh→O R):O R :=
 match v with
 | .pagg c org=>k (.optr (nid d) 0) (Ri d true org 0 c)
 | .agg c =>
  cond (sO P t) (cond (Od g c&&beq c.length ((Bq P t).getD 0)) (k (.optr (nid d) 0) [(nid d,some { dead:=false,sealed:=false,pure:=false,taint:=false,sz:=0,cells:=c,ty:=kZ P t })]) none)
   ((Ys g c).bind fun q=>k (.optr (nid d) 0) (q.2.1++Ri d true q.2.2 0 q.1))
 | v=>cond (DA g v) (k (.optr (nid d) 0) (Ri d false false 0 [v])) none
def Gq (sz:Nat):Blk:={ dead:=false,sealed:=false,pure:=true,taint:=false,sz,cells:=[] }
def um (co:Bool) (v:AV):AV:=match co,v with
 | true,.agg c=>cond (Ax c) (.pagg c false) (.agg c)
 | _,v=>v
def VO {R:Type} (P:Program) (g:Bg) (co:Bool) (d:Nat) (t:TypeId) (k:AV→Eh→O R):O R :=
 match P.underlying t,dS P t with
 | some (.slice el),some .nsl=>(Bq P el).bind fun sz=>k (.optr (nid d) 0) [(nid d+1,some (Gq sz)),(nid d,some { dead:=false,sealed:=false,pure:=false,taint:=false,sz:=0,cells:=[.own (nid d+1) 0 0] })]
 | _,some z=>nM P g d t (um co z) k
 | _,none=>none
def O6 (place:Nat→Option (Nat×Nat)):List (Nat×LA)→LA→Option (LA)
 | [],c=>some c
 | (i,vs)::r,c=>(place i).bind fun p=>cond (beq vs.length p.2&&ble (p.1+p.2) c.length) (O6 place r (setCells c p.1 vs)) none
def YJ {R:Type} (place:Nat→Option (Nat×Nat)):List (Nat×LA)→LA→(LA→O R)→O R
 | [],c,k=>k c
 | (i,vs)::r,c,k=>(place i).bind fun p=>cond (beq vs.length p.2&&ble (p.1+p.2) c.length) (YJ place r (setCells c p.1 vs) k) none
def Fe (n:Nat) (z:LA):LA:=match z with | [v]=>replicate n v | z=>(replicate n z).flatten
def Yl (g:Bg):List (Nat×AV)→Option (List (Nat×LA)×Eh×Bool)
 | []=>some ([],[],false)
 | (i,v)::r=>(Yk g v).bind fun q=>(Yl g r).bind fun q'=>some ((i,q.1)::q'.1,q.2.1++q'.2.1,q.2.2||q'.2.2)
def uo:AV→Bool
 | .optr ..=>true
 | .fn _ (_::_)=>true
 | _=>false
def Tb {R:Type} (P:Program) (g:Bg) (d:Nat) (t:TypeId) (len:Nat) (parts:List (Nat×AV)) (k:AV→Eh→O R):O R :=
 match P.underlying t with
 | some (.slice el)=>(Bq P el).bind fun sz=>(OS P el).bind fun z =>
  cond (beq sz 1&&(ble len 16777216&&Od g (parts.map (·.2)))) ((O6 (fun i=>some (i*1,1)) (parts.map fun p=>(p.1,[p.2])) (Fe len z)).bind fun cells =>
   k (.own (nid d) 0 len) (Ri d false false 1 cells)) none
 | _=>none
def Qv {R:Type} (P:Program) (g:Bg) (d:Nat) (t:TypeId) (len:Nat) (parts:List (Nat×AV)) (k:AV→Eh→O R):O R :=
 match P.underlying t with
 | some (.slice el)=>(Bq P el).bind fun sz=>(OS P el).bind fun z=>(Yl g parts).bind fun q =>
  cond (ble (len*sz) 16777216) (YJ (fun i=>some (i*sz,sz)) q.1 (Fe len z) fun cells =>
   k (.own (nid d) 0 len) (q.2.1++Ri d true q.2.2 sz cells)) none
 | _=>none
def QE:AV→Bool
 | .own .. | .optr .. | .fn .. | .undef | .agg _ | .pagg _ _ | .tup _ | .omap _=>true
 | _=>false
def dU:AV→Bool
 | .agg c=>c.any QE
 | .pagg _ _=>false
 | v=>QE v
def cellsOf:AV→LA
 | .agg c=>c
 | .pagg c _=>c
 | v=>[v]
def k_:AV→Bool
 | .imm _ _ _ _ o=>o
 | .iptr _ o=>o
 | _=>false
def YK:AV→Bool
 | .pagg _ o=>o
 | .agg c=>c.any k_
 | v=>k_ v
def E':AV→Bool
 | .pagg _ _=>true
 | _=>false
def JM (P:Program) (t:TypeId):Option (Nat→Option (Nat×Nat)) :=
 match P.underlying t with
 | some (.array _ e)=>(P.info? e).map fun ie=>fun i=>some (i*ie.size,ie.size)
 | some (.struct fs)=>(fs.toList.mapM fun f=>(P.info? f.type).map fun i=>(f.offset,i.size)).map fun pl=>fun i=>pl[i]?
 | _=>none
def jT (P:Program) (t:TypeId):Option (LA):=(P.info? t).bind fun i=>(i.zero).map fun v=>Ls v.cells.toList
def Gg:List (Nat×AV)→List (Nat×LA)
 | []=>[]
 | (i,v)::r=>(i,cellsOf v)::Gg r
def nN (o:Bool):AV→AV
 | .imm c n s t _=>.imm c n s t o
 | .iptr c _=>.iptr c o
 | v=>v
def dV:AV→LA
 | .agg c=>c
 | .pagg c o=>c.map (nN o)
 | v=>[v]
def Kn:List (Nat×AV)→List (Nat×LA)
 | []=>[]
 | (i,v)::r=>(i,dV v)::Kn r
def JN:AV→Bool
 | .undef=>false
 | .tup _=>false
 | .omap _=>false
 | _=>true
def kc (P:Program) (t:TypeId) (parts:List (Nat×AV)):Option AV :=
 (JM P t).bind fun place=>cond (parts.all fun p=>JN p.2) (
 cond (parts.any fun p=>E' p.2)
  (cond (parts.any fun p=>dU p.2) ((jT P t).bind fun z=>(O6 place (Kn parts) z).map fun c=>.agg c) ((OS P t).bind fun z=>(O6 place (Gg parts) z).map fun c=>.pagg c (parts.any fun p=>YK p.2)))
  ((jT P t).bind fun z=>(O6 place (Gg parts) z).map fun c=>.agg c)) none
def ke {R:Type} (P:Program) (t:TypeId) (parts:List (Nat×AV)) (k:AV→O R):O R :=
 (JM P t).bind fun place=>cond (parts.all fun p=>JN p.2) (
 cond (parts.any fun p=>E' p.2)
  (cond (parts.any fun p=>dU p.2) ((jT P t).bind fun z=>YJ place (Kn parts) z fun c=>k (.agg c)) ((OS P t).bind fun z=>YJ place (Gg parts) z fun c=>k (.pagg c (parts.any fun p=>YK p.2))))
  ((jT P t).bind fun z=>YJ place (Gg parts) z fun c=>k (.agg c))) none
def MP {R:Type} (P:Program) (g:Bg) (t:TypeId) (parts:List (Nat×AV)) (k:AV→Eh→O R):O R :=
 (JM P t).bind fun place=>(OS P t).bind fun z=>(Yl g parts).bind fun q=>YJ place q.1 z fun c=>k (.pagg c q.2.2) q.2.1
def tT (P:Program) (t:TypeId):List (Nat×Nat) :=
 match P.underlying t with
 | some (.struct fs)=>fs.toList.filterMap fun f=>match P.underlying f.type with | some (.slice el)=>(Bq P el).map fun s=>(f.offset,s) | _=>none
 | _=>[]
def sQ (P:Program) (n:Nat) (e:TypeId) (off:Nat):List (Nat×Nat) :=
 match P.underlying e with
 | some (.slice el)=>((Bq P el).map fun s=>(List.range n).map fun i=>(off+i,s)).getD []
 | _=>[]
def Rj (P:Program) (t:TypeId):List (Nat×Nat) :=
 match P.underlying t with
 | some (.array n e)=>sQ P n e 0
 | some (.struct fs)=>fs.toList.flatMap fun f=>match P.underlying f.type with
  | some (.slice el)=>((Bq P el).map fun s=>(f.offset,s)).toList
  | some (.struct _)=>(tT P f.type).map fun p=>(f.offset+p.1,p.2)
  | some (.array n e)=>sQ P n e f.offset
  | _=>[]
 | _=>[]
def Gu (d:Nat):List (Nat×Nat)→Nat→LA→LA×Eh
 | [],_,c=>(c,[])
 | (o,sz)::r,j,c=>match c[o]? with
  | some .nsl=>((Gu d r (j+1) (c.set o (.own (nid d+j) 0 0))).1,(nid d+j,some (Gq sz))::(Gu d r (j+1) (c.set o (.own (nid d+j) 0 0))).2)
  | _=>Gu d r (j+1) c
def tU {R:Type} (P:Program) (t:TypeId) (co:Bool) (d:Nat) (v:AV) (k:AV→Eh→O R):O R :=
 match co,v with
 | true,.agg c=>cond (ble (Rj P t).length 15) (k (.agg (Gu d (Rj P t) 1 c).1) (Gu d (Rj P t) 1 c).2) none
 | _,v=>k v []
def MQ {R:Type} (P:Program) (g:Bg) (d:Nat) (t:TypeId) (k:AV→Eh→O R):O R :=
 match dS P t with
 | some (.agg c)=>cond (ble (Rj P t).length 15&&Od g c) (k (.optr (nid d) 0) ((Gu d (Rj P t) 1 c).2++Ri d false false 0 (Gu d (Rj P t) 1 c).1)) none
 | _=>none
def sR (P:Program):Nat→TypeId→Nat→List (Nat×TypeId)
 | 0,t,off=>[(off,t)]
 | d+1,t,off=>match P.underlying t with
  | some (.struct fs)=>fs.toList.flatMap fun f=>sR P d f.type (off+f.offset)
  | _=>[(off,t)]
def uq (P:Program) (t:TypeId):Bool:=match P.underlying t with
 | some (.int _)=>true | some .bool=>true | some .string=>true | some (.slice _)=>true | _=>false
def RZ {R:Type} (P:Program) (c:LA) (org:Bool):List (Nat×TypeId)→LA→(LA→O R)→O R
 | [],acc,k=>k acc
 | (off,t)::r,acc,k=>cond (beq off acc.length&&uq P t) (JK P t (c.drop off) org fun v=>RZ P c org r (acc++[v]) k) none
def VP {R:Type} (P:Program) (co:Bool) (t:TypeId) (v:AV) (k:AV→O R):O R :=
 match co,v with
 | true,.pagg c org=>RZ P c org (sR P 4 t 0) [] fun l=>cond (beq c.length l.length) (k (.agg l)) none
 | _,v=>k v
def jU {R:Type} (P:Program) (d:Nat) (t:TypeId) (len cap:AV) (k:AV→Eh→O R):O R :=
 match P.underlying t,len,cap with
 | some (.slice el),.int .i64 l,.int .i64 c=>(Bq P el).bind fun sz=>(kW P el).bind fun by_=>(OS P el).bind fun z =>
  cond (decide (0≤l)&&(decide (l≤c)&&(decide (c≤140737488355328)&&decide (c*(by_:Int)≤140737488355328)))) (
   k (.own (nid d) 0 l.toNat) (Ri d true false sz (Fe l.toNat z))) none
 | _,_,_=>none
def sS (g:Bg) (sz:Nat) (s:AV):Option (LA×Nat×Bool×Eh) :=
 match s with
 | .nsl=>some ([],0,false,[])
 | .imm _ n _ true _=>cond (beq n 0) (some ([],0,false,[])) none
 | .own b off n=>(Gm g b).bind fun x=>cond (x.pure&&(!x.sealed&&beq sz x.sz)) (some ((x.cells.drop off).take (n*sz),n,x.taint,[(b,none)])) none
 | _=>none
def YL (P:Program) (g:Bg) (el tx:TypeId) (s:AV):Option (Nat×Nat) :=
 match s with
 | .nsl=>match P.underlying tx with | some .string=>some (el,0) | _=>none
 | .own b off _=>(Gm g b).bind fun x=>(x.ty).bind fun q=>cond (beq q.1 el&&(beq q.2 0&&beq off 0)) (some (el,0)) none
 | _=>none
def kf (P:Program) (t:TypeId):Bool:=match P.underlying t with | some (.slice _)=>true | some .string=>true | _=>false
def MR {R:Type} (P:Program) (g:Bg) (d:Nat) (t tx:TypeId) (s x:AV) (k:AV→Eh→O R):O R :=
 match P.underlying t with
 | some (.slice el)=>cond (kf P tx) ( (Bq P el).bind fun sz=>(kW P el).bind fun by_=>(OS P el).bind fun _ =>
  (sS g sz s).bind fun old=>QD P el g sz x fun new =>
  cond (ble (old.2.1+new.2.1) 140737488355328&&ble ((old.2.1+new.2.1)*by_) 140737488355328) (
   k (.own (nid d) 0 (old.2.1+new.2.1)) (old.2.2.2++[(nid d,some { dead:=false,sealed:=false,pure:=true,taint:=old.2.2.1||new.2.2,sz,cells:=old.1++new.1,ty:=YL P g el tx s })])) none) none
 | _=>none
def QF {R:Type} (kd:IntKind):Nat→LA→(LA→O R)→O R
 | 0,_,k=>k []
 | n+1,c,k=>(c.head?).bind fun x=>(OT kd x).bind fun v=>QF kd n (c.drop 1) fun l=>k (.int kd v::l)
def VQ {R:Type} (P:Program) (el sz b off n:Nat) (y:Blk) (new:LA×Nat×Bool) (k:AV→Eh→O R):O R :=
 match P.underlying el with
 | some (.int kd)=>cond (beq sz 1&&(ble 1 n&&(beq y.sz 0&&(!y.sealed&&(!y.pure&&(ble n new.2.1&&ble (off+n) y.cells.length)))))) (
   QF kd n new.1 fun vs=>k (.int .i64 (n:Nat)) [(b,some { y with cells:=Gt y.cells off vs })]) none
 | _=>none
def jV {R:Type} (P:Program) (g:Bg) (t:TypeId) (s x:AV) (k:AV→Eh→O R):O R :=
 match P.underlying t,s with
 | some (.slice el),.own b off n=>(Bq P el).bind fun sz=>(Gm g b).bind fun y=>QD P el g sz x fun new =>
  cond (y.pure&&(!y.sealed&&beq sz y.sz)) (
   k (.int .i64 (min new.2.1 n:Nat)) [(b,some { y with cells:=Gt y.cells off (new.1.take ((min new.2.1 n)*sz)),taint:=y.taint||new.2.2 })]) (VQ P el sz b off n y new k)
 | some (.slice el),.nsl=>(Bq P el).bind fun sz=>QD P el g sz x fun _=>k (.int .i64 0) []
 | _,_=>none
def VR {R:Type} (P:Program) (g:Bg) (t:TypeId) (s:AV) (k:AV→Eh→O R):O R :=
 match P.underlying t,s with
 | some (.slice el),.own b off n=>(Bq P el).bind fun sz=>(OS P el).bind fun z=>(Gm g b).bind fun y =>
  cond (y.pure&&(!y.sealed&&beq sz y.sz)) (k (.tup []) [(b,some { y with cells:=Gt y.cells off (Fe n z) })]) none
 | _,_=>none
def jX {R:Type} (P:Program) (g:Bg) (d:Nat) (src dst:TypeId) (x:AV) (k:AV→Eh→O R):O R :=
 match P.underlying dst with
 | some (.int kd)=>match x with | .int _ n=>cond (P.underlying src).isSome (k (.int kd (kd.wrap n)) []) none | _=>none
 | some .string=>match P.underlying src with
  | some .string=>match x with | .str s=>k (.str s) [] | _=>none
  | some (.slice el)=>match P.underlying el with
   | some (.int .u8)=>match x with
    | .str _=>none
    | x=>(HW g 1 x).bind fun q=>(T6 q.1).bind fun s=>k (.str s) []
   | _=>none
  | _=>none
 | some (.slice el)=>match P.underlying src,P.underlying el,x with
  | some (.slice _),some (.int .u8),.own b off n=>cond (beq src dst&&ble 1 n) ((Gm g b).bind fun x=>cond x.sealed none (k (.own b off n) [])) none
  | some .string,some (.int .u8),.str s=>k (.own (nid d) 0 s.length) (Ri d true false 1 (s.map fun b=>.int .u8 (b.toNat:Int)))
  | _,_,_=>none
 | _=>none
def VS {R:Type} (P:Program) (g:Bg) (d:Nat) (src dst:TypeId) (x:AV) (k:AV→Eh→O R):O R :=
 match P.underlying dst with
 | some .unsafePointer=>match P.underlying src,x with
  | some (.pointer t),.optr b off=>(Bq P t).bind fun n=>(Gm g b).bind fun y=>cond (!(beq n 0)&&Nat.blt off y.cells.length) (k (.optr b off) []) none
  | _,_=>none
 | some (.pointer u)=>match P.underlying src,x with
  | some .unsafePointer,.optr b off=>(Bq P u).bind fun _=>(Gm g b).bind fun y=>(y.ty).bind fun q =>
    cond (Nat.blt 0 q.2&&(Nat.blt 0 y.cells.length&&liesAt P P.depth q.1 (q.2/P.cellsOf q.1) off u 1)) (k (.optr b off) []) none
  | _,_=>none
 | _=>jX P g d src dst x k
def kg:AV→Option UInt8
 | .int .u8 n=>cond (decide (((UInt8.ofNat n.toNat).toNat:Int)=n)) (some (UInt8.ofNat n.toNat)) none
 | _=>none
def JO:LA→Option Lu
 | []=>some []
 | x::r=>(kg x).bind fun b=>(JO r).bind fun l=>some (b::l)
def Tc {R:Type} (g:Bg) (x:AV) (k:AV→Eh→O R):O R :=
 match x with
 | .nsl=>k .nilptr []
 | .own b off n=>(Gm g b).bind fun _=>cond (Nat.blt 0 n) (k (.optr b off) []) none
 | _=>none
def Td {R:Type} (P:Program) (g:Bg) (t:TypeId) (x n:AV) (k:AV→Eh→O R):O R :=
 match x,n with
 | .nilptr,.int .i64 n=>cond (n==0) (k (.str []) []) none
 | .optr b off,.int .i64 n=>(Gm g b).bind fun y=>(y.ty).bind fun q=>match P.underlying t with
  | some (.pointer e)=>cond (beq q.1 e&&(beq (P.cellsOf e) 1&&(y.pure&&(!y.sealed&&(beq off 0&&(decide (0<n)&&(decide (n≤(y.cells.length:Int))&&decide (n≤9223372036854775807))))))))
    ((JO (y.cells.take n.toNat)).bind fun s=>k (.str s) [(b,none)]) none
  | _=>none
 | _,_=>none
def dW:LA→Int→Bool
 | [],_=>false
 | .int _ m::r,n=>cond (n==m) true (dW r n)
 | _::r,n=>dW r n
def ur (c:LA) (n:Int):LA:=cond (dW c n) c (c++[.int .i64 n])
def ki (P:Program) (t:TypeId):Bool:=match P.underlying t with
 | some (.map k e)=>(match P.underlying k with | some (.int .i64)=>true | _=>false)&&(match dS P e with | some (.bool false)=>true | _=>false)
 | _=>false
def Yt {R:Type} (d:Nat) (r:Option AV) (k:AV→Eh→O R):O R :=
 match r with
 | none=>k (.omap (nid d)) [(nid d,some { dead:=false,sealed:=false,pure:=true,taint:=false,sz:=0,cells:=[],mp:=true })]
 | some _=>none
def VT {R:Type} (P:Program) (g:Bg) (t:TypeId) (m key val:AV) (k:AV→Eh→O R):O R :=
 match m,key,val with
 | .omap b,.int .i64 n,.bool true=>cond (ki P t) ((Gm g b).bind fun x=>cond (x.mp&&beq x.sz 0) (k .undef [(b,some { x with cells:=ur x.cells n })]) none) none
 | _,_,_=>none
def jY {R:Type} (P:Program) (g:Bg) (t:TypeId) (m key:AV) (comma:Bool) (k:AV→O R):O R :=
 match m,key,comma with
 | .omap b,.int .i64 n,false=>cond (ki P t) ((Gm g b).bind fun x=>cond (x.mp&&beq x.sz 0) (k (.bool (dW x.cells n))) none) none
 | _,_,_=>none
def tV (s:Lu) (p:Int):Nat×Nat:=Utf8.decode ⟨⟨s⟩⟩ p.toNat
def VU {R:Type} (P:Program) (d:Nat) (t:TypeId) (x:AV) (k:AV→Eh→O R):O R :=
 match P.underlying t,x with
 | some .string,.str s=>k (.omap (nid d)) [(nid d,some { dead:=false,sealed:=false,pure:=true,taint:=false,sz:=1,cells:=[.str s,.int .i64 0],mp:=true })]
 | _,_=>none
def jZ {R:Type} (g:Bg) (it:AV) (isString:Bool) (k:AV→Eh→O R):O R :=
 match it,isString with
 | .omap b,true=>(Gm g b).bind fun x=>cond (x.mp&&beq x.sz 1)
  (match x.cells with
   | [.str s,.int .i64 p]=>cond (decide (p<(s.length:Int)))
     (k (.tup [.bool true,.int .i64 p,.int .i32 ((tV s p).1:Nat)]) [(b,some { x with cells:=[.str s,.int .i64 (p+((tV s p).2:Nat))] })]) (k (.tup [.bool false]) [])
   | _=>none) none
 | _,_=>none
def ut (g:Bg) (x y:AV):Option Bool :=
 match x,y with
 | .nilptr,.nilptr=>some true
 | .nilptr,.optr _ _=>some false
 | .optr _ _,.nilptr=>some false
 | .nilptr,.iptr _ _=>some false
 | .iptr _ _,.nilptr=>some false
 | .optr b o,.optr b' o'=>(Gm g b).bind fun _=>cond (beq b b') (some (beq o o')) none
 | _,_=>none
def qU (P:Program) (t:TypeId):Bool:=match P.underlying t with
 | some (.pointer e)=>match Bq P e with | some n=>!(beq n 0) | none=>false
 | _=>false
def j2 {R:Type} (P:Program) (g:Bg) (t:TypeId) (op:BinOp) (x y:AV) (r:AV→O R):O R :=
 match ut g x y with
 | some b=>cond (qU P t) (match op with
  | .eql=>r (.bool b)
  | .neq=>r (.bool (!b))
  | _=>none) none
 | none=>jS P t op x y r
mutual
def Hg:AV→List Nat
 | .own b _ _=>[b]
 | .optr b _=>[b]
 | .omap b=>[b]
 | .agg c=>I5 c
 | .tup c=>I5 c
 | .fn _ c=>I5 c
 | _=>[]
def I5:List AV→List Nat
 | []=>[]
 | v::r=>Hg v++I5 r
end
mutual
def NP (ρ:Nat→Nat):AV→AV
 | .own b off n=>.own (ρ b) off n
 | .optr b off=>.optr (ρ b) off
 | .omap b=>.omap (ρ b)
 | .agg c=>.agg (Wp ρ c)
 | .tup c=>.tup (Wp ρ c)
 | .fn f c=>.fn f (Wp ρ c)
 | v=>v
def Wp (ρ:Nat→Nat):List AV→List AV
 | []=>[]
 | v::r=>NP ρ v::Wp ρ r
end
def FA (g:Bg):AV→Option (AV×Bool)
 | .own b off n=>(Gm g b).bind fun x=>cond x.pure (some (.imm ((x.cells.drop off).take (n*x.sz)) n x.sz false (!x.sealed||x.taint),!x.sealed||x.taint)) none
 | .imm c n sz _ org=>some (.imm c n sz false org,org)
 | .iptr c org=>some (.iptr c org,org)
 | .optr .. | .agg _ | .tup _ | .undef | .fn .. | .pagg .. | .omap _=>none
 | v=>some (v,false)
def JP (g:Bg):LA→Option (LA×Bool)
 | []=>some ([],false)
 | v::r=>(FA g v).bind fun p=>(JP g r).bind fun q=>some (p.1::q.1,p.2||q.2)
def kj (g:Bg):AV→Option (AV×Bool)
 | .own b off n=>(Gm g b).bind fun x=>cond x.pure (some (.imm ((x.cells.drop off).take (n*x.sz)) n x.sz false (!x.sealed||x.taint),!x.sealed)) none
 | .imm c n sz _ org=>some (.imm c n sz false org,false)
 | .optr b off=>(Gm g b).bind fun x=>cond x.pure (some (.iptr (x.cells.drop off) (!x.sealed||x.taint),!x.sealed)) none
 | .agg c=>(JP g c).bind fun q=>some (.pagg q.1 q.2,true)
 | .fn f []=>some (.fn f [],false)
 | .fn _ _ | .tup _ | .undef | .omap _=>none
 | v=>some (v,false)
def Jk (d:Nat):List (Nat×Nat)→Nat→Nat
 | [],_=>d
 | (i,x)::r,b=>cond (beq i b) x (Jk d r b)
def H2:List Nat→Nat→Bool
 | [],_=>false
 | i::r,b=>cond (beq i b) true (H2 r b)
def YM:List Nat→List Nat→List Nat
 | [],acc=>acc.reverse
 | i::r,acc=>cond (H2 acc i) (YM r acc) (YM r (i::acc))
def JQ:List Nat→Bool
 | []=>true
 | i::r=>!H2 r i&&JQ r
def A1 (base:Nat):List Nat→List (Nat×Nat)
 | []=>[]
 | i::r=>(i,base)::A1 (base+1) r
def Lt (g:Bg):List Nat→List Nat
 | []=>[]
 | b::r=>(match g b with | some x=>cond x.pure [] (I5 x.cells) | none=>[])++Lt g r
def Yu (g:Bg) (ids:List Nat):List Nat:=YM (ids++Lt g (ids++Lt g ids)) []
def JR (g:Bg):List Nat→Bool
 | []=>true
 | b::r=>(match g b with | some x=>!x.dead | none=>false)&&JR g r
def AL (ρ:Nat→Nat) (x:Blk):Blk:={ x with cells:=cond x.pure x.cells (Wp ρ x.cells) }
def sub (g:Bg) (ρ:Nat→Nat):List Nat→Aw
 | []=>[]
 | b::r=>match g b with
  | some x=>Fx (sub g ρ r) (ρ b) (AL ρ x)
  | none=>sub g ρ r
structure Tw where
 runK:{R:Type}→List AV→Aw→(AV→Aw→O R)→O R
 eq:∀ {R:Type} (args:List AV) (h:Aw) (k:AV→Aw→O R),runK args h k=(runK args h fun v h'=>some (v,h')).bind fun p=>k p.1 p.2
def R_ {R:Type}:List (Nat×Tw)→Nat→LA→Aw→(AV→Aw→O R)→O R
 | [],_,_,_,_=>none
 | (g,t)::r,f,args,h,k=>cond (beq g f) (t.runK args h k) (R_ r f args h k)
structure Env where
 P:Program
 nt:Nat
 muts:Nat→List Bool
 nils:List (Nat×Nat)
 free:List Nat
 cob:List Nat
 tbl:List (Nat×Tw)
mutual
def CC:AV→Bool
 | .imm _ _ _ _ o=>o
 | .iptr _ o=>o
 | .pagg _ o=>o
 | .agg c=>T7 c
 | .tup c=>T7 c
 | .fn _ c=>T7 c
 | _=>false
def T7:List AV→Bool
 | []=>false
 | v::r=>CC v||T7 r
end
def SA:Aw→Bool
 | []=>false
 | (_,x)::r=>x.taint||(cond x.pure false (T7 x.cells))||SA r
def Ko (g:Bg):LA→List Nat
 | []=>[]
 | .own b _ _::r=>match g b with | some x=>cond x.sealed (Ko g r) (b::Ko g r) | none=>Ko g r
 | _::r=>Ko g r
def DB (g:Bg):AV→List Nat
 | .own b _ _=>match g b with | some x=>cond x.sealed [] [b] | none=>[]
 | .optr b _=>match g b with | some x=>cond x.sealed [] [b] | none=>[]
 | .agg c=>Ko g c
 | _=>[]
def DC (g:Bg):List Bool→LA→Option (LA×List Nat×List Nat)
 | _,[]=>some ([],[],[])
 | ms,v::r =>
  cond (ms.headD false)
   ((DC g ms.tail r).bind fun q=>some (v::q.1,Hg v++q.2.1,q.2.2))
   ((kj g v).bind fun p=>(DC g ms.tail r).bind fun q=>some (p.1::q.1,q.2.1,DB g v++q.2.2))
def HX (ids:List Nat):List Nat→Bool
 | []=>true
 | b::r=>H2 ids b&&HX ids r
def nO:List Nat→List Nat→Bool
 | [],_=>true
 | i::r,l=>!H2 l i&&nO r l
def ko:List Nat→Bool
 | []=>true
 | _=>false
def j3 {R:Type} (E:Env) (g:Bg) (d:Nat) (f:Nat) (args:LA) (k:AV→Eh→O R):O R :=
 (DC g (E.muts f) args).bind fun q =>
 let ids:=Yu g q.2.1
 let tin:=A1 100000 ids
 let outs:=tin.map (·.2)
 cond (JR g ids&&(HX ids q.2.1&&(HX ids (Lt g ids)&&(nO q.2.2 ids&&(JQ (ids.map (Jk 0 tin))&&ble ids.length 100000))))) (
  R_ E.tbl f (Wp (Jk 0 tin) q.1) (sub g (Jk 0 tin) ids) fun rv rh =>
  let all:=Yu (Al rh) (Hg rv++outs)
  let new:=all.filter fun b=>!H2 outs b
  let tnew:=A1 (nid d) new
  let σ:=Jk 0 ((tin.map fun p=>(p.2,p.1))++tnew)
  cond (!ko q.2.2&&(CC rv||SA rh)) none
   (cond (JR (Al rh) new&&(ble new.length 16&&(HX all (Hg rv)&&(HX all outs&&(HX all (Lt (Al rh) all)&&JQ (all.map σ))))))
    (k (NP σ rv) ((tin.map fun p=>(p.1,(Al rh p.2).map (AL σ)))++tnew.map fun p=>(p.2,(Al rh p.1).map (AL σ)))) none)) none
def j4 {R:Type} (c a b:AV) (k:AV→O R):O R :=
 match c,a,b with
 | .bool t,.bool x,.bool y=>k (.bool (cond t x y))
 | .bool t,x,.tup []=>cond t (k x) none
 | .bool t,.tup [],y=>cond t none (k y)
 | .bool t,x,y=>cond t (k x) (k y)
 | _,_,_=>none
def kp (P : Program) (f : Nat) : Bool := match P.funcs[f]? with | some fn => fn.body.isSome && !(fn.name == "runtime.NumGoroutine") | none => false
def uu (P : Program) (f : Nat) : Bool := match P.funcs[f]? with | some fn => fn.body.isNone && (fn.name == "internal/abi.NoEscape" && fn.origin == "") | none => false
def Kg (a b:Int):Int:=cond (decide (b<a)) b a
def QG (a b:Int):Int:=cond (decide (b>a)) b a
def tW:AV→AV→Option AV
 | .int k a,.int _ b=>some (.int k (Kg a b))
 | _,_=>none
def tX:AV→AV→Option AV
 | .int k a,.int _ b=>some (.int k (QG a b))
 | _,_=>none
def iK {R:Type} (E:Env) (g:Bg) (d:Nat) (v:Operand→AV) (o:Op) (k:AV→Eh→O R):O R :=
 match o with
 | .move x=>k (v x) []
 | .assign x=>k (v x) []
 | .pick c a b=>j4 (v c) (v a) (v b) fun r=>k r []
 | .alloc t=>cond (H2 E.cob (d+1000000)) (MQ E.P g d t k) (VO E.P g (H2 E.cob d) d t k)
 | .box t x=>VP E.P (H2 E.cob d) t (v x) fun u=>nM E.P g d t u k
 | .build t parts=>cond (H2 E.cob (d+4000000)) (MP E.P g t (parts.toList.map fun p=>(p.1,v p.2)) k) (ke E.P t (parts.toList.map fun p=>(p.1,v p.2)) fun r=>tU E.P t (H2 E.cob d) d r k)
 | .buildSlice t len parts=>cond ((parts.toList.map fun p=>(p.1,v p.2)).any fun p=>uo p.2) (Tb E.P g d t len (parts.toList.map fun p=>(p.1,v p.2)) k) (Qv E.P g d t len (parts.toList.map fun p=>(p.1,v p.2)) k)
 | .load t a=>dT E.P g t (v a) fun r=>k r []
 | .store t a x=>VN E.P g t (v a) (v x) k
 | .nilCheck x=>match v x with | .iptr c o=>k (.iptr c o) [] | .optr b o=>k (.optr b o) [] | _=>none
 | .binOp op t x y _=>j2 E.P g t op (v x) (v y) fun r=>k r []
 | .unOp op _ x=>(Aar op (v x)).bind fun r=>k r []
 | .convert s t x=>VS E.P g d s t (v x) k
 | .makeFunc (.func f) first caps=>cond (Nat.blt f 1000000) (k (.fn (f+1000000*first.toList.length) ((first.toList++caps.toList).map v)) []) none
 | .makeSlice t l c=>jU E.P d t (v l) (v c) k
 | .slice t x lo hi mx=>VM E.P g t (v x) (lo.map v) (hi.map v) (mx.map v) fun r=>k r []
 | .fieldAddr t x f=>Ta E.P t (v x) f fun r=>k r []
 | .field t x f=>VK E.P t (v x) f fun r=>k r []
 | .indexAddr t x i=>S9 E.P t (v x) (v i) fun r=>k r []
 | .index t x i=>VL E.P t (v x) (v i) fun r=>k r []
 | .makeMap _ r=>Yt d (r.map v) k
 | .mapUpdate t m x y=>VT E.P g t (v m) (v x) (v y) k
 | .lookup t m x c=>jY E.P g t (v m) (v x) c fun r=>k r []
 | .range t x=>VU E.P d t (v x) k
 | .next it s=>jZ g (v it) s k
 | .extract t i=>match v t with | .tup vs=>(vs[i]?).bind fun r=>k r [] | _=>none
 | .call c=>match c.callee with
  | .builtin .len=>match c.args.toList,c.argTypes.toList with | [x],[t]=>(xo E.P t (v x)).bind fun r=>k r [] | _,_=>none
  | .builtin .append=>match c.args.toList,c.argTypes.toList with | [s,x],[t,tx]=>MR E.P g d t tx (v s) (v x) k | _,_=>none
  | .builtin .copy=>match c.args.toList,c.argTypes.toList with | [s,x],[t,_]=>jV E.P g t (v s) (v x) k | _,_=>none
  | .builtin .clear=>match c.args.toList,c.argTypes.toList with | [x],[t]=>VR E.P g t (v x) k | _,_=>none
  | .builtin .min=>match c.args.toList with | [x,y]=>(tW (v x) (v y)).bind fun r=>k r [] | [x,y,z]=>(tW (v x) (v y)).bind fun q=>(tW q (v z)).bind fun r=>k r [] | _=>none
  | .builtin .max=>match c.args.toList with | [x,y]=>(tX (v x) (v y)).bind fun r=>k r [] | [x,y,z]=>(tX (v x) (v y)).bind fun q=>(tX q (v z)).bind fun r=>k r [] | _=>none
  | .builtin .unsafeSliceData=>match c.args.toList with | [x]=>Tc g (v x) k | _=>none
  | .builtin .unsafeString=>match c.args.toList,c.argTypes.toList with | [x,y],[t,_]=>Td E.P g t (v x) (v y) k | _,_=>none
  | .value fo=>match v fo with
   | .fn f caps=>cond (kp E.P (f%1000000)) (j3 E g d (f%1000000) (caps.take (f/1000000)++(c.args.toList.map v++caps.drop (f/1000000))) k)
     (cond (uu E.P (f%1000000)) (match caps,c.args.toList.map v with | [],[x]=>k x [] | _,_=>none) none)
   | _=>none
  | _=>none
 | _=>none
structure Foot where
 r:List Nat
 w:Option Nat
 f:List Nat
 u:List Nat
def QH:List Operand→List Nat
 | []=>[]
 | .tmp t::r=>t::QH r
 | _::r=>QH r
def Ak:Eh→Aw→Aw
 | [],h=>h
 | (b,some x)::r,h=>Ak r (Fx h b x)
 | (b,none)::r,h=>Ak r (match Al h b with | some x=>Fx h b { x with dead:=true,pure:=true,cells:=[] } | none=>h)
def MS (ops:Array Oper) (o:Oper):Option (Nat×Bool) :=
 match o.guard with
 | none=>none
 | some (j,want)=>((ops[j]?).bind (·.dst)).map fun t=>(t,want)
def FB (ops:Array Oper) (s:Hf) (o:Oper):Option Bool :=
 match o.guard with
 | none=>some true
 | some (j,want)=>match (ops[j]?).bind (·.dst) with
  | some t=>match Gp s t with
   | .bool b=>some (b==want)
   | .tup []=>some false
   | _=>none
  | none=>some false
def qV (nt:Nat) (s:Hf) (d:Option Nat) (v:AV):Hf:=match d with | some d=>cond (Nat.blt d nt) (QC s d v) s | none=>s
def sT:Op→Bool
 | .binOp op ..=>match op with | .eql | .neq=>true | _=>false
 | .move _ | .assign _ | .pick .. | .unOp .. | .makeFunc .. | .fieldAddr .. | .field .. | .indexAddr .. | .index .. | .extract .. | .nilCheck _=>false
 | .call c=>match c.callee with
  | .builtin .len | .builtin .min | .builtin .max=>false
  | _=>true
 | _=>true
def sU:Op→Bool
 | .load .. | .binOp ..=>true
 | _=>false
def Wa (h:Aw) (op:Op) (vals:LA):List Nat:=cond (sT op) (cond (sU op) (YM (I5 vals) []) (Yu (Al h) (I5 vals))) []
def DD (d b:Nat):Bool:=ble (nid d) b&&Nat.blt b (nid d+16)
def OV (d:Nat) (F:List Nat) (h:Aw):Eh→Bool
 | []=>true
 | (b,_)::r=>cond (DD d b) (Al h b).isNone (H2 F b&&(Al h b).isSome)&&OV d F h r
def nP {R:Type} (E:Env) (ops:Array Oper) (o:Oper) (st:St) (k:St→Foot→O R):O R :=
 (FB ops st.s o).bind fun wanted=>cond wanted (
  iK E (fun b=>cond (H2 (Wa st.h o.op (o.op.operands.toList.map (ev st.s))) b) (Al st.h b) none) (o.dst.getD 50000) (ev st.s) o.op fun v ups =>
  cond (OV (o.dst.getD 50000) (Wa st.h o.op (o.op.operands.toList.map (ev st.s))) st.h ups)
   (k { s:=qV E.nt st.s o.dst v,h:=Ak ups st.h } { r:=(match MS ops o with | some p=>[p.1] | none=>[])++QH o.op.operands.toList,w:=o.dst,f:=Wa st.h o.op (o.op.operands.toList.map (ev st.s)),u:=ups.map (·.1) }) none)
  (k { st with s:=qV E.nt st.s o.dst (.tup []) } { r:=(match MS ops o with | some p=>[p.1] | none=>[]),w:=o.dst,f:=[],u:=[] })
def VV {R:Type} (ops:Array Oper) (o:Oper) (st:St) (k:St→O R):O R :=
 match o.guard with
 | none=>k st
 | some (j,want)=>match (ops[j]?).bind (·.dst) with
  | none=>k st
  | some t=>match Gp st.s t with
   | .bool b=>cond (b==want) (k { s:=QC st.s t (.bool want),h:=st.h }) (k { s:=QC st.s t (.bool (!want)),h:=st.h })
   | _=>k st
def dX {R:Type} (E:Env) (ops:Array Oper):List Oper→St→List Foot→(St→List Foot→O R)→O R
 | [],st,tr,k=>k st tr
 | o::r,st,tr,k=>VV ops o st fun st=>nP E ops o st fun st f=>dX E ops r st (f::tr) k
def Aal:Option Nat→List Nat→Bool
 | none,_=>false
 | some d,l=>H2 l d
def YN (a b:Foot):Bool :=
 !Aal a.w b.r&&!Aal b.w a.r&&(match a.w,b.w with | some x,some y=>!beq x y | _,_=>true)&&nO a.u (b.f++b.u)&&nO b.u a.f
def JT (e:Edge):Bool:=match e.ground with | .textOnly _=>false | .gcOnly _=>false | _=>true
def FC (o:Oper):List Nat:=(o.after.toList.filter JT).map (·.on)
def kq {α:Type}:List Nat→(List Nat→α)→α
 | [],k=>k []
 | i::r,k=>kq r fun s=>k (i::s)
theorem DE {α:Type}:∀ (l:List Nat) (k:List Nat→α),kq l k=k l
 | [],_=>rfl
 | i::r,k=>by rw[kq,DE r]
def Ha:List Oper→List (List Nat)→List (List Nat)
 | [],acc=>acc
 | o::r,acc=>kq (YM (FC o++((FC o).flatMap fun i=>(acc[i]?).getD [])) []) fun a=>Ha r (acc++[a])
def Ym:Nat→List Oper→Bool
 | _,[]=>true
 | i,o::r=>(o.after.toList.all fun e=>!JT e||Nat.blt e.on i)&&Ym (i+1) r
def SB (f:Foot) (anc:List Nat):Nat→List Foot→Bool
 | _,[]=>true
 | i,g::r=>(H2 anc i||YN g f)&&SB f anc (i+1) r
def MT:List Foot→List (List Nat)→List Foot→Bool
 | [],_,_=>true
 | f::r,a::az9,seen=>SB f a 0 seen&&MT r az9 (seen++[f])
 | _::_,[],_=>false
def Lv (b:Nat):Nat:=cond (ble Hv b) (b - Hv) b
mutual
def Yv (g:Bg):AV→AV
 | .own b off n=>match Gm g b with | some _=>.own (Lv b) off n | none=>.undef
 | .optr b off=>match Gm g b with | some _=>.optr (Lv b) off | none=>.undef
 | .omap b=>match Gm g b with | some _=>.omap (Lv b) | none=>.undef
 | .agg c=>.agg (Kp g c)
 | .tup c=>.tup (Kp g c)
 | .fn f c=>.fn f (Kp g c)
 | v=>v
def Kp (g:Bg):List AV→List AV
 | []=>[]
 | v::r=>Yv g v::Kp g r
end
def VW (g:Bg) (K:List Nat):Hf→Hf
 | []=>[]
 | (t,v)::r=>cond (H2 K t) ((t,Yv g v)::VW g K r) (VW g K r)
def dY (K:List Nat):Hf→List Nat
 | []=>[]
 | (t,v)::r=>cond (H2 K t) (Hg v++dY K r) (dY K r)
def Yw (g:Bg):List Nat→Aw
 | []=>[]
 | b::r=>match Gm g b with
  | some x=>Fx (Yw g r) (Lv b) { x with cells:=cond x.pure x.cells (Kp g x.cells) }
  | none=>Yw g r
def AP (g:Bg) (ids:List Nat):List Nat:=ids.filter fun b=>match Gm g b with | some _=>true | none=>false
def dZ (g:Bg) (ids:List Nat):List Nat→Bool
 | []=>true
 | b::r=>(H2 ids b||(Gm g b).isNone)&&dZ g ids r
def sV:List Nat→Bool
 | []=>true
 | b::r=>cond (ble Hv b) (Nat.blt (Lv b) 100000) true&&sV r
def clean (K roots:List Nat) (st:St):Option St :=
 let g:=Al st.h
 let ids:=AP g (Yu g (dY K st.s++roots))
 cond (JQ (ids.map Lv)&&(dZ g ids (dY K st.s)&&(dZ g ids (Lt g ids)&&sV ids))) (some { s:=VW g K st.s,h:=Yw g ids }) none
def FD {R:Type} (E:Env) (roots:List Nat) (ops:Array Oper) (draw:Bool) (st:St) (k:St→O R):O R :=
 dX E ops ops.toList st [] fun st tr =>
  cond (!draw||(Ym 0 ops.toList&&MT tr.reverse (Ha ops.toList []) [])) ((clean (st.s.map (·.1)) roots st).bind k) none
def d5 (b:Nat):Bool:=ble 100000 b&&Nat.blt b 200000
def FE (live:List Nat):List (Nat×Nat)→St→Option St
 | [],st=>some st
 | (t,sz)::r,st=>cond (ble 1000000 sz)
  (match H2 live t,Gp st.s t with
  | true,.nsl=>FE live r { s:=QC st.s t (.imm [] 0 (sz - 1000000) false false),h:=st.h }
  | true,.own b off n=>(OU (Al st.h) (.own b off n)).bind fun q=>FE live r { s:=QC st.s t q.1,h:=Ak q.2.1 st.h }
  | _,_=>FE live r st)
  (match H2 live t,Gp st.s t with
  | true,.nsl=>cond (Al st.h (nid t+15)).isSome none (FE live r { s:=QC st.s t (.own (nid t+15) 0 0),h:=Fx st.h (nid t+15) (Gq sz) })
  | _,_=>FE live r st)
def DF (free:List Nat) (b:Nat):Bool:=d5 b&&!H2 free b
def uv (free ids:List Nat):List (Nat×Nat):=A1 300000 (ids.filter fun b=>!DF free b)
def Yx (free ids:List Nat) (b:Nat):Nat:=cond (DF free b) b (Jk 0 (uv free ids) b)
def uw (ρ:Nat→Nat) (K:List Nat):Hf→Hf
 | []=>[]
 | (t,v)::r=>cond (H2 K t) ((t,NP ρ v)::uw ρ K r) (uw ρ K r)
def HY (E:Env) (live roots:List Nat) (st:St):Option St :=
 (FE live E.nils st).bind fun st =>
 let g:=Al st.h
 let ids:=AP g (Yu g (dY live st.s++roots))
 cond (JQ (ids.map (Yx E.free ids))&&(HX ids (dY live st.s)&&(HX ids (Lt g ids)&&ble ids.length 100000))) (some { s:=uw (Yx E.free ids) live st.s,h:=sub g (Yx E.free ids) ids }) none
inductive Hint where
 | leaf
 | node (live:List Nat) (a b:Hint)
 | join (live:List Nat) (a b:Hint)
def Hint.live:Hint→List Nat
 | .leaf=>[]
 | .node l _ _=>l
 | .join l _ _=>l
def Hint.a:Hint→Hint
 | .leaf=>.leaf
 | .node _ a _=>a
 | .join _ a _=>a
def Hint.b:Hint→Hint
 | .leaf=>.leaf
 | .node _ _ b=>b
 | .join _ _ b=>b
def Hint.isJoin:Hint→Bool
 | .join _ _ _=>true
 | _=>false
noncomputable def At {α:Type} (a:α):{ x:α // x=a }:=Classical.choice ⟨⟨a,rfl⟩⟩
noncomputable def ux {R:Type} (j:Bool) (f:St→O R):St→O R:=cond j (At f).1 f
theorem T8 {R:Type} (j:Bool) (f:St→O R):ux j f=f:=by cases j;rfl;exact(At f).2
noncomputable def nQ {R:Type} (E:Env) (roots:List Nat) (H:Hint) (f:St→O R) (st:St):O R:=cond H.isJoin ((HY E H.live roots st).bind (ux true f)) (f st)
def HZ {R:Type} (cn:St→Option St) (body:(St→O R)→St→O R):Nat→St→O R
 | 0,_=>none
 | n+1,st=>body (fun st=>(cn st).bind (HZ cn body n)) st
noncomputable def Ek {R:Type} (E:Env) (roots:List Nat) (N:Nat):Code→Hint→(St→O R)→(Nat→St→O R)→(St→O R)→St→O R
 | .skip,_,k,_,_,st=>k st
 | .region _ ops draw,_,k,_,_,st=>FD E roots ops draw st k
 | .seq a b,H,k,x,r,st=>Ek E roots N a H.a (nQ E roots H fun st=>Ek E roots N b H.b k x r st) x r st
 | .cond c a b,H,k,x,r,st=>match ev st.s c with
  | .bool t=>cond t (Ek E roots N a H.a k x r st) (Ek E roots N b H.b k x r st)
  | _=>none
 | .block id c,H,k,x,r,st=>Ek E roots N c H.a k (fun j st=>cond (beq j id) (k st) (x j st)) r st
 | .loop c,H,_,x,r,st=>(HY E H.live roots st).bind (ux true (HZ (HY E H.live roots) (fun k st=>Ek E roots N c H.a k x r st) N))
 | .exit id,_,_,x,_,st=>x id st
 | .ret,_,_,_,r,st=>r st
 | _,_,_,_,_,_=>none
def Oe {R:Type} (E:Env) (st:St):List ResultVar→LA→(LA→O R)→O R
 | [],acc,k=>k acc.reverse
 | .tmp t::r,acc,k=>Oe E st r (Gp st.s t::acc) k
 | .cell a t::r,acc,k=>dT E.P (Al st.h) t (Gp st.s a) fun v=>Oe E st r (v::acc) k
def xp (g:Bg) (i:Nat) (m:Nat×Nat) (v:AV):Option (AV×Eh) :=
 cond (beq m.1 0) (some (v,[]))
 (cond (beq m.1 1) (match v with
  | .nsl=>some (.imm [] 0 m.2 false false,[])
  | .imm c n sz _ o=>some (.imm c n sz false o,[])
  | .own b off n=>(OU g (.own b off n)).bind fun q=>some (q.1,q.2.1)
  | _=>none)
 (cond (beq m.1 2) (match v with
  | .nsl=>cond (g (nid 90000+i)).isSome none (some (.own (nid 90000+i) 0 0,[(nid 90000+i,some (Gq m.2))]))
  | v=>some (v,[]))
 (match v with
  | .agg c=>(Ys g c).bind fun q=>some (.pagg q.1 q.2.2,q.2.1)
  | .pagg c o=>some (.pagg c o,[])
  | _=>none)))
def nR (h:Aw):Nat→List (Nat×Nat)→LA→Option (LA×Aw)
 | _,_,[]=>some ([],h)
 | i,ms,v::r=>(xp (Al h) i (ms.headD (0,0)) v).bind fun p=>(nR (Ak p.2 h) (i+1) ms.tail r).bind fun q=>some (p.1::q.1,q.2)
def xq (l:LA):AV:=match l with | [v]=>v | l=>.tup l
def T9 {R:Type} (E:Env) (fn:Func) (modes:List (Nat×Nat)) (outs:List Nat) (k:AV→Aw→O R) (st:St):O R :=
 Oe E st fn.results.toList [] fun l =>
 (nR st.h 0 modes l).bind fun q =>
 let v:=xq q.1
 let g:=Al q.2
 let ids:=AP g (Yu g (Hg v++outs))
 cond (JQ (ids.map (Yx E.free ids))&&(HX ids (Hg v)&&(HX ids (Lt g ids)&&ble ids.length 100000))) (k (NP (Yx E.free ids) v) (sub g (Yx E.free ids) ids)) none
def d6:Nat→LA→Hf
 | _,[]=>[]
 | i,v::r=>(i,v)::d6 (i+1) r
structure Hints where
 H:Hint
 nils:List (Nat×Nat):=[]
 modes:List (Nat×Nat):=[]
 free:List Nat:=[]
 cob:List Nat:=[]
def SC:Aw→Bool
 | []=>true
 | (b,_)::r=>d5 b&&SC r
noncomputable def YO {R:Type} (P:Program) (muts:Nat→List Bool) (T:List (Nat×Tw)) (hs:Hints) (N f:Nat) (args:LA) (h:Aw) (k:AV→Aw→O R):O R :=
 match P.funcs[f]? with
 | none=>none
 | some fn=>match fn.body with
  | none=>none
  | some c =>
   let E:Env:={ P,nt:=fn.ntmps,muts,nils:=hs.nils,free:=hs.free,cob:=hs.cob,tbl:=T }
   let outs:=h.map (·.1)
   let fin:=T9 E fn hs.modes outs k
   cond (ble args.length fn.ntmps&&SC h) (Ek E outs N c hs.H fin (fun _ _=>none) fin { s:=d6 0 args,h }) none
end Gx
namespace Gx
open Go
mutual
def RepC (J:Nat→Prop) (w:World):AV→Value→Prop
 | .int k n,v=>v=.int k n
 | .bool b,v=>v=.bool b
 | .str s,v=>v=.string ⟨⟨s⟩⟩
 | .nsl,v=>v=.slice none 0 0
 | .imm c len sz tight _,v=>c.length=len*sz∧∃ A cap,v=.slice A len cap∧len≤cap∧(tight=true→cap=len) ∧
   (len=0∨∃ a,A=some a∧J a.block∧RepCs J w c (fun j=>w.cell? (a.add j)) 0)
 | .iptr c _,v=>∃ a,v=.pointer (some a)∧J a.block∧RepCs J w c (fun j=>w.cell? (a.add j)) 0
 | .nilptr,v=>v=.pointer none
 | .nilfn,v=>v=.nilFunc
 | .fn f [],v=>v=.func (.func (f%1000000)) #[] #[]
 | _,_=>False
def RepCs (J:Nat→Prop) (w:World):List AV→(Nat→Option Value)→Nat→Prop
 | [],_,_=>True
 | x::r,rd,i=>(∃ u,rd i=some u∧RepC J w x u)∧RepCs J w r rd (i+1)
end
theorem By {J:Nat→Prop} {w:World}:∀ {c:LA} {rd:Nat→Option Value} {i:Nat},
  RepCs J w c rd i↔∀ j x,c[j]?=some x→∃ u,rd (i+j)=some u∧RepC J w x u:=by
 intro c
 induction c with
 | nil=>intro rd i;simp[RepCs]
 | cons x r e =>
  intro rd i
  rw[RepCs,e]
  constructor
  ·rintro⟨f,k⟩ j y d
   cases j with
   | zero=>simp at d;subst d;simpa using f
   | succ j=>have:=k j y (by simpa using d);rwa [show i+1+j=i+(j+1) by omega] at this
  ·intro h
   refine⟨by simpa using h 0 x (by simp),fun j y d=>?_⟩
   have:=h (j+1) y (by simpa using d)
   rwa [show i+(j+1)=i+1+j by omega] at this
def nS (J:Nat→Prop) (w w':World):Prop:=∀ k,J k→w'.heap[k]?=w.heap[k]?
theorem VX {J:Nat→Prop} {w w':World} (h:nS J w w') {a:Addr} (d:J a.block):w'.cell? a=w.cell? a:=by
 unfold World.cell?;rw[h a.block d]
theorem Qw (a:Addr) (n:Nat):(a.add n).block=a.block:=by unfold Addr.add;split<;>rfl
mutual
theorem RepC.keep {J J':Nat→Prop} {w w':World} (hJ:∀ k,J k→J' k) (hk:nS J w w'):∀ {x:AV} {v:Value},RepC J w x v→RepC J' w' x v
 | .int ..,_,h=>h
 | .bool _,_,h=>h
 | .str _,_,h=>h
 | .nsl,_,h=>h
 | .imm c _ _ _ _,_,h=>by
  rw[RepC] at h ⊢
  obtain⟨h1,A,cap,h2,h3,h4,h5⟩:=h
  refine⟨h1,A,cap,h2,h3,h4,?_⟩
  rcases h5 with h5 | ⟨a,ha,hj,hc⟩
  ·exact .inl h5
  ·refine .inr ⟨a,ha,hJ _ hj,RepCs.keep hJ hk (c:=c) (fun j=>?_) hc⟩
   exact VX hk (by rw[Qw];exact hj)
 | .iptr c _,_,h=>by
  rw[RepC] at h ⊢
  obtain⟨a,ha,hj,hc⟩:=h
  exact⟨a,ha,hJ _ hj,RepCs.keep hJ hk (c:=c) (fun j=>VX hk (by rw[Qw];exact hj)) hc⟩
 | .nilptr,_,h=>h
 | .nilfn,_,h=>h
 | .fn _ [],_,h=>h
 | .fn _ (_::_),_,h=>by simp[RepC] at h
 | .pagg ..,_,h=>by simp[RepC] at h
 | .agg _,_,h=>by simp[RepC] at h
 | .tup _,_,h=>by simp[RepC] at h
 | .own ..,_,h=>by simp[RepC] at h
 | .optr ..,_,h=>by simp[RepC] at h
 | .undef,_,h=>by simp[RepC] at h
 | .omap _,_,h=>by simp[RepC] at h
theorem RepCs.keep {J J':Nat→Prop} {w w':World} (hJ:∀ k,J k→J' k) (hk:nS J w w'):∀ {c:List AV} {rd rd':Nat→Option Value} {i:Nat},(∀ j,rd' j=rd j)→RepCs J w c rd i→RepCs J' w' c rd' i
 | [],_,_,_,_,_=>trivial
 | x::r,rd,rd',i,he,h=>by
  rw[RepCs] at h ⊢
  obtain⟨⟨u,hu,hx⟩,hr⟩:=h
  exact⟨⟨u,by rw[he];exact hu,RepC.keep hJ hk (x:=x) hx⟩,RepCs.keep hJ hk (c:=r) he hr⟩
end
abbrev Ch:=Nat→Option (Nat×Nat)
def Ba (w:World) (k:Nat):Nat:=match w.heap[k]? with | some (.cells cs _ _)=>cs.size | _=>0
def yk (sz k:Nat):Value:=match sz with | 0=>.map (some k) | _+1=>.pointer (some ⟨k,0,none⟩)
mutual
def Rep (J:Bool→Nat→Prop) (β:Ch) (h:Aw) (w:World):AV→Value→Prop
 | .own b off n,v=>∃ x A cap,(Al h b=some x∧x.mp=false)∧v=.slice A n cap∧n≤cap∧(cap=0∨∃ k o,A=some ⟨k,o+off,none⟩ ∧
   (x.dead=true∨(β b=some (k,o)∧o+off+cap*x.sz≤Ba w k∧off+n*x.sz≤x.cells.length)))
 | .omap b,v=>∃ x k,(Al h b=some x∧x.mp=true)∧(x.dead=true∨(β b=some (k,0)∧v=yk x.sz k))
 | .optr b off,v=>∃ x k o,(Al h b=some x∧x.mp=false)∧v=.pointer (some ⟨k,o+off,none⟩)∧(x.dead=true∨β b=some (k,o))
 | .pagg c org,v=>∃ cs,v=.agg ⟨cs⟩∧cs.length=c.length∧RepCs (J org) w c (fun j=>cs[j]?) 0
 | .agg c,v=>∃ cs,v=.agg ⟨cs⟩∧Reps J β h w c cs
 | .tup c,v=>∃ cs,v=.tuple ⟨cs⟩∧Reps J β h w c cs
 | .fn f c,v=>∃ cs:List Value,v=.func (.func (f%1000000)) ⟨cs.take (f/1000000)⟩ ⟨cs.drop (f/1000000)⟩∧Reps J β h w c cs
 | .undef,_=>True
 | .imm c n sz t org,v=>RepC (J org) w (.imm c n sz t org) v
 | .iptr c org,v=>RepC (J org) w (.iptr c org) v
 | .int k n,v=>v=.int k n
 | .bool b,v=>v=.bool b
 | .str s,v=>v=.string ⟨⟨s⟩⟩
 | .nsl,v=>v=.slice none 0 0
 | .nilptr,v=>v=.pointer none
 | .nilfn,v=>v=.nilFunc
def Reps (J:Bool→Nat→Prop) (β:Ch) (h:Aw) (w:World):List AV→List Value→Prop
 | [],cs=>cs=[]
 | x::r,cs=>∃ u us,cs=u::us∧Rep J β h w x u∧Reps J β h w r us
end
structure Ext (J:Bool→Nat→Prop) (β:Ch) (h:Aw) (w:World) (J':Bool→Nat→Prop) (β':Ch) (h':Aw) (w':World):Prop where
 jsub:∀ o k,J o k→J' o k
 keep:∀ o,nS (J o) w w'
 blk:∀ b x,Al h b=some x→∃ x',(Al h' b=some x'∧x'.mp=x.mp)∧(x'.dead=true∨(x.dead=false∧β' b=β b∧x'.sz=x.sz∧(x.mp=false→x'.cells.length=x.cells.length)))
 size:∀ b k o,β b=some (k,o)→Ba w k≤Ba w' k
mutual
theorem Rep.ext {J J':Bool→Nat→Prop} {β β':Ch} {h h':Aw} {w w':World} (E:Ext J β h w J' β' h' w'):∀ {x:AV} {v:Value},Rep J β h w x v→Rep J' β' h' w' x v
 | .own b off n,v,hr=>by
  rw[Rep] at hr ⊢
  obtain⟨x,A,cap,⟨hx,hm⟩,h1,h2,hr⟩:=hr
  obtain⟨x',⟨hx',hm'⟩,hd⟩:=E.blk b x hx
  refine⟨x',A,cap,⟨hx',by rw[hm',hm]⟩,h1,h2,?_⟩
  rcases hr with hr | ⟨k,o,h3,hr⟩
  ·exact .inl hr
  ·refine .inr ⟨k,o,h3,?_⟩
   rcases hd with hd | ⟨hd,hβ,hs,hl⟩
   ·exact .inl hd
   ·rcases hr with hr | ⟨h4,h5,h6⟩
    ·simp[hd] at hr
    ·exact .inr ⟨by rw[hβ];exact h4,by rw[hs];exact Afi h5 (E.size b k o h4),by rw[hs,hl hm];exact h6⟩
 | .optr b off,v,hr=>by
  rw[Rep] at hr ⊢
  obtain⟨x,k,o,⟨hx,hm⟩,h1,hr⟩:=hr
  obtain⟨x',⟨hx',hm'⟩,hd⟩:=E.blk b x hx
  refine⟨x',k,o,⟨hx',by rw[hm',hm]⟩,h1,?_⟩
  rcases hd with hd | ⟨hd,hβ,hs,hl⟩
  ·exact .inl hd
  ·rcases hr with hr | hr
   ·simp[hd] at hr
   ·exact .inr (by rw[hβ];exact hr)
 | .omap b,v,hr=>by
  rw[Rep] at hr ⊢
  obtain⟨x,k,⟨hx,hm⟩,hr⟩:=hr
  obtain⟨x',⟨hx',hm'⟩,hd⟩:=E.blk b x hx
  refine⟨x',k,⟨hx',by rw[hm',hm]⟩,?_⟩
  rcases hd with hd | ⟨hd,hβ,hs,hl⟩
  ·exact .inl hd
  ·rcases hr with hr | ⟨hr,hv⟩
   ·simp[hd] at hr
   ·exact .inr ⟨by rw[hβ];exact hr,by rw[hs];exact hv⟩
 | .pagg c org,v,hr=>by
  rw[Rep] at hr ⊢
  obtain⟨cs,h1,h2,h3⟩:=hr
  exact⟨cs,h1,h2,RepCs.keep (E.jsub org) (E.keep org) (fun _=>rfl) h3⟩
 | .agg c,v,hr=>by
  rw[Rep] at hr ⊢
  obtain⟨cs,h1,h2⟩:=hr
  exact⟨cs,h1,Reps.ext E (c:=c) h2⟩
 | .tup c,v,hr=>by
  rw[Rep] at hr ⊢
  obtain⟨cs,h1,h2⟩:=hr
  exact⟨cs,h1,Reps.ext E (c:=c) h2⟩
 | .fn f c,v,hr=>by
  rw[Rep] at hr ⊢
  obtain⟨cs,h1,h2⟩:=hr
  exact⟨cs,h1,Reps.ext E (c:=c) h2⟩
 | .undef,_,_=>by rw[Rep];trivial
 | .imm c n sz t org,v,hr=>by rw[Rep] at hr ⊢;exact RepC.keep (E.jsub org) (E.keep org) hr
 | .iptr c org,v,hr=>by rw[Rep] at hr ⊢;exact RepC.keep (E.jsub org) (E.keep org) hr
 | .int ..,_,hr=>hr
 | .bool _,_,hr=>hr
 | .str _,_,hr=>hr
 | .nsl,_,hr=>hr
 | .nilptr,_,hr=>hr
 | .nilfn,_,hr=>hr
theorem Reps.ext {J J':Bool→Nat→Prop} {β β':Ch} {h h':Aw} {w w':World} (E:Ext J β h w J' β' h' w'):∀ {c:List AV} {cs:List Value},Reps J β h w c cs→Reps J' β' h' w' c cs
 | [],_,hr=>hr
 | x::r,cs,hr=>by
  rw[Reps] at hr ⊢
  obtain⟨u,us,h1,h2,h3⟩:=hr
  exact⟨u,us,h1,Rep.ext E (x:=x) h2,Reps.ext E (c:=r) h3⟩
end
end Gx
namespace Gx
open Go
def sW:List (Nat×List Value):=[(1,(List.range 20).map fun i=>.int .u64 ((10 ^ i:Nat):Int))]
def qW:List Nat:=[0]
end Gx
namespace Gx
open Go
def CellsRep (J:Bool→Nat→Prop) (β:Ch) (h:Aw) (w:World) (x:Blk) (rd:Nat→Option Value):Prop :=
 (x.pure=true→RepCs (J x.taint) w x.cells rd 0) ∧
 (x.pure=false→∀ j c,x.cells[j]?=some c→∃ u,rd j=some u∧Rep J β h w c u∧u.oneCell'=true)
def FrOk (n:Nat) (fr:Nat×Nat):Prop:=fr.1=fr.2∨n≤fr.1
theorem FrOk.at {n:Nat} {fr:Nat×Nat} (h:FrOk n fr) (j:Nat) (d:j<n):¬ (fr.1≤j∧j<fr.2):=by rcases h with h | h<;>omega
def TyOk (X:Option (Nat×Nat)) (ty:TypeId) (o n:Nat):Prop:=∀ t m,X=some (t,m)→ty=t∧o=0∧(m=0∨n=m)
def FrTy (X:Option (Nat×Nat)) (ty:TypeId) (o n:Nat) (fr:Nat×Nat):Prop:=FrOk n fr∧TyOk X ty o n
theorem TyOk.none {ty:TypeId} {o n:Nat}:TyOk .none ty o n:=fun _ _ h=>by cases h
theorem FrOk.un {n:Nat} {fr:Nat×Nat} (h:FrOk n fr) {ty:TypeId} {o:Nat}:FrTy .none ty o n fr:=⟨h,TyOk.none⟩
theorem FrTy.un0 {ty:TypeId} {o n a:Nat}:FrTy .none ty o n (a,a):=⟨.inl rfl,TyOk.none⟩
def xr (J:Bool→Nat→Prop) (β:Ch) (h:Aw) (w:World) (b:Nat) (x:Blk):Prop :=
 (β b=none∧x.cells=[])∨∃ k o cs ty fr,β b=some (k,o)∧w.heap[k]?=some (.cells cs ty fr) ∧
  FrTy x.ty ty o cs.size fr∧o+x.cells.length≤cs.size∧CellsRep J β h w x (fun j=>cs[o+j]?) ∧
  (x.sealed=false→∀ g,¬ J g k)∧(x.sealed=true→J x.taint k)
def xt (c:LA) (es:Array MapEntry):Prop:=∃ l:List Int,c=l.map (fun n=>.int .i64 n)∧es.toList.map (fun e=>(e.key,e.val))=l.map (fun n=>(.int .i64 n,.bool true))
def ObjIs (x:Blk) (ob:Obj):Prop:=(x.sz=0∧∃ es clk,ob=.map es clk∧xt x.cells es)∨(x.sz=1∧∃ s pos,ob=.stringIter ⟨⟨s⟩⟩ pos∧x.cells=[.str s,.int .i64 (pos:Int)])
def MapRep (J:Bool→Nat→Prop) (β:Ch) (w:World) (b:Nat) (x:Blk):Prop :=
 x.pure=true∧x.sealed=false∧∃ k ob,β b=some (k,0)∧w.heap[k]?=some ob∧ObjIs x ob∧∀ g,¬ J g k
theorem ObjIs.row {x:Blk} {ob:Obj} (h:ObjIs x ob) {cs:Array Value} {ty:TypeId} {fr:Nat×Nat}:ob≠.cells cs ty fr:=by
 rcases h with⟨_,es,clk,rfl,_⟩ | ⟨_,s,pos,rfl,_⟩<;>exact fun h=>by cases h
def GlobOk (J:Bool→Nat→Prop) (w:World):Prop:=(∀ p ∈ sW,J false p.1∧∃ ty fr,w.heap[p.1]?=some (.cells p.2.toArray ty fr))∧∀ g ∈ qW,J false g∧∃ m,w.cell? ⟨g,0,none⟩=some (.int .i64 m)
theorem GlobOk.to {J J':Bool→Nat→Prop} {w w':World} (h:GlobOk J w) (f:∀ k,J false k→J' false k) (j:nS (J false) w w'):GlobOk J' w':=⟨fun p d =>
 ⟨f _ (h.1 p d).1,by rw[j _ (h.1 p d).1];exact(h.1 p d).2⟩,fun g e=>⟨f _ (h.2 g e).1,by rw[VX j (by exact(h.2 g e).1)];exact(h.2 g e).2⟩⟩
theorem GlobOk.ext {J J':Bool→Nat→Prop} {β β':Ch} {h h':Aw} {w w':World} (G:GlobOk J w) (E:Ext J β h w J' β' h' w'):GlobOk J' w':=G.to (E.jsub false) (E.keep false)
structure SimH (J:Bool→Nat→Prop) (β:Ch) (h:Aw) (w:World):Prop where
 jlt:∀ o k,J o k→k<w.heap.size
 jft:∀ k,J false k→J true k
 gl:GlobOk J w
 blk:∀ b x,Al h b=some x→x.dead=false→x.mp=false→xr J β h w b x
 mblk:∀ b x,Al h b=some x→x.dead=false→x.mp=true→MapRep J β w b x
 sep:∀ b b' x x' k o o',Al h b=some x→Al h b'=some x'→x.dead=false→x'.dead=false→x.sealed=false→β b=some (k,o)→β b'=some (k,o')→b=b'
mutual
theorem FF {J:Bool→Nat→Prop} {β:Ch} {h:Aw} {w:World}:∀ v:Value,Rep J β h w (VI v) v
 | .int ..=>by simp[VI,Rep]
 | .bool _=>by simp[VI,Rep]
 | .string ⟨⟨s⟩⟩=>by simp[VI,Rep]
 | .slice none 0 0=>by simp[VI,Rep]
 | .slice none 0 (_+1)=>by simp[VI,Rep]
 | .slice none (_+1) _=>by simp[VI,Rep]
 | .slice (some _) _ _=>by simp[VI,Rep]
 | .pointer none=>by simp[VI,Rep]
 | .pointer (some _)=>by simp[VI,Rep]
 | .nilFunc=>by simp[VI,Rep]
 | .agg ⟨cs⟩=>by rw[VI,Rep];exact⟨cs,rfl,MU cs⟩
 | .float ..=>by simp[VI,Rep]
 | .complex ..=>by simp[VI,Rep]
 | .map _=>by simp[VI,Rep]
 | .chan _=>by simp[VI,Rep]
 | .func ..=>by simp[VI,Rep]
 | .iface ..=>by simp[VI,Rep]
 | .nilIface=>by simp[VI,Rep]
 | .tuple _=>by simp[VI,Rep]
theorem MU {J:Bool→Nat→Prop} {β:Ch} {h:Aw} {w:World}:∀ cs:List Value,Reps J β h w (Ls cs) cs
 | []=>by simp[Ls,Reps]
 | v::r=>by rw[Ls,Reps];exact⟨v,r,rfl,FF v,MU r⟩
end
structure SimS (J:Bool→Nat→Prop) (β:Ch) (h:Aw) (w:World) (s:Hf) (t:Array Value):Prop where
 slot:∀ i v,t[i]?=some v→Rep J β h w (Gp s i) v
 out:∀ i,t.size≤i→Gp s i=.undef
theorem Bf {J:Bool→Nat→Prop} {β:Ch} {h:Aw} {w:World} {s:Hf} {a:Act} (H:SimS J β h w s a.tmps) (x:Operand):Rep J β h w (ev s x) (a.eval x):=by
 cases x with
 | tmp t =>
  rw[ev,Act.eval,Af0]
  cases d:a.tmps[t]? with
  | some v=>exact H.slot t v d
  | none =>
   have:a.tmps.size≤t:=by simpa using d
   rw[H.out t this];simp[Rep]
 | const v=>exact FF v
 | global g=>simp[ev,Rep]
 | func f =>
  rw[ev]
  cases e:Nat.blt f 1000000 with
  | false=>simp[Rep]
  | true =>
   have:f<1000000:=by simpa using e
   simp[Rep,Act.eval,Reps,Ae7 this]
section
variable {R:Type} {r:R} {P:Program} {J:Bool→Nat→Prop} {β:Ch} {h:Aw} {w:World}
theorem ku {t:TypeId} {op:BinOp} {k:IntKind} {a b:Int} {v:AV} (d:VJ op k a b=some v) :
  ∃ vc,(binOp op t (.int k a) (.int k b)).run P w=.ok vc w∧Rep J β h w v vc:=by
 cases op<;>simp[VJ] at d<;>subst d<;>simp[binOp,Op.intArith,Op.intBits,Op.intCmp,Rep]
theorem qX {op:BinOp} {t:TypeId} {x y:AV} {k:AV→O R} {vx vy:Value} (e:tS P t op x y k=some r) (hx:Rep J β h w x vx) (q:Rep J β h w y vy) (ox oy:Operand) :
  ∃ v vc,k v=some r∧(do eqGuard op t ox oy vx vy;binOp op t vx vy:Sem Value).run P w=.ok vc w∧Rep J β h w v vc:=by
 unfold tS at e
 split at e
 ·rename_i m a k2 b
  rw[Rep] at hx q;subst hx q
  have j:(eqGuard op t ox oy (.int m a) (.int k2 b)).run P w=.ok () w:=by
   unfold eqGuard;cases op<;>simp
  split at e
  ·cases f:decide (b<0)<;>rw[f] at e<;>simp at e f
   refine⟨_,_,e,?_,by rw[Rep]⟩
   simp[j,binOp,Op.shift];intro z;omega
  ·cases f:decide (b<0)<;>rw[f] at e<;>simp at e f
   refine⟨_,_,e,?_,by rw[Rep]⟩
   simp[j,binOp,Op.shift];intro z;omega
  ·cases n:Na m k2<;>rw[n] at e<;>simp at e
   have l:m=k2:=by simpa[Na] using n
   subst l
   cases f:(b==0)<;>rw[f] at e<;>simp at e f
   refine⟨_,_,e,?_,by rw[Rep]⟩
   simp[j,binOp,Op.intDiv,f]
  ·cases n:Na m k2<;>rw[n] at e<;>simp at e
   have l:m=k2:=by simpa[Na] using n
   subst l
   cases f:(b==0)<;>rw[f] at e<;>simp at e f
   refine⟨_,_,e,?_,by rw[Rep]⟩
   simp[j,binOp,Op.intDiv,f]
  ·cases n:Na m k2<;>rw[n] at e<;>simp at e
   have l:m=k2:=by simpa[Na] using n
   subst l
   cases hi:VJ op m a b with
   | none=>rw[hi] at e;simp at e
   | some v =>
    rw[hi] at e
    obtain⟨vc,A,B⟩:=ku (P:=P) (J:=J) (β:=β) (h:=h) (w:=w) (t:=t) hi
    exact⟨v,vc,by simpa using e,by simp[j,A],B⟩
 ·rename_i a b
  rw[Rep] at hx q;subst hx q
  split at e
  ·cases f:MO P t<;>rw[f] at e<;>simp at e
   have s:P.underlying t=some .bool:=by unfold MO at f;split at f<;>simp_all
   refine⟨_,_,e,?_,by rw[Rep]⟩
   have u:(Op.equal t (.bool a) (.bool b)).run P w=.ok (a==b) w:=by
    have:∀ d,(Op.equalIn (d+1) t (.bool a) (.bool b)).run P w=.ok (a==b) w:=fun d=>by
     unfold Op.equalIn;simp only[Sem.run_bind,run_underlying s,Result.andThen_ok,Sem.run_pure]
    exact this 9999
   have j:∀ op,(eqGuard op t ox oy (.bool a) (.bool b)).run P w=.ok () w:=fun op=>by unfold eqGuard;cases op<;>simp
   simp only[Sem.run_bind,j,Result.andThen_ok,binOp,u,Sem.run_pure]
  ·cases f:MO P t<;>rw[f] at e<;>simp at e
   have s:P.underlying t=some .bool:=by unfold MO at f;split at f<;>simp_all
   refine⟨_,_,e,?_,by rw[Rep]⟩
   have u:(Op.equal t (.bool a) (.bool b)).run P w=.ok (a==b) w:=by
    have:∀ d,(Op.equalIn (d+1) t (.bool a) (.bool b)).run P w=.ok (a==b) w:=fun d=>by
     unfold Op.equalIn;simp only[Sem.run_bind,run_underlying s,Result.andThen_ok,Sem.run_pure]
    exact this 9999
   have j:∀ op,(eqGuard op t ox oy (.bool a) (.bool b)).run P w=.ok () w:=fun op=>by unfold eqGuard;cases op<;>simp
   simp only[Sem.run_bind,j,Result.andThen_ok,binOp,u,Sem.run_pure]
  ·simp at e
 ·rename_i a b
  rw[Rep] at hx q;subst hx q
  have C:(⟨⟨a⟩⟩:ByteArray).toList=a:=by simp[ByteArray.toList_eq]
  have eb:(⟨⟨b⟩⟩:ByteArray).toList=b:=by simp[ByteArray.toList_eq]
  have j:∀ op,(eqGuard op t ox oy (.string ⟨⟨a⟩⟩) (.string ⟨⟨b⟩⟩)).run P w=.ok () w:=fun op=>by unfold eqGuard;cases op<;>simp
  split at e
  ·cases f:ble (a.length+b.length) 140737488355328<;>rw[f] at e<;>simp at e f
   refine⟨_,_,e,?_,by rw[Rep]⟩
   have D:¬ (((⟨⟨a⟩⟩:ByteArray).size+(⟨⟨b⟩⟩:ByteArray).size:Nat):Int)>IntKind.i64.max:=by
    show ¬ ((a.length+b.length:Nat):Int)>9223372036854775807
    omega
   have F:(⟨⟨a⟩⟩:ByteArray)++⟨⟨b⟩⟩=⟨⟨a++b⟩⟩:=by
    apply ByteArray.ext;simp[ByteArray.data_append]
   simp only[Sem.run_bind,j,Result.andThen_ok,binOp,Op.stringOp,if_neg D,Sem.run_pure,F]
  all_goals first
   | (refine⟨_,_,e,?_,by rw[Rep]⟩;simp only[Sem.run_bind,j,Result.andThen_ok,binOp,Op.stringOp,Sem.run_pure,C,eb];done)
   | simp at e
 ·simp at e
end
end Gx
namespace Gx
open Go
section
variable {R:Type} {r:R} {P:Program} {J:Bool→Nat→Prop} {β:Ch} {h:Aw} {w:World}
theorem ub {α:Type} {o:Option α} {f:α→O R} (d:o.bind f=some r):∃ x,o=some x∧f x=some r:=by
 cases o with
 | none=>simp at d
 | some x=>exact⟨x,rfl,by simpa using d⟩
theorem uc {b:Bool} {x:O R} (d:cond b x none=some r):b=true∧x=some r:=by
 cases b<;>simp at d;exact⟨rfl,d⟩
theorem qY {b:Bool} {x:O R} (d:cond b none x=some r):b=false∧x=some r:=by
 cases b<;>simp at d;exact⟨rfl,d⟩
theorem tY {op:UnOp} {x v:AV} {vx:Value} (d:Aar op x=some v) (hx:Rep J β h w x vx) :
  ∃ vc,(Op.unary op vx).run P w=.ok vc w∧Rep J β h w v vc:=by
 unfold Aar at d
 split at d
 ·rename_i k n
  rw[Rep] at hx;subst hx;simp at d;subst d
  refine⟨.int k (k.wrap (-n)),by simp[Op.unary,Op.intArith],?_⟩
  rw[Rep]
 ·rename_i k n
  rw[Rep] at hx;subst hx
  have e:=d
  rw[VJ] at e
  simp only[Af2] at e;subst e
  refine⟨_,rfl,?_⟩
  rw[Rep];cases k.signed<;>rfl
 ·rename_i b
  rw[Rep] at hx;subst hx;simp at d;subst d
  exact⟨.bool (!b),by simp[Op.unary],by rw[Rep]⟩
 ·simp at d
def YP (P:Program) (J:Bool→Nat→Prop) (β:Ch) (h:Aw) (w:World) (t:TypeId) (rd:Nat→Option Value) (v:AV):Prop :=
 (∃ d,P.underlying t=some d∧d.isRow=false∧∃ u,rd 0=some u∧Rep J β h w v u) ∨
 (∃ d,P.underlying t=some d∧d.isRow=true∧∃ us:List Value,(P.info? t).map (·.size)=some us.length∧(∀ j u,us[j]?=some u→rd j=some u)∧Rep J β h w v (.agg us.toArray))
theorem RepCs.at {J:Nat→Prop} {c:LA} {rd:Nat→Option Value} (d:RepCs J w c rd 0) {j:Nat} {x:AV} (e:c[j]?=some x):∃ u,rd j=some u∧RepC J w x u:=by
 have:=By.1 d j x e;simpa using this
theorem RepCs.drop {J:Nat→Prop} {c:LA} {rd:Nat→Option Value} (d:RepCs J w c rd 0) (n:Nat):RepCs J w (c.drop n) (fun j=>rd (n+j)) 0:=by
 rw[By] at d ⊢
 intro j x e
 rw[Ae8] at e
 simpa using d (n+j) x e
theorem RepCs.take {J:Nat→Prop} {c:LA} {rd:Nat→Option Value} (e:RepCs J w c rd 0) (n:Nat):RepCs J w (c.take n) rd 0:=by
 rw[By] at e ⊢
 intro j x d
 rw[Afg] at d
 split at d
 ·exact e j x d
 ·simp at d
theorem RepCs.list {J:Nat→Prop} {c:LA} {rd:Nat→Option Value} (f:RepCs J w c rd 0) :
  ∃ us:List Value,us.length=c.length∧(∀ j u,us[j]?=some u→rd j=some u)∧RepCs J w c (fun j=>us[j]?) 0:=by
 refine⟨c.zipIdx.map fun p=>(rd p.2).getD undef,by simp,fun j u d=>?_,?_⟩
 ·rw[Afv,Aht] at d
  cases hx:c[j]? with
  | none=>rw[hx] at d;simp at d
  | some x =>
   rw[hx] at d
   obtain⟨k,e,_⟩:=f.at hx
   simp[e] at d
   rw[e,d]
 ·rw[By]
  intro j x d
  obtain⟨u,e,hr⟩:=f.at d
  refine⟨u,?_,hr⟩
  simp[d,e]
theorem YQ {J1 J2:Nat→Prop}:∀ {c:LA} {rd:Nat→Option Value} {i:Nat},Ax c=true→RepCs J1 w c rd i→RepCs J2 w c rd i
 | [],_,_,_,_=>trivial
 | x::r,rd,i,d,e=>by
  rw[RepCs] at e ⊢
  obtain⟨⟨u,f,k⟩,j⟩:=e
  have hr:Ax r=true:=by unfold Ax at d;split at d<;>simp_all
  refine⟨⟨u,f,?_⟩,YQ hr j⟩
  unfold Ax at d
  split at d<;>simp_all[RepC]
theorem OW {t:TypeId} {c:LA} {org:Bool} {k:Bool→O R} {rd:Nat→Option Value} {i:Nat} (d:Xd P t c org k=some r) (e:RepCs (J org) w c rd i):∃ o,k o=some r∧RepCs (J o) w c rd i:=by
 unfold Xd at d
 cases f:sO P t with
 | true=>rw[f] at d;exact⟨org,d,e⟩
 | false =>
  rw[f,cond_false] at d
  obtain⟨j,l⟩:=uc d
  refine⟨false,l,?_⟩
  cases org with
  | false=>exact e
  | true=>exact YQ (by simpa using j) e
theorem Va {t:TypeId} {c:LA} {org:Bool} {k:AV→O R} {rd:Nat→Option Value} (f:JK P t c org k=some r) (s:RepCs (J org) w c rd 0) :
  ∃ v,k v=some r∧YP P J β h w t rd v:=by
 unfold JK at f
 have agg:∀ {d:TypeDesc},P.underlying t=some d→d.isRow=true→((Bq P t).bind fun n=>cond (ble n c.length) (Xd P t (c.take n) org fun o=>k (.pagg (c.take n) o)) none)=some r →
   ∃ v,k v=some r∧YP P J β h w t rd v:=by
  intro d l I f
  obtain⟨n,hn,f⟩:=ub f
  obtain⟨C,f⟩:=uc f
  have G:n≤c.length:=by simpa using C
  obtain⟨us,m,j,D⟩:=(s.take n).list
  have L:us.length=n:=by rw[m];simp;omega
  obtain⟨o,f,F⟩:=OW f D
  refine⟨_,f,.inr ⟨d,l,I,us,?_,j,?_⟩⟩
  ·rw[L];exact hn
  ·rw[Rep];exact⟨us,rfl,by rw[m],F⟩
 split at f
 ·rename_i kd l
  obtain⟨x,hx,f⟩:=ub f
  obtain⟨n,hn,f⟩:=ub f
  obtain⟨u,m,j⟩:=s.at (by rw[←Aes];exact hx)
  refine⟨_,f,.inl ⟨_,l,rfl,u,m,?_⟩⟩
  unfold OT at hn
  split at hn
  ·obtain⟨y,z⟩:=uc hn
   simp[Na] at y z;subst y;subst z
   rw[RepC] at j;rw[Rep];exact j
  ·simp at hn
 ·rename_i l
  obtain⟨x,hx,f⟩:=ub f
  obtain⟨n,hn,f⟩:=ub f
  obtain⟨u,m,j⟩:=s.at (by rw[←Aes];exact hx)
  refine⟨_,f,.inl ⟨_,l,rfl,u,m,?_⟩⟩
  unfold asBool at hn
  split at hn
  ·simp at hn;subst hn
   rw[RepC] at j;rw[Rep];exact j
  ·simp at hn
 ·rename_i l
  obtain⟨x,hx,f⟩:=ub f
  obtain⟨n,hn,f⟩:=ub f
  obtain⟨u,m,j⟩:=s.at (by rw[←Aes];exact hx)
  refine⟨_,f,.inl ⟨_,l,rfl,u,m,?_⟩⟩
  unfold YH at hn
  split at hn
  ·simp at hn;subst hn
   rw[RepC] at j;rw[Rep];exact j
  ·simp at hn
 ·rename_i e l
  obtain⟨sz,M,f⟩:=ub f
  obtain⟨x,hx,f⟩:=ub f
  obtain⟨p,q,f⟩:=ub f
  obtain⟨u,m,j⟩:=s.at (by rw[←Aes];exact hx)
  refine⟨_,f,.inl ⟨_,l,rfl,u,m,?_⟩⟩
  unfold uj at q
  rw[Rep,RepC]
  split at q
  ·obtain⟨y,B⟩:=uc q
   simp at y B;subst y;subst B
   rw[RepC] at j
   obtain⟨D,A,cap,F,S,U,T⟩:=j
   exact⟨D,A,cap,F,S,by simp,T⟩
  ·simp at q;subst q
   rw[RepC] at j
   exact⟨by simp,none,0,j,by simp,by simp,.inl rfl⟩
  ·simp at q
 ·rename_i l;exact agg l rfl f
 ·rename_i l;exact agg l rfl f
 ·simp at f
theorem Cg:∀ {c:LA} {cs:List Value},Reps J β h w c cs↔cs.length=c.length∧∀ (j:Nat) (x:AV) (u:Value),c[j]?=some x→cs[j]?=some u→Rep J β h w x u
 | [],cs=>by rw[Reps];simp
 | x::r,cs=>by
  rw[Reps]
  constructor
  ·rintro⟨u,us,rfl,f,k⟩
   rw[Cg] at k
   refine⟨by simp[k.1],fun j y v d e=>?_⟩
   cases j with
   | zero=>simp at d e;subst d e;exact f
   | succ j=>exact k.2 j y v (by simpa using d) (by simpa using e)
  ·rintro⟨l,f⟩
   cases cs with
   | nil=>simp at l
   | cons u us =>
    refine⟨u,us,rfl,f 0 x u (by simp) (by simp),?_⟩
    rw[Cg]
    exact⟨by simpa using l,fun j y v d e=>f (j+1) y v (by simpa using d) (by simpa using e)⟩
theorem JU {t:TypeId} {c:LA} {k:AV→O R} {rd:Nat→Option Value} (e:YI P t c k=some r)
  (s:∀ j x,c[j]?=some x→∃ u,rd j=some u∧Rep J β h w x u) :
  ∃ v,k v=some r∧YP P J β h w t rd v:=by
 unfold YI at e
 have agg:∀ {d:TypeDesc},P.underlying t=some d→d.isRow=true→((Bq P t).bind fun n=>cond (ble n c.length) (k (.agg (c.take n))) none)=some r →
   ∃ v,k v=some r∧YP P J β h w t rd v:=by
  intro d f z e
  obtain⟨n,hn,e⟩:=ub e
  obtain⟨y,e⟩:=uc e
  have q:n≤c.length:=by simpa using y
  refine⟨_,e,.inr ⟨d,f,z,(c.take n).zipIdx.map fun p=>(rd p.2).getD undef,?_,fun j u m=>?_,?_⟩⟩
  ·simp;rw[Ae9 q];exact Option.map_eq_some_iff.1 hn
  ·rw[Afv,Aht] at m
   cases hx:(c.take n)[j]? with
   | none=>rw[hx] at m;simp at m
   | some x =>
    rw[hx] at m
    rw[Afg] at hx
    split at hx
    ·obtain⟨A,l,_⟩:=s j x hx
     simp[l] at m
     rw[l,m]
    ·simp at hx
  ·rw[Rep]
   refine⟨_,rfl,Cg.2 ⟨by simp,fun j x u hx f=>?_⟩⟩
   simp[hx] at f
   rw[Afg] at hx
   split at hx
   ·obtain⟨A,l,hr⟩:=s j x hx
    simp[l] at f;subst f;exact hr
   ·simp at hx
 split at e
 ·rename_i f;exact agg f rfl e
 ·rename_i f;exact agg f rfl e
 ·rename_i d _ _ f
  obtain⟨x,hx,e⟩:=ub e
  obtain⟨u,B,C⟩:=s 0 x (by rw[←Aes];exact hx)
  refine⟨x,e,.inl ⟨d,f,?_,u,B,C⟩⟩
  cases d<;>simp_all
 ·simp at e
theorem j5 {n:Nat} {k:AV→O R}:∀ {c:LA} {i:Nat},E_ n k c i=some r→i≤n∧∃ x,c[n - i]?=some x∧k x=some r
 | [],i,d=>by simp[E_] at d
 | v::c,i,d=>by
  rw[E_] at d
  cases e:beq n i with
  | true =>
   rw[e] at d
   have:n=i:=Ad8 e
   subst this
   exact⟨Ad4 _,v,by simp,d⟩
  | false =>
   rw[e] at d
   obtain⟨l,x,f,j⟩:=j5 (c:=c) d
   refine⟨by omega,x,?_,j⟩
   rw[show n - i=(n - (i+1))+1 by omega];simpa using f
theorem SD {t:TypeId} {c:LA} {off:Nat} {k:AV→O R} (e:JL P t c off k=some r):YI P t (c.drop off) k=some r:=by
 unfold JL at e
 unfold YI
 split at e
 ·exact e
 ·exact e
 ·rename_i d m n q
  obtain⟨_,x,f,j⟩:=j5 e
  have l:(c.drop off).head?=some x:=by rw[Aes,Ae8];simpa using f
  rw[l];exact j
 ·simp at e
theorem MV {t:TypeId} {d:TypeDesc} (e:P.underlying t=some d):(isAgg t).run P w=.ok d.isRow w:=by
 unfold isAgg
 rw[Sem.run_bind,run_underlying e w]
 cases d<;>simp
theorem OX {t:TypeId} {a:Addr} {v:AV} (hr:YP P J β h w t (fun j=>w.cell? (a.add j)) v):∃ vc,(loadVar t a).run P w=.ok vc w∧Rep J β h w v vc:=by
 rcases hr with⟨d,f,k,u,e,l⟩ | ⟨d,f,k,us,e,l,n⟩
 ·refine⟨u,?_,l⟩
  have m:w.cell? a=some u:=by simpa[Addr.add] using e
  simp[loadVar,MV f,k,m]
 ·refine⟨_,?_,n⟩
  have q:=run_loadCells_list (P:=P) w a us l
  cases hq:P.info? t with
  | none=>simp[hq] at e
  | some i =>
   have hs:i.size=us.length:=by simpa[hq] using e
   simp[loadVar,Sem.run_bind,MV f,k,Go.sizeOf,typeInfo,hq,hs,q]
theorem Ua {t:TypeId} {cs:List Value} {off:Nat} {v:AV} (hr:YP P J β h w t (fun j=>cs[off+j]?) v):∃ vc,(part t ⟨cs⟩ off).run P w=.ok vc w∧Rep J β h w v vc:=by
 rcases hr with⟨d,f,k,u,e,l⟩ | ⟨d,f,k,us,e,l,n⟩
 ·refine⟨u,?_,l⟩
  simp at e
  simp[part,MV f,k,e]
 ·refine⟨_,?_,n⟩
  cases hq:P.info? t with
  | none=>simp[hq] at e
  | some i =>
   have hs:i.size=us.length:=by simpa[hq] using e
   have:(⟨cs⟩:Array Value).extract off (off+us.length)=us.toArray:=by
    apply Afa
    simp
    apply List.ext_getElem?
    intro j
    rw[Afg,Ae8]
    split
    ·rename_i m
     rw[Ad1 m]
     exact l j _ (Ad1 m)
    ·rename_i m
     rw[Afo (by omega)]
   simp only[part,Sem.run_bind,MV f,k,Go.sizeOf,typeInfo,run_program,Result.andThen_ok,hq,Sem.run_pure,hs,if_true,this]
end
end Gx
namespace Gx
open Go
section
variable {R:Type} {r:R} {P:Program} {J:Bool→Nat→Prop} {β:Ch} {h:Aw} {w:World} {g:Bg}
theorem Pm {k:Nat} {cs:Array Value} {ty:TypeId} {fr:Nat×Nat} (d:w.heap[k]?=some (.cells cs ty fr)) (i:Nat):w.cell? ⟨k,i,none⟩=cs[i]?:=by
 simp[World.cell?,d]
def Looks (g:Bg) (h:Aw):Prop:=∀ b x,g b=some x→Al h b=some x
theorem Do {b:Nat} {x:Blk} (e:Looks g h) (d:Gm g b=some x):Al h b=some x∧x.dead=false:=by
 unfold Gm at d
 obtain⟨y,f,d⟩:=ub d
 obtain⟨j,d⟩:=qY d
 simp at d;subst d
 exact⟨e b _ f,j⟩
theorem kv {b off:Nat} {x:Blk} {v:Value} (S:SimH J β h w) (l:Al h b=some x) (m:x.dead=false) (hr:Rep J β h w (.optr b off) v) :
  ∃ k o cs ty fr,β b=some (k,o)∧v=.pointer (some ⟨k,o+off,none⟩)∧w.heap[k]?=some (.cells cs ty fr) ∧
  FrTy x.ty ty o cs.size fr∧o+x.cells.length≤cs.size∧CellsRep J β h w x (fun j=>cs[o+j]?) ∧
  (x.sealed=false→∀ g,¬ J g k)∧(x.sealed=true→J x.taint k):=by
 rw[Rep] at hr
 obtain⟨y,k,o,⟨e,n⟩,q,hr⟩:=hr
 rw[l] at e;simp at e;subst e
 rcases hr with hr | f
 ·simp[m] at hr
 ·rcases S.blk b x l m n with⟨hn,_⟩ | ⟨C,o',cs,ty,fr,d,s,t,u,z,A,B⟩
  ·rw[f] at hn;simp at hn
  ·rw[f] at d;simp at d;obtain⟨rfl,rfl⟩:=d
   exact⟨k,o,cs,ty,fr,f,q,s,t,u,z,A,B⟩
theorem CellsRep.reads {t:TypeId} {x:Blk} {cs:Array Value} {o off:Nat} {k:AV→O R} (m:CellsRep J β h w x (fun j=>cs[o+j]?))
  (d:cond x.pure (JK P t (x.cells.drop off) x.taint k) (JL P t x.cells off k)=some r) :
  ∃ v,k v=some r∧YP P J β h w t (fun j=>cs[o+off+j]?) v:=by
 cases e:x.pure with
 | true =>
  rw[e] at d
  have:=(m.1 e).drop off
  obtain⟨v,f,l⟩:=Va (β:=β) (h:=h) d this
  exact⟨v,f,by simpa[Afl] using l⟩
 | false =>
  rw[e] at d
  obtain⟨v,f,l⟩:=JU (J:=J) (β:=β) (h:=h) (w:=w) (rd:=fun j=>cs[o+(off+j)]?) (SD d) (fun j y n=>by
   rw[Ae8] at n
   obtain⟨u,q,hr,_⟩:=m.2 e _ _ n
   exact⟨u,q,hr⟩)
  exact⟨v,f,by simpa[Afl] using l⟩
theorem YR {t:TypeId} {p:AV} {vp:Value} {k:AV→O R} (S:SimH J β h w) (u:Looks g h) (d:dT P g t p k=some r) (e:Rep J β h w p vp) :
  ∃ v vc,k v=some r∧(Instr.loadAt t vp).run P w=.ok vc w∧Rep J β h w v vc:=by
 unfold dT at d
 split at d
 ·rename_i c org
  rw[Rep,RepC] at e
  obtain⟨a,rfl,_,f⟩:=e
  obtain⟨v,l,m⟩:=Va (β:=β) (h:=h) d f
  obtain⟨vc,n,q⟩:=OX m
  exact⟨v,vc,l,by simp[Instr.loadAt,Instr.sureAddr,n],q⟩
 ·rename_i b off
  obtain⟨x,hx,d⟩:=ub d
  obtain⟨y,z⟩:=Do u hx
  obtain⟨kk,o,cs,ty,fr,B,rfl,A,_,_,f,_⟩:=kv S y z e
  obtain⟨v,l,m⟩:=f.reads d
  have s:YP P J β h w t (fun j=>w.cell? ((⟨kk,o+off,none⟩:Addr).add j)) v:=by
   simpa only[Addr.add_mid,Pm A] using m
  obtain⟨vc,n,q⟩:=OX s
  exact⟨v,vc,l,by simp[Instr.loadAt,Instr.sureAddr,n],q⟩
 ·simp at d
theorem Cs {t:TypeId} {n:Nat} (hs:Bq P t=some n) (w:World):(Go.sizeOf t).run P w=.ok n w:=by
 unfold Bq at hs
 cases hq:P.info? t with
 | none=>simp[hq] at hs
 | some i=>simp[hq] at hs;simp[Go.sizeOf,typeInfo,hq,hs]
theorem Te {i:Int} {n:Nat} (hi:Aj i n=true):0≤i∧i<(n:Int):=by simpa[Aj] using hi
theorem SE {J:Nat→Prop} {c:LA} {a:Addr} (d:RepCs J w c (fun j=>w.cell? (a.add j)) 0) (n:Nat):RepCs J w (c.drop n) (fun j=>w.cell? ((a.add n).add j)) 0:=by
 have e:∀ j,(a.add n).add j=a.add (n+j):=fun j=>by
  unfold Addr.add
  by_cases f:n=0<;>by_cases k:j=0<;>simp[f,k,Afl]
 simpa[e] using d.drop n
theorem wc {b off n:Nat} {v:Value} (m:Nat) (hr:Rep J β h w (.own b off n) v) (hn:n≠0) :
  ∃ k o cap,v=.slice (some ⟨k,o,none⟩) n cap∧Rep J β h w (.optr b (off+m)) (.pointer (some ⟨k,o+m,none⟩)):=by
 rw[Rep] at hr
 obtain⟨x,A,cap,hx,rfl,d,hr⟩:=hr
 rcases hr with hr | ⟨k,o,rfl,hr⟩
 ·omega
 ·refine⟨k,o+off,cap,rfl,?_⟩
  rw[Rep];exact⟨x,k,o,hx,by rw[Afl],hr.imp id (·.1)⟩
theorem OY {t d:TypeId} {kd:IntKind} {i:Int} {len cap sz:Nat} {a:Addr} (e:P.underlying t=some (.slice d)) (hs:Bq P d=some sz) (f:Aj i len=true) :
  (Instr.indexAt t (.slice (some a) len cap) (.int kd i)).run P w=.ok (.pointer (some (a.add (i.toNat*sz)))) w:=by
 obtain⟨j,k⟩:=Te f
 simp[Instr.indexAt,asIntOf,run_underlying e,j,k,Cs hs]
theorem OZ {t d:TypeId} {kd:IntKind} {i:Int} {len sz:Nat} {a:Addr} (e:P.underlying t=some (.array len d)) (hs:Bq P d=some sz) (f:Aj i len=true) :
  (Instr.indexAt t (.pointer (some a)) (.int kd i)).run P w=.ok (.pointer (some (a.add (i.toNat*sz)))) w:=by
 obtain⟨j,k⟩:=Te f
 simp[Instr.indexAt,asIntOf,run_underlying e,j,k,Cs hs,Instr.sureAddr]
theorem VY {t:TypeId} {x i:AV} {vx vi:Value} {k:AV→O R} (e:S9 P t x i k=some r) (hx:Rep J β h w x vx) (hi:Rep J β h w i vi) :
  ∃ v vc,k v=some r∧(Instr.indexAt t vx vi).run P w=.ok vc w∧Rep J β h w v vc:=by
 unfold S9 at e
 split at e
 ·rename_i m c len sz tight org kd i f
  obtain⟨n,hs,j⟩:=ub e
  obtain⟨B,F⟩:=uc j
  obtain⟨d,l⟩:=uc F
  have q:n=sz:=by simp at B;exact B.symm
  subst q
  rw[Rep] at hi;subst hi
  rw[Rep,RepC] at hx
  obtain⟨C,A,cap,rfl,D,_,hA⟩:=hx
  rcases hA with hA | ⟨a,rfl,s,u⟩
  ·have:=Te d;omega
  refine⟨_,_,l,OY f hs d,?_⟩
  rw[Rep,RepC]
  exact⟨_,rfl,by rw[Qw];exact s,SE u _⟩
 ·rename_i m b off len kd i f
  obtain⟨sz,hs,j⟩:=ub e
  obtain⟨d,l⟩:=uc j
  rw[Rep] at hi;subst hi
  obtain⟨kk,o,cap,rfl,z⟩:=wc (i.toNat*sz) hx (by have:=Te d;omega)
  exact⟨_,_,l,OY f hs d,by rw[Addr.add_mid];exact z⟩
 ·rename_i len m c org kd i f
  obtain⟨sz,hs,j⟩:=ub e
  obtain⟨d,l⟩:=uc j
  rw[Rep] at hi;subst hi
  rw[Rep,RepC] at hx
  obtain⟨a,rfl,s,u⟩:=hx
  refine⟨_,_,l,OZ f hs d,?_⟩
  rw[Rep,RepC]
  exact⟨_,rfl,by rw[Qw];exact s,SE u _⟩
 ·rename_i len m b off kd i f
  obtain⟨sz,hs,j⟩:=ub e
  obtain⟨d,l⟩:=uc j
  rw[Rep] at hi;subst hi
  rw[Rep] at hx
  obtain⟨y,kk,o,G,rfl,z⟩:=hx
  refine⟨_,_,l,OZ f hs d,?_⟩
  rw[Rep,Addr.add_mid]
  exact⟨y,kk,o,G,by rw[Afl],z⟩
 ·simp at e
theorem SF {t:TypeId} {f:Nat} {p:Nat×TypeId} (d:dH P t f=some p):∃ fs fd,P.underlying t=some (.struct fs)∧fs[f]?=some fd∧fd.offset=p.1∧fd.type=p.2:=by
 unfold dH at d
 split at d
 ·rename_i fs e
  cases hq:fs[f]? with
  | none=>simp[hq] at d
  | some fd=>simp[hq] at d;subst d;exact⟨fs,fd,e,hq,rfl,rfl⟩
 ·simp at d
theorem VZ {t:TypeId} {x:AV} {f:Nat} {vx:Value} {k:AV→O R} (l:Ta P t x f k=some r) (hx:Rep J β h w x vx) :
  ∃ v vc,k v=some r∧(Instr.fieldAt t vx f).run P w=.ok vc w∧Rep J β h w v vc:=by
 unfold Ta at l
 obtain⟨p,m,q⟩:=ub l
 obtain⟨n,hn,s⟩:=ub q
 obtain⟨u,d⟩:=qY s
 obtain⟨fs,fd,z,A,B,C⟩:=SF m
 have j:n≠0:=by intro e;subst e;simp at u
 have run:∀ a:Addr,(Instr.fieldAt t (.pointer (some a)) f).run P w=.ok (.pointer (some (a.add p.1))) w:=fun a=>by
  simp[Instr.fieldAt,run_underlying z,A,Instr.sureAddr,fieldPlace,C,Cs hn,j,B]
 split at d
 ·rw[Rep,RepC] at hx
  obtain⟨a,rfl,D,F⟩:=hx
  refine⟨_,_,d,run a,?_⟩
  rw[Rep,RepC]
  exact⟨_,rfl,by rw[Qw];exact D,SE F _⟩
 ·rw[Rep] at hx
  obtain⟨y,kk,o,G,rfl,I⟩:=hx
  refine⟨_,_,d,run _,?_⟩
  rw[Rep,Addr.add_mid]
  exact⟨y,kk,o,G,by rw[Afl],I⟩
 ·simp at d
theorem ky {t:TypeId} {x:AV} {f:Nat} {vx:Value} {k:AV→O R} (u:VK P t x f k=some r) (hx:Rep J β h w x vx) :
  ∃ v vc,k v=some r∧(Instr.field t vx f).run P w=.ok vc w∧Rep J β h w v vc:=by
 unfold VK at u
 obtain⟨p,D,e⟩:=ub u
 obtain⟨fs,fd,z,A,B,C⟩:=SF D
 split at e
 ·rename_i c org
  rw[Rep] at hx
  obtain⟨cs,rfl,F,d⟩:=hx
  obtain⟨v,l,m⟩:=Va (β:=β) (h:=h) e (d.drop p.1)
  obtain⟨vc,n,q⟩:=Ua m
  exact⟨v,vc,l,by simp[Instr.field,run_underlying z,A,asAgg,C,B,n],q⟩
 ·rename_i c
  rw[Rep] at hx
  obtain⟨cs,rfl,d⟩:=hx
  rw[Cg] at d
  obtain⟨v,l,m⟩:=JU (J:=J) (β:=β) (h:=h) (w:=w) (rd:=fun j=>cs[p.1+j]?) e (fun j y s=>by
   rw[Ae8] at s
   have:p.1+j<cs.length:=by
    rw[d.1];exact(Aed.1 s).1
   exact⟨cs[p.1+j],Ad1 this,d.2 _ _ _ s (Ad1 this)⟩)
  obtain⟨vc,n,q⟩:=Ua m
  exact⟨v,vc,l,by simp[Instr.field,run_underlying z,A,asAgg,C,B,n],q⟩
 ·simp at e
theorem kz {t:TypeId} {x i:AV} {vx vi:Value} {k:AV→O R} (d:VL P t x i k=some r) (hx:Rep J β h w x vx) (hi:Rep J β h w i vi) :
  ∃ v vc,k v=some r∧(Instr.index t vx vi).run P w=.ok vc w∧Rep J β h w v vc:=by
 unfold VL at d
 split at d
 ·rename_i s kd i e
  obtain⟨f,l⟩:=uc d
  obtain⟨m,u⟩:=Te f
  rw[Rep] at hi;rw[Rep] at hx;subst hi hx
  have n:i.toNat<s.length:=by omega
  refine⟨_,.int .u8 ((s.getD i.toNat 0).toNat:Int),l,?_,by rw[Rep]⟩
  have G:(⟨⟨s⟩⟩:ByteArray)[i.toNat]?=some s[i.toNat]:=by
   have:i.toNat<(⟨⟨s⟩⟩:ByteArray).size:=n
   rw[getElem?_pos (⟨⟨s⟩⟩:ByteArray) i.toNat this];rfl
  simp only[Instr.index,asIntOf,Sem.run_bind,Sem.run_pure,Result.andThen_ok,run_underlying e,m,if_true,G,Aee,Ad1 n,Option.getD_some]
 ·rename_i len I c org kd i e
  obtain⟨sz,hs,l⟩:=ub d
  obtain⟨f,u⟩:=uc l
  obtain⟨m,z⟩:=Te f
  rw[Rep] at hi;rw[Rep] at hx;subst hi
  obtain⟨cs,rfl,L,q⟩:=hx
  obtain⟨v,A,B⟩:=Va (β:=β) (h:=h) u (q.drop (i.toNat*sz))
  obtain⟨vc,C,D⟩:=Ua B
  exact⟨v,vc,A,by simp[Instr.index,asIntOf,run_underlying e,m,z,Cs hs,C],D⟩
 ·rename_i len I c kd i e
  obtain⟨sz,hs,l⟩:=ub d
  obtain⟨f,u⟩:=uc l
  obtain⟨m,z⟩:=Te f
  rw[Rep] at hi;rw[Rep] at hx;subst hi
  obtain⟨cs,rfl,q⟩:=hx
  rw[Cg] at q
  obtain⟨v,A,B⟩:=JU (J:=J) (β:=β) (h:=h) (w:=w) (rd:=fun j=>cs[i.toNat*sz+j]?) (SD u) (fun j y F=>by
   rw[Ae8] at F
   have:i.toNat*sz+j<cs.length:=by
    rw[q.1];exact(Aed.1 F).1
   exact⟨cs[i.toNat*sz+j],Ad1 this,q.2 _ _ _ F (Ad1 this)⟩)
  obtain⟨vc,C,D⟩:=Ua B
  exact⟨v,vc,A,by simp[Instr.index,asIntOf,run_underlying e,m,z,Cs hs,C],D⟩
 ·simp at d
def Wb (J:Bool→Nat→Prop) (β:Ch) (h:Aw) (w:World):Option AV→Option Value→Prop
 | none,none=>True
 | some x,some v=>Rep J β h w x v
 | _,_=>False
theorem JV {o:Option AV} {vo:Option Value} {d:Nat} {i:Int} (e:RY o d=some i) (f:Wb J β h w o vo) :
  (o=none∧vo=none∧i=d)∨∃ k,vo=some (.int k i):=by
 unfold RY at e
 split at e
 ·simp at e;subst e
  cases vo with
  | none=>exact .inl ⟨rfl,rfl,rfl⟩
  | some v=>simp[Wb] at f
 ·rename_i k j
  simp at e;subst e
  cases vo with
  | none=>simp[Wb] at f
  | some v=>rw[Wb,Rep] at f;subst f;exact .inr ⟨k,rfl⟩
 ·simp at e
theorem Ub {lo hi mx:Option AV} {vlo vhi vmx:Option Value} {n cap:Nat} {k:Nat→Nat→O R} {isSlice:Bool} (u:Xe lo hi mx n k=some r)
  (s:Wb J β h w lo vlo)
  (f:Wb J β h w hi vhi)
  (j:Wb J β h w mx vmx) (v:n≤cap) :
  ∃ l e m,k l e=some r∧l≤e∧e≤n∧e≤m∧m≤cap∧(mx=none→m=cap)∧(∀ kd i,vmx=some (.int kd i)→(m:Int)=i)∧(∀ kd i,vhi=some (.int kd i)→(e:Int)=i)∧(hi=none→e=n) ∧
   (Instr.sliceBounds isSlice n cap vlo vhi vmx).run P w=.ok (l,e,m) w:=by
 unfold Xe at u
 obtain⟨l,B,C⟩:=ub u
 obtain⟨d,D,F⟩:=ub C
 obtain⟨m,G,t⟩:=ub F
 obtain⟨x,t⟩:=qY t
 obtain⟨z,A⟩:=uc t
 simp at z x
 obtain⟨c1,I,L,M⟩:=z
 have run:∀ (kd:IntKind) (i:Int) (y:Nat) (code:BoundsCode),0≤i→i≤(y:Int)→(Instr.sliceBound (.int kd i) y code).run P w=.ok i.toNat w:=fun kd i y code a b=>by
  simp[Instr.sliceBound,asIntOf,a,b]
 have bl:=JV (J:=J) (β:=β) (h:=h) (w:=w) B s
 have bh:=JV (J:=J) (β:=β) (h:=h) (w:=w) D f
 have bm:=JV (J:=J) (β:=β) (h:=h) (w:=w) G j
 rcases bm with⟨rfl,rfl,rfl⟩ | ⟨km,rfl⟩
 ·refine⟨l.toNat,d.toNat,cap,A,by omega,by omega,by omega,by omega,fun _=>rfl,by simp,?_,?_,?_⟩
  ·intro kd i q
   rcases bh with⟨_,rfl,_⟩ | ⟨kh,rfl⟩
   ·simp at q
   ·simp at q;omega
  ·intro hn
   rcases bh with⟨_,_,rfl⟩ | ⟨kh,rfl⟩
   ·simp
   ·subst hn;simp[Wb] at f
  ·rcases bh with⟨_,rfl,rfl⟩ | ⟨kh,rfl⟩<;>rcases bl with⟨_,rfl,rfl⟩ | ⟨kl,rfl⟩
   ·simp[Instr.sliceBounds]
   ·simp[Instr.sliceBounds,run _ l n _ c1 (by omega)]
   ·simp[Instr.sliceBounds,run _ d cap _ (by omega) (by omega)]
   ·simp[Instr.sliceBounds,run _ d cap _ (by omega) (by omega),run _ l d.toNat _ c1 (by omega)]
 ·rcases bh with⟨rfl,rfl,rfl⟩ | ⟨kh,rfl⟩
  ·have:mx.isSome=true:=by
    cases mx with
    | none=>simp[Wb] at j
    | some _=>rfl
   have:=x this;simp at this
  ·refine⟨l.toNat,d.toNat,m.toNat,A,by omega,by omega,by omega,by omega,?_,?_,?_,?_,?_⟩
   ·intro hn;subst hn;simp[Wb] at j
   ·intro kd i q;simp at q;omega
   ·intro kd i q;simp at q;omega
   ·intro hn;subst hn;simp[Wb] at f
   ·rcases bl with⟨_,rfl,rfl⟩ | ⟨kl,rfl⟩
    ·simp[Instr.sliceBounds,run _ m cap _ (by omega) (by omega),run _ d m.toNat _ (by omega) (by omega)]
    ·simp[Instr.sliceBounds,run _ m cap _ (by omega) (by omega),run _ d m.toNat _ (by omega) (by omega),run _ l d.toNat _ c1 (by omega)]
theorem lA {t:TypeId} {x:AV} {lo hi mx:Option AV} {vx:Value} {vlo vhi vmx:Option Value} {k:AV→O R} (S:SimH J β h w) (hl:Looks g h) (z:VM P g t x lo hi mx k=some r)
  (hx:Rep J β h w x vx) (B:Wb J β h w lo vlo) (e:Wb J β h w hi vhi) (j:Wb J β h w mx vmx) :
  ∃ v vc,k v=some r∧(Instr.sliceAt t vx vlo vhi vmx).run P w=.ok vc w∧Rep J β h w v vc:=by
 unfold VM at z
 split at z
 ·rename_i s C
  obtain⟨hm,L⟩:=qY z
  have hmn:mx=none:=by cases mx<;>simp_all
  subst hmn
  have hv:vmx=none:=by cases vmx<;>simp_all[Wb]
  subst hv
  rw[Rep] at hx;subst hx
  obtain⟨l,d,m,D,M,h4,_,_,h5,_,_,_,h6⟩:=Ub (P:=P) (isSlice:=false) L B e (vmx:=none) (by simp[Wb]) (Ad4 _)
  refine⟨_,_,D,?_,by rw[Rep]⟩
  have hs:(⟨⟨s⟩⟩:ByteArray).size=s.length:=rfl
  have F:(⟨⟨s⟩⟩:ByteArray).extract l d=⟨⟨(s.drop l).take (d - l)⟩⟩:=by
   apply ByteArray.ext
   rw[ByteArray.data_extract]
   simp
  simp[Instr.sliceAt,Instr.slice,run_underlying C,hs,h6,F]
 ·rename_i el C
  rw[Rep] at hx;subst hx
  obtain⟨sz,hs,z⟩:=ub z
  obtain⟨l,d,m,D,M,h4,h5,h6,_,_,_,_,h7⟩:=Ub (P:=P) (isSlice:=true) z B e j (Ad4 _)
  have:l=0:=by omega
  have:d=0:=by omega
  have:m=0:=by omega
  subst l;subst d;subst m
  refine⟨_,.slice none 0 0,D,?_,by rw[Rep]⟩
  simp[Instr.sliceAt,Instr.slice,run_underlying C,h7,Cs hs]
 ·rename_i el c n sz tight org C
  obtain⟨T,hs,L⟩:=ub z
  obtain⟨F,D⟩:=uc L
  have G:T=sz:=by simp at F;exact F.symm
  subst G
  rw[Rep,RepC] at hx
  obtain⟨X,A,cap,rfl,q,ht,hA⟩:=hx
  obtain⟨l,d,m,M,h4,h5,h6,h7,h8,h9,h10,h11,h12⟩:=Ub (P:=P) (isSlice:=true) D B e j q
  refine⟨_,.slice (if m=l then A else A.map (·.add (l*T))) (d - l) (m - l),M,?_,?_⟩
  ·simp[Instr.sliceAt,Instr.slice,run_underlying C,h12,Cs hs]
  ·rw[Rep,RepC]
   refine⟨?_,_,_,rfl,by omega,?_,?_⟩
   ·simp;rw[X,←Nat.sub_mul]
    exact Ae9 (Aet _ (by omega))
   ·intro u
    unfold sP at u
    split at u
    ·have:=ht u
     have:=h8 rfl
     have:=h11 rfl
     omega
    ·rename_i ka a kb b
     cases vhi with
     | none=>simp[Wb] at e
     | some u1=>cases vmx with
      | none=>simp[Wb] at j
      | some u2 =>
       rw[Wb,Rep] at e j;subst e j
       have e1:=h10 _ _ rfl
       have e2:=h9 _ _ rfl
       simp at u
       omega
    ·simp at u
   ·by_cases hz:d - l=0
    ·exact .inl hz
    ·right
     rcases hA with hA | ⟨a,rfl,hj,hc⟩
     ·omega
     ·refine⟨a.add (l*T),by rw[if_neg (by omega)];rfl,by rw[Qw];exact hj,(SE hc _).take _⟩
 ·rename_i el b off n C
  obtain⟨sz,hs,L⟩:=ub z
  obtain⟨y,hy,D⟩:=ub L
  obtain⟨F,M⟩:=uc D
  obtain⟨V,hd⟩:=Do hl hy
  have G:sz=y.sz:=by simpa using F
  rw[Rep] at hx
  obtain⟨x,A,cap,⟨f,I⟩,rfl,q,hr⟩:=hx
  rw[V] at f;simp at f;subst f
  obtain⟨l,d,m,h4,h5,h6,h7,h8,_,_,_,_,h9⟩:=Ub (P:=P) (isSlice:=true) M B e j q
  refine⟨_,.slice (if m=l then A else A.map (·.add (l*sz))) (d - l) (m - l),h4,?_,?_⟩
  ·simp[Instr.sliceAt,Instr.slice,run_underlying C,h9,Cs hs]
  ·rw[Rep]
   refine⟨y,_,_,⟨V,I⟩,rfl,by omega,?_⟩
   by_cases hz:m - l=0
   ·exact .inl hz
   ·right
    rcases hr with hr | ⟨kk,o,rfl,hr⟩
    ·omega
    ·refine⟨kk,o,by rw[if_neg (by omega)];simp[Addr.add_mid,Afl],?_⟩
     rcases hr with hr | ⟨r1,r2,r3⟩
     ·simp[hd] at hr
     ·refine .inr ⟨r1,?_,?_⟩
      ·have:l*sz+(m - l)*y.sz≤cap*y.sz:=by
        rw[G,←Afn];exact Aet _ (by omega)
       omega
      ·have:l*sz+(d - l)*y.sz≤n*y.sz:=by
        rw[G,←Afn];exact Aet _ (by omega)
       omega
 ·rename_i n el b off C
  obtain⟨sz,hs,L⟩:=ub z
  obtain⟨y,hy,D⟩:=ub L
  obtain⟨F,M⟩:=uc D
  simp at F
  obtain⟨e1,e2,e3,e4,e5⟩:=F
  subst e3;subst e4;subst e5
  obtain⟨V,hd⟩:=Do hl hy
  have nlo:vlo=none:=by cases vlo<;>simp_all[Wb]
  have nhi:vhi=none:=by cases vhi<;>simp_all[Wb]
  have nmx:vmx=none:=by cases vmx<;>simp_all[Wb]
  subst nlo;subst nhi;subst nmx
  rw[Rep] at hx
  obtain⟨x,kk,o,⟨f,I⟩,rfl,hr⟩:=hx
  rw[V] at f;simp at f;subst f
  refine⟨_,.slice (some ⟨kk,o+off,none⟩) n n,M,?_,?_⟩
  ·have e1:(Addr.add ⟨kk,o+off,none⟩ 0)=⟨kk,o+off,none⟩:=rfl
   simp[Instr.sliceAt,Instr.sureAddr,run_underlying C,Instr.sliceBounds,Cs hs,e1]
  ·rw[Rep]
   refine⟨y,_,_,⟨V,I⟩,rfl,Ad4 _,.inr ⟨kk,o,rfl,?_⟩⟩
   rcases hr with hr | hr
   ·exact .inl hr
   ·rcases S.blk b y V hd I with⟨Y,_⟩ | ⟨k',o',cs,ty',fr,U,g1,g2,g3,_⟩
    ·rw[hr] at Y;simp at Y
    ·rw[hr] at U;simp at U;obtain⟨rfl,rfl⟩:=U
     refine .inr ⟨hr,?_,?_⟩
     ·rw[e1,show Ba w kk=cs.size by simp[Ba,g1]];omega
     ·rw[e1];omega
 ·simp at z
theorem qZ {t:TypeId} {x v:AV} {vx:Value} {ty:TypeId} (d:xo P t x=some v) (hx:Rep J β h w x vx) :
  ∃ vc,(Builtin.len_ #[t] ty #[vx]).run P w=.ok vc w∧Rep J β h w v vc:=by
 unfold xo at d
 split at d
 ·rename_i e
  simp at d;subst d;rw[Rep] at hx;subst hx
  exact⟨.int .i64 0,by simp[Builtin.len_,run_underlying e,goInt],by rw[Rep]⟩
 ·rename_i n _ _ _ e
  simp at d;subst d;rw[Rep,RepC] at hx
  obtain⟨_,A,cap,rfl,_⟩:=hx
  exact⟨.int .i64 n,by simp[Builtin.len_,run_underlying e,goInt],by rw[Rep]⟩
 ·rename_i n e
  simp at d;subst d;rw[Rep] at hx
  obtain⟨_,A,cap,_,rfl,_⟩:=hx
  exact⟨.int .i64 n,by simp[Builtin.len_,run_underlying e,goInt],by rw[Rep]⟩
 ·rename_i s e
  simp at d;subst d;rw[Rep] at hx;subst hx
  refine⟨.int .i64 s.length,?_,by rw[Rep]⟩
  have hs:(⟨⟨s⟩⟩:ByteArray).size=s.length:=rfl
  simp[Builtin.len_,run_underlying e,goInt,hs]
 ·rename_i n _ e
  simp at d;subst d
  exact⟨.int .i64 n,by simp[Builtin.len_,run_underlying e,goInt],by rw[Rep]⟩
 ·simp at d
theorem SG {J:Nat→Prop}:∀ {x:AV} {u:Value},RepC J w x u→u.oneCell'=true
 | .int ..,_,hr=>by rw[RepC] at hr;subst hr;rfl
 | .bool _,_,hr=>by rw[RepC] at hr;subst hr;rfl
 | .str _,_,hr=>by rw[RepC] at hr;subst hr;rfl
 | .nsl,_,hr=>by rw[RepC] at hr;subst hr;rfl
 | .imm ..,_,hr=>by rw[RepC] at hr;obtain⟨_,A,cap,rfl,_⟩:=hr;rfl
 | .iptr ..,_,hr=>by rw[RepC] at hr;obtain⟨a,rfl,_⟩:=hr;rfl
 | .nilptr,_,hr=>by rw[RepC] at hr;subst hr;rfl
 | .nilfn,_,hr=>by rw[RepC] at hr;subst hr;rfl
 | .fn _ [],_,hr=>by rw[RepC] at hr;subst hr;rfl
 | .fn _ (_::_),_,hr=>by simp[RepC] at hr
 | .pagg ..,_,hr=>by simp[RepC] at hr
 | .agg _,_,hr=>by simp[RepC] at hr
 | .tup _,_,hr=>by simp[RepC] at hr
 | .own ..,_,hr=>by simp[RepC] at hr
 | .optr ..,_,hr=>by simp[RepC] at hr
 | .undef,_,hr=>by simp[RepC] at hr
 | .omap _,_,hr=>by simp[RepC] at hr
theorem RepCs.one {J:Nat→Prop} {c:LA} {us:List Value} (f:RepCs J w c (fun j=>us[j]?) 0) (m:us.length=c.length):∀ u ∈ us,u.oneCell'=true:=by
 intro u k
 obtain⟨j,l,rfl⟩:=Aep k
 have e:j<c.length:=by omega
 obtain⟨n,d,hr⟩:=f.at (Ad1 e)
 simp[Ad1 l] at d
 rw[d];exact SG hr
structure Yield (P:Program) (w:World) (sz:Nat) (vx:Value) (n:Nat) (us:List Value):Prop where
 len:∀ w':World,(Builtin.lenOf vx).run P w'=.ok n w'
 cells:∀ (w':World) (m:Nat),(∀ a,w'.cell? a=w.cell? a)→m≤n→(Builtin.firstCells sz m vx).run P w'=.ok (us.take (m*sz)).toArray w'
 length:us.length=n*sz
theorem YS {sz:Nat} {x:AV} {vx:Value} {q:LA×Nat×Bool} (S:SimH J β h w) (hl:Looks g h) (f:HW g sz x=some q) (hx:Rep J β h w x vx) :
  ∃ us:List Value,Yield P w sz vx q.2.1 us∧q.1.length=us.length∧RepCs (J q.2.2) w q.1 (fun j=>us[j]?) 0:=by
 have ofSlice:∀ (a:Addr) (n cap:Nat) (us:List Value),us.length=n*sz→(∀ j u,us[j]?=some u→w.cell? (a.add j)=some u)→Yield P w sz (.slice (some a) n cap) n us:=fun a n cap us d hu =>
  ⟨fun _=>rfl,fun w' m e I=>by
   have hle:m*sz≤n*sz:=Aet _ I
   refine run_firstCells_some (P:=P) w' sz m a n cap (us.take (m*sz)) (by simp;omega) (fun j v C=>?_)
   rw[e]
   rw[Afg] at C
   split at C
   ·exact hu j v C
   ·simp at C,d⟩
 have ofEmpty:∀ (A:Option Addr) (cap:Nat),Yield P w sz (.slice A 0 cap) 0 []:=fun A cap =>
  ⟨fun _=>rfl,fun w' m e I=>by
   have:m=0:=by omega
   subst this
   cases A with
   | none=>simp[run_firstCells_none]
   | some a=>have:=run_firstCells_some (P:=P) w' sz 0 a 0 cap [] (by simp) (fun j v C=>by simp at C);simpa using this,by simp⟩
 unfold HW at f
 split at f
 ·simp at f;subst f;rw[Rep] at hx;subst hx
  exact⟨[],ofEmpty _ _,rfl,by simp[RepCs]⟩
 ·rename_i c n L tight org
  obtain⟨e,t⟩:=uc f
  have M:L=sz:=by simp at e;exact e.symm
  subst M
  simp at t;subst t
  rw[Rep,RepC] at hx
  obtain⟨d,A,cap,rfl,D,ht,hA⟩:=hx
  rcases hA with rfl | ⟨a,rfl,F,hc⟩
  ·have:c=[]:=by simpa using d
   subst this
   exact⟨[],ofEmpty _ _,rfl,by simp[RepCs]⟩
  ·obtain⟨us,l,T,U⟩:=hc.list
   exact⟨us,ofSlice a n cap us (by rw[l,d]) T,l.symm,U⟩
 ·rename_i b off n
  obtain⟨y,hy,t⟩:=ub f
  obtain⟨e,l⟩:=uc t
  obtain⟨G,X⟩:=Do hl hy
  simp at e l
  obtain⟨hp,e⟩:=e
  subst l;subst e
  rw[Rep] at hx
  obtain⟨x,A,cap,⟨z,V⟩,rfl,D,hr⟩:=hx
  rw[G] at z;simp at z;subst z
  rcases hr with hr | ⟨kk,o,rfl,hr⟩
  ·have:n=0:=by omega
   subst this
   exact⟨[],ofEmpty _ _,by simp,by simp[RepCs]⟩
  ·rcases hr with hr | ⟨Y,r2,r3⟩
   ·simp[X] at hr
   ·rcases S.blk b y G X V with⟨hn,_⟩ | ⟨k',o',cs,ty,fr,B,g1,g2,g3,g4,g5,g6⟩
    ·rw[Y] at hn;simp at hn
    ·rw[Y] at B;simp at B;obtain⟨rfl,rfl⟩:=B
     obtain⟨us,l,T,U⟩:=(((g4.1 hp).drop off).take (n*y.sz)).list
     have d:us.length=n*y.sz:=by rw[l];simp;omega
     refine⟨us,ofSlice _ n cap us d (fun j u F=>?_),l.symm,U⟩
     have:=T j u F
     rw[Addr.add_mid,Pm g1,Afl];exact this
 ·rename_i s
  obtain⟨e,t⟩:=uc f
  simp at e t
  subst e;subst t
  rw[Rep] at hx;subst hx
  refine⟨s.map fun b=>.int .u8 (b.toNat:Int),⟨fun _=>rfl,fun w' m _ I=>?_,by simp⟩,by simp,?_⟩
  ·simp[Builtin.firstCells]
  ·rw[By]
   intro j x F
   simp at F
   obtain⟨b,G,rfl⟩:=F
   exact⟨_,by simp[G];rfl,by rw[RepC]⟩
 ·simp at f
theorem FG {l:TypeId} {sz:Nat} {x:AV} {vx:Value} {k:LA×Nat×Bool→O R} (S:SimH J β h w) (m:Looks g h) (f:QD P l g sz x k=some r) (hx:Rep J β h w x vx) :
  ∃ (q:LA×Nat×Bool) (us:List Value),k q=some r∧Yield P w sz vx q.2.1 us∧q.1.length=us.length∧RepCs (J q.2.2) w q.1 (fun j=>us[j]?) 0:=by
 unfold QD at f
 obtain⟨q,hq,n⟩:=ub f
 obtain⟨us,Y,d,e⟩:=YS (P:=P) S m hq hx
 obtain⟨o,s,t⟩:=OW n e
 exact⟨_,us,s,Y,d,t⟩
end
end Gx
namespace Gx
open Go
theorem IT {a b:Nat} (h:a≠b):beq a b=false:=by
 cases d:beq a b with
 | false=>rfl
 | true=>exact absurd (Ad8 d) h
theorem Wq {a b:Nat} (h:beq a b=false):a≠b:=fun e=>by subst e;rw[Nat.beq_refl] at h;cases h
theorem Af:∀ (h:Aw) (b:Nat) (y:Blk) (c:Nat),Al (Fx h b y) c=if c=b then some y else Al h c
 | [],b,y,c=>by
  by_cases e:c=b
  ·subst e;simp[Fx,Al]
  ·have:beq b c=false:=IT (fun f=>e f.symm)
   simp[Fx,Al,e,this]
 | (i,x)::r,b,y,c=>by
  rw[Fx]
  cases k:beq i b with
  | true =>
   have d:i=b:=by simpa using k
   subst d
   by_cases e:c=i
   ·subst e;simp[Al]
   ·have:beq i c=false:=IT (fun f=>e f.symm)
    simp[Al,e,this]
  | false =>
   have d:i≠b:=Wq k
   cases m:Nat.blt b i with
   | true =>
    by_cases e:c=b
    ·subst e;simp[Al]
    ·have:beq b c=false:=IT (fun f=>e f.symm)
     simp[Al,e,this]
   | false =>
    simp only[cond_false]
    rw[Al]
    cases l:beq i c with
    | true =>
     have j:i=c:=by simpa using l
     subst j
     simp[Al,d]
    | false=>simp[Al,l,Af r b y c]
theorem Of:∀ (h:Hf) (b:Nat) (y:AV) (c:Nat),Gp (QC h b y) c=if c=b then y else Gp h c
 | [],b,y,c=>by
  by_cases e:c=b
  ·subst e;simp[QC,Gp]
  ·have:beq b c=false:=IT (fun f=>e f.symm)
   simp[QC,Gp,e,this]
 | (i,x)::r,b,y,c=>by
  rw[QC]
  cases k:beq i b with
  | true =>
   have d:i=b:=by simpa using k
   subst d
   by_cases e:c=i
   ·subst e;simp[Gp]
   ·have:beq i c=false:=IT (fun f=>e f.symm)
    simp[Gp,e,this]
  | false =>
   have d:i≠b:=Wq k
   cases m:Nat.blt b i with
   | true =>
    by_cases e:c=b
    ·subst e;simp[Gp]
    ·have:beq b c=false:=IT (fun f=>e f.symm)
     simp[Gp,e,this]
   | false =>
    simp only[cond_false]
    rw[Gp]
    cases l:beq i c with
    | true =>
     have j:i=c:=by simpa using l
     subst j
     simp[Gp,d]
    | false=>simp[Gp,l,Of r b y c]
def nT (β:Ch) (h:Aw) (k:Nat):Prop:=∃ b x o,Al h b=some x∧x.dead=false∧x.sealed=false∧β b=some (k,o)
structure Step (J:Bool→Nat→Prop) (β:Ch) (h:Aw) (w:World) (J':Bool→Nat→Prop) (β':Ch) (h':Aw) (w':World):Prop where
 ext:Ext J β h w J' β' h' w'
 sim:SimH J' β' h' w'
 os:w'.os=w.os
 tape:w'.tape=w.tape
 output:w'.output=w.output
 size:w.heap.size≤w'.heap.size
 frame:∀ k,k<w.heap.size→¬ nT β h k→w'.heap[k]?=w.heap[k]?
 wr:∀ k,nT β' h' k→k<w.heap.size→nT β h k
 jup:∀ o k,J' o k→J o k∨nT β h k∨w.heap.size≤k
section
variable {J J' J'':Bool→Nat→Prop} {β β' β'':Ch} {h h' h'':Aw} {w w' w'':World}
theorem Ext.refl:Ext J β h w J β h w:=⟨fun _ _ d=>d,fun _ _ _=>rfl,fun b x e=>⟨x,⟨e,rfl⟩,by cases f:x.dead<;>simp⟩,fun _ _ _ _=>Ad4 _⟩
theorem Ext.trans (A:Ext J β h w J' β' h' w') (B:Ext J' β' h' w' J'' β'' h'' w'') (hs:∀ b k o,β b=some (k,o)→Ba w k≤Ba w'' k):Ext J β h w J'' β'' h'' w'' where
 jsub o k e:=B.jsub o k (A.jsub o k e)
 keep o k e:=(B.keep o k (A.jsub o k e)).trans (A.keep o k e)
 blk b x l:=by
  obtain⟨x',⟨m,m1⟩,f⟩:=A.blk b x l
  obtain⟨x'',⟨n,m3⟩,d⟩:=B.blk b x' m
  refine⟨x'',⟨n,m3.trans m1⟩,?_⟩
  rcases d with d | ⟨d,q,s,t⟩
  ·exact .inl d
  ·rcases f with f | ⟨u,v,y,z⟩
   ·simp[d] at f
   ·exact .inr ⟨u,q.trans v,s.trans y,fun j=>(t (m1.trans j)).trans (z j)⟩
 size:=hs
theorem Step.refl (S:SimH J β h w):Step J β h w J β h w:=⟨Ext.refl,S,rfl,rfl,rfl,Ad4 _,fun _ _ _=>rfl,fun _ d _=>d,fun _ _ e=>.inl e⟩
theorem Step.trans (A:Step J β h w J' β' h' w') (B:Step J' β' h' w' J'' β'' h'' w'') (hs:∀ b k o,β b=some (k,o)→Ba w k≤Ba w'' k):Step J β h w J'' β'' h'' w'' where
 ext:=A.ext.trans B.ext hs
 sim:=B.sim
 os:=B.os.trans A.os
 tape:=B.tape.trans A.tape
 output:=B.output.trans A.output
 size:=Afi A.size B.size
 frame k d f:=(B.frame k (Afj d A.size) (fun j=>f (A.wr k j d))).trans (A.frame k d f)
 wr k f d:=A.wr k (B.wr k f (Afj d A.size)) d
 jup o k l:=by
  rcases B.jup o k l with e | e | e
  ·exact A.jup o k e
  ·by_cases d:k<w.heap.size
   ·exact .inr (.inl (A.wr k e d))
   ·exact .inr (.inr (by omega))
  ·exact .inr (.inr (Afi A.size e))
theorem CellsRep.ext (E:Ext J β h w J' β' h' w') {x:Blk} {rd:Nat→Option Value} (e:CellsRep J β h w x rd):CellsRep J' β' h' w' x rd :=
 ⟨fun d=>RepCs.keep (E.jsub _) (E.keep _) (fun _=>rfl) (e.1 d),fun d j c f=>by
  obtain⟨u,k,l,m⟩:=e.2 d j c f
  exact⟨u,k,Rep.ext E l,m⟩⟩
theorem Fg {k:Nat} {cs:Array Value} {ty:TypeId} {fr:Nat×Nat} (d:w.heap[k]?=some (.cells cs ty fr)):Ba w k=cs.size:=by simp[Ba,d]
theorem FH {k:Nat} {o:Obj} (f:w.heap[k]?=some o):k<w.heap.size:=by
 rcases Ahp k w.heap.size with d | e
 ·exact d
 ·rw[Aff e] at f;cases f
theorem MapRep.keep {b:Nat} {x:Blk} (M:MapRep J β w b x) (e:β' b=β b) (f:∀ k o,β b=some (k,o)→w'.heap[k]?=w.heap[k]?) (j:∀ g k o,β b=some (k,o)→J' g k→J g k):MapRep J' β' w' b x:=by
 obtain⟨l,m,k,ob,d,n,q,s⟩:=M
 exact⟨l,m,k,ob,by rw[e];exact d,by rw[f k 0 d];exact n,q,fun g t=>s g (j g k 0 d t)⟩
theorem Step.drew (S:SimH J β h w):Step J β h w J β h w.drew where
 ext:=⟨fun _ _ d=>d,fun _ _ _=>rfl,fun b x e=>⟨x,⟨e,rfl⟩,by cases f:x.dead<;>simp⟩,fun _ _ _ _=>Ad4 _⟩
 sim:=by
  have E:Ext J β h w J β h w.drew:=⟨fun _ _ d=>d,fun _ _ _=>rfl,fun b x e=>⟨x,⟨e,rfl⟩,by cases f:x.dead<;>simp⟩,fun _ _ _ _=>Ad4 _⟩
  refine⟨S.jlt,S.jft,S.gl.ext E,fun b x e f j=>?_,fun b x e f j=>(S.mblk b x e f j).keep rfl (fun _ _ _=>rfl) (fun _ _ _ _ d=>d),S.sep⟩
  rcases S.blk b x e f j with l | ⟨k,o,cs,ty,fr,l,m,n,q,s,t⟩
  ·exact .inl l
  ·exact .inr ⟨k,o,cs,ty,fr,l,m,n,q,s.ext E,t⟩
 os:=rfl
 tape:=rfl
 output:=rfl
 size:=Ad4 _
 frame _ _ _:=rfl
 wr _ j _:=j
 jup _ _ d:=.inl d
theorem Du (w:World) (o:Obj) {k:Nat} (d:k<w.heap.size):(w.alloc o).heap[k]?=w.heap[k]?:=by
 show(w.heap.push o)[k]?=_
 rw[Array.getElem?_push,if_neg (by omega)]
theorem Wc (S:SimH J β h w) {b:Nat} {x:Blk} {k o:Nat} (j:Al h b=some x) (l:x.dead=false) (e:β b=some (k,o)):k<w.heap.size:=by
 cases m:x.mp with
 | false =>
  rcases S.blk b x j l m with⟨hn,_⟩ | ⟨n,o',cs,ty,fr,d,f,_⟩
  ·rw[e] at hn;simp at hn
  ·rw[e] at d;simp at d;obtain⟨rfl,rfl⟩:=d;exact FH f
 | true =>
  obtain⟨_,_,n,ob,d,f,_⟩:=S.mblk b x j l m
  rw[e] at d;simp at d;obtain⟨rfl,_⟩:=d;exact FH f
theorem Step.new (S:SimH J β h w) {d:Nat} {x:Blk} {cs:Array Value} {ty:TypeId} {fr:Nat×Nat} (hn:Al h d=none) (V:x.dead=false) (C:x.sealed=false)
  (D:FrTy x.ty ty 0 cs.size fr) (M:x.cells.length≤cs.size) (X:CellsRep J β h w x (fun j=>cs[j]?)) (F:x.mp=false:=by rfl) :
  Step J β h w J (fun b=>if b=d then some (w.heap.size,0) else β b) (Fx h d x) (w.alloc (.cells cs ty fr)):=by
 have ne:∀ {b y},Al h b=some y→b≠d:=fun f e=>by subst e;rw[hn] at f;cases f
 have E:Ext J β h w J (fun b=>if b=d then some (w.heap.size,0) else β b) (Fx h d x) (w.alloc (.cells cs ty fr)):=by
  refine⟨fun _ _ m=>m,fun o k m=>Du w _ (S.jlt o k m),fun b y f=>⟨y,⟨by rw[Af,if_neg (ne f)];exact f,rfl⟩,?_⟩,fun b k o l=>?_⟩
  ·cases s:y.dead
   ·exact .inr ⟨rfl,by simp[ne f],rfl,fun _=>rfl⟩
   ·exact .inl rfl
  ·by_cases u:k<w.heap.size
   ·simp[Ba,Du w _ u]
   ·simp[Ba,Aff (Ags u)]
 have v:(w.alloc (.cells cs ty fr)).heap[w.heap.size]?=some (.cells cs ty fr):=by
  show(w.heap.push _)[_]?=_;simp
 have Y:(w.alloc (.cells cs ty fr)).heap.size=w.heap.size+1:=by show(w.heap.push _).size=_;simp
 refine⟨E,⟨fun o k m=>by have:=S.jlt o k m;omega,S.jft,S.gl.ext E,fun b y f s A=>?_,fun b y f s A=>by
   rw[Af] at f
   by_cases e:b=d
   ·rw[if_pos e] at f;simp at f;subst f;simp[F] at A
   ·rw[if_neg e] at f
    exact(S.mblk b y f s A).keep (by simp[e]) (fun k o l=>Du w _ (Wc S f s l)) (fun _ _ _ _ m=>m),?_⟩,rfl,rfl,rfl,by omega,fun k u _=>Du w _ u,?_,fun _ _ m=>.inl m⟩
 ·rw[Af] at f
  by_cases e:b=d
  ·subst e;simp at f;subst f
   exact .inr ⟨w.heap.size,0,cs,ty,fr,by simp,v,D,by omega,by simpa using X.ext E,fun _ g m=>by have:=S.jlt g _ m;omega,fun hs=>by simp[C] at hs⟩
  ·rw[if_neg e] at f
   rcases S.blk b y f s A with B | ⟨k,o,G,I,L,B,T,h3,h4,h5,h6⟩
   ·exact .inl ⟨by simp[e,B.1],B.2⟩
   ·exact .inr ⟨k,o,G,I,L,by simp[e,B],by rw[Du w _ (FH T)];exact T,h3,h4,h5.ext E,h6⟩
 ·intro b U y y' k o o' f n s z hs l q
  rw[Af] at f n
  by_cases e:b=d<;>by_cases t:U=d
  ·rw[e,t]
  ·rw[if_neg t] at n
   simp[e] at l;simp[t] at q
   have:=Wc S n z q;omega
  ·rw[if_neg e] at f
   simp[t] at q;simp[e] at l
   have:=Wc S f s l;omega
  ·rw[if_neg e] at f;rw[if_neg t] at n
   simp[e] at l;simp[t] at q
   exact S.sep b U y y' k o o' f n s z hs l q
 ·rintro k ⟨b,y,o,f,s,hs,l⟩ u
  rw[Af] at f
  by_cases e:b=d
  ·simp[e] at l;omega
  ·rw[if_neg e] at f;simp[e] at l
   exact⟨b,y,o,f,s,hs,l⟩
theorem Step.newNone (S:SimH J β h w) {d:Nat} {x:Blk} (hn:Al h d=none) (F:x.cells=[]) (u:x.mp=false:=by rfl) :
  Step J β h w J (fun b=>if b=d then none else β b) (Fx h d x) w:=by
 have ne:∀ {b y},Al h b=some y→b≠d:=fun f e=>by subst e;rw[hn] at f;cases f
 have E:Ext J β h w J (fun b=>if b=d then none else β b) (Fx h d x) w:=by
  refine⟨fun _ _ q=>q,fun o k q=>rfl,fun b y f=>⟨y,⟨by rw[Af,if_neg (ne f)];exact f,rfl⟩,?_⟩,fun b k o j=>Ad4 _⟩
  cases l:y.dead
  ·exact .inr ⟨rfl,by simp[ne f],rfl,fun _=>rfl⟩
  ·exact .inl rfl
 refine⟨E,⟨S.jlt,S.jft,S.gl.ext E,fun b y f l s=>?_,fun b y f l s=>by
   rw[Af] at f
   by_cases e:b=d
   ·rw[if_pos e] at f;simp at f;subst f;simp[u] at s
   ·rw[if_neg e] at f
    exact(S.mblk b y f l s).keep (by simp[e]) (fun k o j=>rfl) (fun _ _ _ _ q=>q),?_⟩,rfl,rfl,rfl,Ad4 _,fun k G _=>rfl,?_,fun _ _ q=>.inl q⟩
 ·rw[Af] at f
  by_cases e:b=d
  ·subst e;simp at f;subst f
   exact .inl ⟨by simp,F⟩
  ·rw[if_neg e] at f
   rcases S.blk b y f l s with t | ⟨k,o,v,z,A,t,I,L,M,T,U⟩
   ·exact .inl ⟨by simp[e,t.1],t.2⟩
   ·exact .inr ⟨k,o,v,z,A,by simp[e,t],I,L,M,T.ext E,U⟩
 ·intro b D y V k o o' f m l B hs j n
  rw[Af] at f m
  by_cases e:b=d
  ·simp[e] at j
  ·by_cases C:D=d
   ·simp[C] at n
   ·rw[if_neg e] at f;rw[if_neg C] at m
    simp[e] at j;simp[C] at n
    exact S.sep b D y V k o o' f m l B hs j n
 ·rintro k ⟨b,y,o,f,l,hs,j⟩ G
  rw[Af] at f
  by_cases e:b=d
  ·simp[e] at j
  ·rw[if_neg e] at f;simp[e] at j
   exact⟨b,y,o,f,l,hs,j⟩
theorem Step.newObj (S:SimH J β h w) {d:Nat} {x:Blk} {ob:Obj} (hn:Al h d=none) (U:x.dead=false) (B:x.sealed=false) (C:x.pure=true) (D:ObjIs x ob) (F:x.mp=true) :
  Step J β h w J (fun b=>if b=d then some (w.heap.size,0) else β b) (Fx h d x) (w.alloc ob):=by
 have ne:∀ {b y},Al h b=some y→b≠d:=fun f e=>by subst e;rw[hn] at f;cases f
 have E:Ext J β h w J (fun b=>if b=d then some (w.heap.size,0) else β b) (Fx h d x) (w.alloc ob):=by
  refine⟨fun _ _ l=>l,fun o k l=>Du w _ (S.jlt o k l),fun b y f=>⟨y,⟨by rw[Af,if_neg (ne f)];exact f,rfl⟩,?_⟩,fun b k o j=>?_⟩
  ·cases q:y.dead
   ·exact .inr ⟨rfl,by simp[ne f],rfl,fun _=>rfl⟩
   ·exact .inl rfl
  ·by_cases t:k<w.heap.size
   ·simp[Ba,Du w _ t]
   ·simp[Ba,Aff (Ags t)]
 have u:(w.alloc ob).heap[w.heap.size]?=some ob:=by
  show(w.heap.push _)[_]?=_;simp
 have V:(w.alloc ob).heap.size=w.heap.size+1:=by show(w.heap.push _).size=_;simp
 refine⟨E,⟨fun o k l=>by have:=S.jlt o k l;omega,S.jft,S.gl.ext E,fun b y f q z=>?_,fun b y f q z=>?_,?_⟩,rfl,rfl,rfl,by omega,fun k t _=>Du w _ t,?_,fun _ _ l=>.inl l⟩
 ·rw[Af] at f
  by_cases e:b=d
  ·rw[if_pos e] at f;simp at f;subst f;simp[F] at z
  ·rw[if_neg e] at f
   rcases S.blk b y f q z with A | ⟨k,o,G,I,L,A,M,X,Y,h5,h6⟩
   ·exact .inl ⟨by simp[e,A.1],A.2⟩
   ·exact .inr ⟨k,o,G,I,L,by simp[e,A],by rw[Du w _ (FH M)];exact M,X,Y,h5.ext E,h6⟩
 ·rw[Af] at f
  by_cases e:b=d
  ·rw[if_pos e] at f;simp at f;subst f
   exact⟨C,B,w.heap.size,ob,by simp[e],u,D,fun g l=>by have:=S.jlt g _ l;omega⟩
  ·rw[if_neg e] at f
   exact(S.mblk b y f q z).keep (by simp[e]) (fun k o j=>Du w _ (Wc S f q j)) (fun _ _ _ _ l=>l)
 ·intro b T y y' k o o' f m q v hs j n
  rw[Af] at f m
  by_cases e:b=d<;>by_cases s:T=d
  ·rw[e,s]
  ·rw[if_neg s] at m
   simp[e] at j;simp[s] at n
   have:=Wc S m v n;omega
  ·rw[if_neg e] at f
   simp[s] at n;simp[e] at j
   have:=Wc S f q j;omega
  ·rw[if_neg e] at f;rw[if_neg s] at m
   simp[e] at j;simp[s] at n
   exact S.sep b T y y' k o o' f m q v hs j n
 ·rintro k ⟨b,y,o,f,q,hs,j⟩ t
  rw[Af] at f
  by_cases e:b=d
  ·simp[e] at j;omega
  ·rw[if_neg e] at f;simp[e] at j
   exact⟨b,y,o,f,q,hs,j⟩
theorem Step.kill (S:SimH J β h w) {d:Nat} {x y:Blk} (hx:Al h d=some x) (m:y.dead=true) (t:y.mp=x.mp:=by rfl):Step J β h w J β (Fx h d y) w:=by
 have E:Ext J β h w J β (Fx h d y) w:=by
  refine⟨fun _ _ n=>n,fun o k n=>rfl,fun b z f=>?_,fun b k o q=>Ad4 _⟩
  by_cases e:b=d
  ·subst e;rw[hx] at f;simp at f;subst f;exact⟨y,⟨by rw[Af,if_pos rfl],t⟩,.inl m⟩
  ·refine⟨z,⟨by rw[Af,if_neg e];exact f,rfl⟩,?_⟩
   cases l:z.dead
   ·exact .inr ⟨rfl,rfl,rfl,fun _=>rfl⟩
   ·exact .inl rfl
 refine⟨E,⟨S.jlt,S.jft,S.gl.ext E,fun b z f l u=>?_,fun b z f l u=>by
   rw[Af] at f
   by_cases e:b=d
   ·rw[if_pos e] at f;simp at f;subst f;simp[m] at l
   ·rw[if_neg e] at f
    exact(S.mblk b z f l u).keep rfl (fun k o q=>rfl) (fun _ _ _ _ n=>n),?_⟩,rfl,rfl,rfl,Ad4 _,fun k I _=>rfl,?_,fun _ _ n=>.inl n⟩
 ·rw[Af] at f
  by_cases e:b=d
  ·rw[if_pos e] at f;simp at f;subst f;simp[m] at l
  ·rw[if_neg e] at f
   rcases S.blk b z f l u with v | ⟨k,o,A,B,C,v,L,M,T,U,V⟩
   ·exact .inl v
   ·exact .inr ⟨k,o,A,B,C,v,L,M,T,U.ext E,V⟩
 ·intro b F z X k o o' f j l s hs q D
  rw[Af] at f j
  by_cases e:b=d
  ·rw[if_pos e] at f;simp at f;subst f;simp[m] at l
  ·by_cases G:F=d
   ·rw[if_pos G] at j;simp at j;subst j;simp[m] at s
   ·rw[if_neg e] at f;rw[if_neg G] at j
    exact S.sep b F z X k o o' f j l s hs q D
 ·rintro k ⟨b,z,o,f,l,hs,q⟩ I
  rw[Af] at f
  by_cases e:b=d
  ·rw[if_pos e] at f;simp at f;subst f;simp[m] at l
  ·rw[if_neg e] at f
   exact⟨b,z,o,f,l,hs,q⟩
theorem Step.giveUp (S:SimH J β h w) {d k o:Nat} {x y:Blk} (hx:Al h d=some x) (C:x.dead=false) (hs:x.sealed=false) (D:β d=some (k,o)) (F:x.mp=false) (T:y.dead=true)
  (other:∀ j,j≠k→w'.heap[j]?=w.heap[j]?) (size:w'.heap.size=w.heap.size) (os:w'.os=w.os) (tape:w'.tape=w.tape) (output:w'.output=w.output) (G:Ba w k≤Ba w' k) (I:y.mp=x.mp:=by rfl) :
  Step J β h w J β (Fx h d y) w':=by
 have nj:∀ g j,J g j→j≠k:=fun g j n e=>by
  subst e
  rcases S.blk d x hx C F with⟨q,_⟩ | ⟨k',o',cs0,ty0,fr0,s,U,u,h4,h5,V,h7⟩
  ·rw[D] at q;simp at q
  ·rw[D] at s;simp at s;obtain⟨rfl,rfl⟩:=s
   exact V hs g n
 have E:Ext J β h w J β (Fx h d y) w':=by
  refine⟨fun _ _ n=>n,fun o j n=>other j (nj o j n),fun b z f=>?_,fun b j oo f=>?_⟩
  ·by_cases e:b=d
   ·subst e;rw[hx] at f;simp at f;subst f;exact⟨y,⟨by rw[Af,if_pos rfl],I⟩,.inl T⟩
   ·refine⟨z,⟨by rw[Af,if_neg e];exact f,rfl⟩,?_⟩
    cases C:z.dead
    ·exact .inr ⟨rfl,rfl,rfl,fun _=>rfl⟩
    ·exact .inl rfl
  ·by_cases e:j=k
   ·subst e;exact G
   ·simp[Ba,other j e]
 have live:∀ {b z},Al (Fx h d y) b=some z→z.dead=false→b≠d∧Al h b=some z:=fun {b z} f l=>by
  rw[Af] at f
  by_cases e:b=d
  ·rw[if_pos e] at f;simp at f;subst f;simp[T] at l
  ·rw[if_neg e] at f;exact⟨e,f⟩
 have apart:∀ {b z j oo},b≠d→Al h b=some z→z.dead=false→β b=some (j,oo)→j≠k:=fun {b z j oo} e f l m ej=>by
  subst ej;exact e (S.sep d b x z j o oo hx f C l hs D m).symm
 refine⟨E,⟨fun g j n=>by rw[size];exact S.jlt g j n,S.jft,S.gl.ext E,fun b z f l v=>?_,fun b z f l v=>by
   obtain⟨e,f⟩:=live f l
   exact(S.mblk b z f l v).keep rfl (fun j oo m=>other j (apart e f l m)) (fun _ _ _ _ n=>n),fun b X z Y j oo L f M l A t m B=>?_⟩,os,tape,output,by rw[size];exact Ad4 _,fun j n v=>other j (fun e=>by subst e;exact v ⟨d,x,o,hx,C,hs,D⟩),?_,fun _ _ n=>.inl n⟩
 ·obtain⟨e,f⟩:=live f l
  rcases S.blk b z f l v with q | ⟨j,oo,cs,ty,fr,q,U,u⟩
  ·exact .inl q
  ·exact .inr ⟨j,oo,cs,ty,fr,q,by rw[other j (apart e f l q)];exact U,u.1,u.2.1,u.2.2.1.ext E,u.2.2.2⟩
 ·exact S.sep b X z Y j oo L (live f l).2 (live M A).2 l A t m B
 ·rintro j ⟨b,z,oo,f,l,t,m⟩ _
  exact⟨b,z,oo,(live f l).2,l,t,m⟩
end
end Gx
namespace Gx
open Go
section
variable {J J' J'':Bool→Nat→Prop} {β β' β'':Ch} {h h' h'':Aw} {w w' w'':World}
theorem Step.shutB (S:SimH J β h w) {d:Nat} {x:Blk} (hx:Al h d=some x) (q:x.dead=false) (v:x.mp=false) :
  Step J β h w (fun o k=>J o k∨∃ o',β d=some (k,o')∧(x.taint=true→o=true)) β (Fx h d { x with sealed:=true }) w:=by
 have E:Ext J β h w (fun o k=>J o k∨∃ o',β d=some (k,o')∧(x.taint=true→o=true)) β (Fx h d { x with sealed:=true }) w:=by
  refine⟨fun _ _ l=>.inl l,fun o k l=>rfl,fun b z f=>?_,fun b k o j=>Ad4 _⟩
  by_cases e:b=d
  ·subst e;rw[hx] at f;simp at f;subst f
   exact⟨{ x with sealed:=true },⟨by rw[Af,if_pos rfl],rfl⟩,.inr ⟨q,rfl,rfl,fun _=>rfl⟩⟩
  ·refine⟨z,⟨by rw[Af,if_neg e];exact f,rfl⟩,?_⟩
   cases q:z.dead
   ·exact .inr ⟨rfl,rfl,rfl,fun _=>rfl⟩
   ·exact .inl rfl
 refine⟨E,⟨?_,?_,S.gl.ext E,fun b z f n D=>?_,fun b z f n D=>by
   rw[Af] at f
   by_cases e:b=d
   ·rw[if_pos e] at f;simp at f;subst f;simp[v] at D
   ·rw[if_neg e] at f
    have M:=S.mblk b z f n D
    refine M.keep rfl (fun k o j=>rfl) (fun g k o j l=>?_)
    rcases l with l | ⟨o',A,_⟩
    ·exact l
    ·exact absurd (S.sep b d z x k o o' f hx n q M.2.1 j A) e,?_⟩,rfl,rfl,rfl,Ad4 _,fun k hk _=>rfl,?_,?_⟩
 ·rintro o k (l | ⟨o',j,_⟩)
  ·exact S.jlt o k l
  ·exact Wc S hx q j
 ·rintro k (l | ⟨o',j,ht⟩)
  ·exact .inl (S.jft k l)
  ·exact .inr ⟨o',j,fun _=>rfl⟩
 ·rw[Af] at f
  by_cases e:b=d
  ·rw[if_pos e] at f;simp at f;subst f;subst e
   rcases S.blk b x hx q v with m | ⟨k,o,s,t,u,m,F,G,I,L,U,T⟩
   ·exact .inl m
   ·exact .inr ⟨k,o,s,t,u,m,F,G,I,L.ext E,fun hs=>by simp at hs,fun _=>.inr ⟨o,m,id⟩⟩
  ·rw[if_neg e] at f
   rcases S.blk b z f n D with m | ⟨k,o,s,t,u,m,F,G,I,L,U,T⟩
   ·exact .inl m
   ·refine .inr ⟨k,o,s,t,u,m,F,G,I,L.ext E,fun hs g l=>?_,fun hs=>.inl (T hs)⟩
    rcases l with l | ⟨o',j,_⟩
    ·exact U hs g l
    ·exact e (S.sep b d z x k o o' f hx n q hs m j)
 ·intro b b' z z' k o o' f V X Y hs j A
  have get:∀ {c y},Al (Fx h d { x with sealed:=true }) c=some y→y.dead=false→∃ y',Al h c=some y'∧y'.dead=false∧(y.sealed=false→y'.sealed=false):=by
   intro c y C hyd
   rw[Af] at C
   by_cases e:c=d
   ·subst e;exact⟨x,hx,q,fun hs=>by simp at C;subst C;simp at hs⟩
   ·rw[if_neg e] at C;exact⟨y,C,hyd,id⟩
  obtain⟨y1,g1,g2,g3⟩:=get f X
  obtain⟨y2,g4,g5,g6⟩:=get V Y
  exact S.sep b b' y1 y2 k o o' g1 g4 g2 g5 (g3 hs) j A
 ·rintro k ⟨b,z,o,f,n,hs,j⟩ hk
  rw[Af] at f
  by_cases e:b=d
  ·rw[if_pos e] at f;simp at f;subst f;simp at hs
  ·rw[if_neg e] at f
   exact⟨b,z,o,f,n,hs,j⟩
 ·rintro o k (l | ⟨o',j,ht⟩)
  ·exact .inl l
  ·cases hs:x.sealed with
   | false=>exact .inr (.inl ⟨d,x,o',hx,q,hs,j⟩)
   | true =>
    left
    rcases S.blk d x hx q v with⟨m,_⟩ | ⟨k',o1,s,t,u,m,F,G,I,L,U,T⟩
    ·rw[j] at m;simp at m
    ·rw[j] at m;simp at m;obtain⟨rfl,rfl⟩:=m
     have:=T hs
     cases B:x.taint with
     | true=>rw[B] at this;rw[ht B];exact this
     | false =>
      rw[B] at this
      cases o
      ·exact this
      ·exact S.jft _ this
structure OnlyBlk (w w':World) (k:Nat) (cs cs':Array Value) (ty:TypeId) (fr:Nat×Nat):Prop where
 old:w.heap[k]?=some (.cells cs ty fr)
 new:w'.heap[k]?=some (.cells cs' ty fr)
 sz:cs'.size=cs.size
 other:∀ j,j≠k→w'.heap[j]?=w.heap[j]?
 size:w'.heap.size=w.heap.size
 os:w'.os=w.os
 tape:w'.tape=w.tape
 output:w'.output=w.output
theorem OnlyBlk.setCell {k i:Nat} {cs:Array Value} {ty:TypeId} {fr:Nat×Nat} (d:w.heap[k]?=some (.cells cs ty fr)) (u:Value) :
  OnlyBlk w (w.setCell ⟨k,i,none⟩ u) k cs (cs.setIfInBounds i u) ty fr:=by
 refine⟨d,?_,by simp,fun j f=>?_,by simp[World.setCell],rfl,rfl,rfl⟩
 ·simp[World.setCell,Afw,d]
 ·simp only[World.setCell,Afw];rw[if_neg (fun e=>f e.symm)]
theorem OnlyBlk.setCells {k:Nat} {ty:TypeId} {fr:Nat×Nat}:∀ (us:List Value) (i:Nat) (w:World) (cs:Array Value),w.heap[k]?=some (.cells cs ty fr) →
  ∃ d,OnlyBlk w (w.setCells k i us) k cs d ty fr∧∀ j,d[j]?=if i≤j∧j<i+us.length∧j<cs.size then us[j - i]? else cs[j]?
 | [],i,w,cs,e=>⟨cs,⟨e,e,rfl,fun _ _=>rfl,rfl,rfl,rfl,rfl⟩,fun j=>by rw[if_neg (by simp;omega)]⟩
 | u::us,i,w,cs,e=>by
  have A:=OnlyBlk.setCell (i:=i) e u
  obtain⟨d,B,hB⟩:=OnlyBlk.setCells us (i+1) (w.setCell ⟨k,i,none⟩ u) _ A.new
  refine⟨d,⟨e,B.new,B.sz.trans A.sz,fun j f=>(B.other j f).trans (A.other j f),B.size.trans A.size,B.os.trans A.os,B.tape.trans A.tape,B.output.trans A.output⟩,fun j=>?_⟩
  rw[hB j]
  simp only[Ahg,Adx]
  by_cases f:j=i
  ·subst f
   rw[if_neg (by omega)]
   by_cases hs:j<cs.size
   ·rw[if_pos (by omega)];simp[hs]
   ·rw[if_neg (by omega)];simp[hs]
  ·by_cases l:i+1≤j∧j<i+1+us.length∧j<cs.size
   ·rw[if_pos l,if_pos (by omega),show j - i=(j - (i+1))+1 by omega];simp
   ·rw[if_neg l,if_neg (by omega),Agy (by omega)]
theorem Step.set (S:SimH J β h w) {d k o:Nat} {x x':Blk} {cs s:Array Value} {ty:TypeId} {fr:Nat×Nat} (hx:Al h d=some x) (n:x.dead=false) (hs:x.sealed=false) (v:β d=some (k,o))
  (O:OnlyBlk w w' k cs s ty fr) (hd':x'.dead=false) (L:x'.sealed=false) (hz:x'.sz=x.sz) (hl:x'.cells.length=x.cells.length) (C:CellsRep J β h w x' (fun j=>s[o+j]?)) (D:x.mp=false) (q:x'.mp=x.mp:=by rfl) (hty:x'.ty=x.ty:=by rfl) :
  Step J β h w J β (Fx h d x') w':=by
 obtain⟨F,o',cs0,ty0,fr0,t,M,h3,h4,h5,h6,h7⟩:∃ F o' cs0 ty0 fr0,β d=some (F,o')∧w.heap[F]?=some (.cells cs0 ty0 fr0) ∧
   FrTy x.ty ty0 o' cs0.size fr0∧o'+x.cells.length≤cs0.size∧CellsRep J β h w x (fun j=>cs0[o'+j]?)∧(x.sealed=false→∀ g,¬ J g F)∧(x.sealed=true→J x.taint F):=by
  rcases S.blk d x hx n D with⟨I,_⟩ | I
  ·rw[v] at I;simp at I
  ·exact I
 rw[v] at t;simp at t;obtain⟨rfl,rfl⟩:=t
 rw[O.old] at M;simp at M;obtain⟨rfl,rfl,rfl⟩:=M
 have nj:∀ g j,J g j→j≠k:=fun g j m e=>by subst e;exact h6 hs g m
 have E:Ext J β h w J β (Fx h d x') w':=by
  refine⟨fun _ _ m=>m,fun o j m=>O.other j (nj o j m),fun b z f=>?_,fun b j oo f=>?_⟩
  ·by_cases e:b=d
   ·subst e;rw[hx] at f;simp at f;subst f
    exact⟨_,⟨by rw[Af,if_pos rfl],q⟩,.inr ⟨n,rfl,hz,fun _=>hl⟩⟩
   ·refine⟨z,⟨by rw[Af,if_neg e];exact f,rfl⟩,?_⟩
    cases n:z.dead
    ·exact .inr ⟨rfl,rfl,rfl,fun _=>rfl⟩
    ·exact .inl rfl
  ·by_cases e:j=k
   ·subst e;rw[Fg O.old,Fg O.new,O.sz];exact Ad4 _
   ·simp[Ba,O.other j e]
 refine⟨E,⟨fun g j m=>by rw[O.size];exact S.jlt g j m,S.jft,S.gl.ext E,fun b z f l A=>?_,fun b z f l A=>by
   rw[Af] at f
   by_cases e:b=d
   ·rw[if_pos e] at f;simp at f;subst f;simp[q,D] at A
   ·rw[if_neg e] at f
    exact(S.mblk b z f l A).keep rfl (fun k2 o2 u=>O.other k2 (fun T=>by subst T;exact e (S.sep d b x z k2 o o2 hx f n l hs v u).symm)) (fun _ _ _ _ m=>m),?_⟩,O.os,O.tape,O.output,by rw[O.size];exact Ad4 _,fun j m A=>?_,?_,fun _ _ m=>.inl m⟩
 ·rw[Af] at f
  by_cases e:b=d
  ·rw[if_pos e] at f;simp at f;subst f;subst e
   refine .inr ⟨k,o,s,ty,fr,v,O.new,?_,by rw[hl,O.sz];exact h4,C.ext E,fun _=>h6 hs,fun hh=>by simp[L] at hh⟩
   rw[O.sz,hty];exact h3
  ·rw[if_neg e] at f
   rcases S.blk b z f l A with B | ⟨k2,o2,cs2,ty2,fr2,B,U,V,X,Y,g6,g7⟩
   ·exact .inl B
   ·have hne:k2≠k:=fun T=>by
     subst T;exact e (S.sep d b x z k2 o o2 hx f n l hs v B).symm
    exact .inr ⟨k2,o2,cs2,ty2,fr2,B,by rw[O.other k2 hne];exact U,V,X,Y.ext E,g6,g7⟩
 ·intro b b' z z' kk oo oo' f hb' hd1 hd2 hs1 hβ1 u
  have get:∀ {c y},Al (Fx h d x') c=some y→y.dead=false→∃ y',Al h c=some y'∧y'.dead=false∧(y.sealed=false→y'.sealed=false):=by
   intro c y C hyd
   rw[Af] at C
   by_cases e:c=d
   ·subst e;exact⟨x,hx,n,fun _=>hs⟩
   ·rw[if_neg e] at C;exact⟨y,C,hyd,id⟩
  obtain⟨y1,B,U,V⟩:=get f hd1
  obtain⟨y2,X,Y,g6⟩:=get hb' hd2
  exact S.sep b b' y1 y2 kk oo oo' B X U Y (V hs1) hβ1 u
 ·exact O.other j (fun e=>A (by subst e;exact⟨d,x,o,hx,n,hs,v⟩))
 ·rintro j ⟨b,z,oo,f,l,hsz,G⟩ m
  rw[Af] at f
  by_cases e:b=d
  ·subst e;exact⟨b,x,oo,hx,n,hs,G⟩
  ·rw[if_neg e] at f
   exact⟨b,z,oo,f,l,hsz,G⟩
theorem Step.setObj (S:SimH J β h w) {d k:Nat} {x x':Blk} {ob A:Obj} (hx:Al h d=some x) (B:x.dead=false) (G:x.mp=true) (D:β d=some (k,0))
  (old:w.heap[k]?=some ob) (new:w'.heap[k]?=some A) (other:∀ j,j≠k→w'.heap[j]?=w.heap[j]?) (size:w'.heap.size=w.heap.size) (os:w'.os=w.os) (tape:w'.tape=w.tape) (output:w'.output=w.output)
  (I:ObjIs x' A) (hx'd:x'.dead=false) (L:x'.sealed=false) (T:x'.pure=true) (U:x'.sz=x.sz) (v:x'.mp=true):Step J β h w J β (Fx h d x') w':=by
 have M:=S.mblk d x hx B G
 have nJ:∀ g,¬ J g k:=by
  obtain⟨_,_,k',_,q,_,_,t⟩:=M
  rw[D] at q;simp at q;subst q;exact t
 have nj:∀ g j,J g j→j≠k:=fun g j l e=>by subst e;exact nJ g l
 have E:Ext J β h w J β (Fx h d x') w':=by
  refine⟨fun _ _ l=>l,fun o j l=>other j (nj o j l),fun b z f=>?_,fun b j oo f=>?_⟩
  ·by_cases e:b=d
   ·subst e;rw[hx] at f;simp at f;subst f
    exact⟨_,⟨by rw[Af,if_pos rfl],by rw[v,G]⟩,.inr ⟨B,rfl,U,fun h=>by simp[G] at h⟩⟩
   ·refine⟨z,⟨by rw[Af,if_neg e];exact f,rfl⟩,?_⟩
    cases B:z.dead
    ·exact .inr ⟨rfl,rfl,rfl,fun _=>rfl⟩
    ·exact .inl rfl
  ·by_cases e:j=k
   ·subst e
    have r0:∀ cs ty fr,ob≠.cells cs ty fr:=by
     obtain⟨_,_,k',ob0,q,t,Y,_⟩:=M
     rw[D] at q;simp at q;subst q
     rw[old] at t;simp at t;subst t
     exact fun _ _ _=>Y.row
    have z0:Ba w j=0:=by
     unfold Ba;rw[old]
     split
     ·rename_i e;simp at e;exact absurd e (r0 _ _ _)
     ·rfl
    rw[z0];exact Agw _
   ·simp[Ba,other j e]
 refine⟨E,⟨fun g j l=>by rw[size];exact S.jlt g j l,S.jft,S.gl.ext E,fun b z f n u=>?_,fun b z f n u=>?_,?_⟩,os,tape,output,by rw[size];exact Ad4 _,fun j l G=>?_,?_,fun _ _ l=>.inl l⟩
 ·rw[Af] at f
  by_cases e:b=d
  ·rw[if_pos e] at f;simp at f;subst f;simp[v] at u
  ·rw[if_neg e] at f
   rcases S.blk b z f n u with V | ⟨k2,o2,cs2,ty2,fr2,V,F,g3,g4,g5,g6,g7⟩
   ·exact .inl V
   ·have hne:k2≠k:=fun e2=>by
     subst e2;rw[old] at F;simp at F
     obtain⟨_,_,k',ob0,q,t,Y,_⟩:=M
     rw[D] at q;simp at q;subst q
     rw[old] at t;simp at t;subst t
     exact absurd F Y.row
    exact .inr ⟨k2,o2,cs2,ty2,fr2,V,by rw[other k2 hne];exact F,g3,g4,g5.ext E,g6,g7⟩
 ·rw[Af] at f
  by_cases e:b=d
  ·rw[if_pos e] at f;simp at f;subst f;subst e
   exact⟨T,L,k,A,D,new,I,nJ⟩
  ·rw[if_neg e] at f
   exact(S.mblk b z f n u).keep rfl (fun k2 o2 C=>other k2 (fun e2=>by subst e2;exact e (S.sep d b x z k2 0 o2 hx f B n M.2.1 D C).symm)) (fun _ _ _ _ l=>l)
 ·intro b b' z z' kk oo oo' f hb' hd1 hd2 hs1 hβ1 C
  have get:∀ {c y},Al (Fx h d x') c=some y→y.dead=false→∃ y',Al h c=some y'∧y'.dead=false∧(y.sealed=false→y'.sealed=false):=by
   intro c y I hyd
   rw[Af] at I
   by_cases e:c=d
   ·subst e;exact⟨x,hx,B,fun _=>M.2.1⟩
   ·rw[if_neg e] at I;exact⟨y,I,hyd,id⟩
  obtain⟨y1,V,F,g3⟩:=get f hd1
  obtain⟨y2,g4,g5,g6⟩:=get hb' hd2
  exact S.sep b b' y1 y2 kk oo oo' V g4 F g5 (g3 hs1) hβ1 C
 ·exact other j (fun e=>G (by subst e;exact⟨d,x,0,hx,B,M.2.1,D⟩))
 ·rintro j ⟨b,z,oo,f,n,hsz,X⟩ l
  rw[Af] at f
  by_cases e:b=d
  ·subst e;exact⟨b,x,oo,hx,B,M.2.1,X⟩
  ·rw[if_neg e] at f
   exact⟨b,z,oo,f,n,hsz,X⟩
theorem Step.mark (S:SimH J β h w) {d k o:Nat} {x:Blk} {cs:Array Value} {ty:TypeId} {fr q:Nat×Nat} (hx:Al h d=some x) (u:x.dead=false) (hs:x.sealed=false) (v:β d=some (k,o))
  (old:w.heap[k]?=some (.cells cs ty fr)) (new:w'.heap[k]?=some (.cells cs ty q)) (M:FrOk cs.size q) (other:∀ j,j≠k→w'.heap[j]?=w.heap[j]?) (size:w'.heap.size=w.heap.size) (os:w'.os=w.os) (tape:w'.tape=w.tape) (output:w'.output=w.output) (t:x.mp=false) :
  Step J β h w J β h w':=by
 have nj:∀ g j,J g j→j≠k:=fun g j f e=>by
  subst e
  rcases S.blk d x hx u t with⟨C,_⟩ | ⟨V,o',cs0,ty0,fr0,s,X,Y,h4,h5,T,h7⟩
  ·rw[v] at C;simp at C
  ·rw[v] at s;simp at s;obtain⟨rfl,rfl⟩:=s
   exact T hs g f
 have E:Ext J β h w J β h w':=by
  refine⟨fun _ _ f=>f,fun o j f=>other j (nj o j f),fun b z l=>⟨z,⟨l,rfl⟩,?_⟩,fun b j oo l=>?_⟩
  ·cases u:z.dead
   ·exact .inr ⟨rfl,rfl,rfl,fun _=>rfl⟩
   ·exact .inl rfl
  ·by_cases e:j=k
   ·subst e;rw[Fg old,Fg new];exact Ad4 _
   ·simp[Ba,other j e]
 refine⟨E,⟨fun g j f=>by rw[size];exact S.jlt g j f,S.jft,S.gl.ext E,fun b z l m n=>?_,fun b z l m n=>by
   refine(S.mblk b z l m n).keep rfl (fun k2 o2 B=>other k2 (fun U=>?_)) (fun _ _ _ _ f=>f)
   subst U
   have:=(S.sep d b x z k2 o o2 hx l u m hs v B)
   subst this
   rw[hx] at l;simp at l;subst l;simp[t] at n,S.sep⟩,os,tape,output,by rw[size];exact Ad4 _,fun j f n=>?_,fun _ n _=>n,fun _ _ f=>.inl f⟩
 ·rcases S.blk b z l m n with y | ⟨k2,o2,cs2,ty2,fr2,y,A,D,F,G,I,L⟩
  ·exact .inl y
  ·by_cases e:k2=k
   ·subst e
    rw[old] at A;simp at A;obtain⟨rfl,rfl,rfl⟩:=A
    exact .inr ⟨k2,o2,cs,ty,q,y,new,⟨M,D.2⟩,F,G.ext E,I,L⟩
   ·exact .inr ⟨k2,o2,cs2,ty2,fr2,y,by rw[other k2 e];exact A,D,F,G.ext E,I,L⟩
 ·exact other j (fun e=>n (by subst e;exact⟨d,x,o,hx,u,hs,v⟩))
theorem Step.move (S:SimH J β h w) {d n k o o':Nat} {x x' y:Blk} {cs C:Array Value} {ty:TypeId} {fr:Nat×Nat} (hx:Al h d=some x) (v:x.dead=false) (hs:x.sealed=false) (A:β d=some (k,o))
  (hn:Al h n=none) (hy:y.dead=true)
  (O:OnlyBlk w w' k cs C ty fr) (hd':x'.dead=false) (hs':x'.sealed=false) (hl:o'+x'.cells.length≤cs.size) (hc:CellsRep J β h w x' (fun j=>C[o'+j]?)) (hxm:x.mp=false) (hym:y.mp=x.mp:=by rfl) (L:x'.mp=false:=by rfl) (hty:TyOk x'.ty ty o' cs.size:=by exact TyOk.none) :
  Step J β h w J (fun b=>if b=n then some (k,o') else β b) (Fx (Fx h d y) n x') w':=by
 obtain⟨M,o1,cs0,ty0,fr0,D,h2,h3,h4,h5,h6,h7⟩:∃ M o' cs0 ty0 fr0,β d=some (M,o')∧w.heap[M]?=some (.cells cs0 ty0 fr0) ∧
   FrTy x.ty ty0 o' cs0.size fr0∧o'+x.cells.length≤cs0.size∧CellsRep J β h w x (fun j=>cs0[o'+j]?)∧(x.sealed=false→∀ g,¬ J g M)∧(x.sealed=true→J x.taint M):=by
  rcases S.blk d x hx v hxm with⟨Y,_⟩ | Y
  ·rw[A] at Y;simp at Y
  ·exact Y
 rw[A] at D;simp at D;obtain⟨rfl,rfl⟩:=D
 rw[O.old] at h2;simp at h2;obtain⟨rfl,rfl,rfl⟩:=h2
 have nj:∀ g j,J g j→j≠k:=fun g j q e=>by subst e;exact h6 hs g q
 have ndd:d≠n:=fun e=>by subst e;rw[hn] at hx;cases hx
 have ne:∀ {b z},Al h b=some z→b≠n:=fun f e=>by subst e;rw[hn] at f;cases f
 have get:∀ b,Al (Fx (Fx h d y) n x') b=if b=n then some x' else if b=d then some y else Al h b:=fun b=>by rw[Af,Af]
 have E:Ext J β h w J (fun b=>if b=n then some (k,o') else β b) (Fx (Fx h d y) n x') w':=by
  refine⟨fun _ _ q=>q,fun o j q=>O.other j (nj o j q),fun b z f=>?_,fun b j oo f=>?_⟩
  ·by_cases e:b=d
   ·have hb0:=f;subst e;rw[hx] at f;simp at f;subst f;exact⟨y,⟨by rw[get,if_neg (ne hb0),if_pos rfl],hym⟩,.inl hy⟩
   ·refine⟨z,⟨by rw[get,if_neg (ne f),if_neg e];exact f,rfl⟩,?_⟩
    cases v:z.dead
    ·exact .inr ⟨rfl,by simp[ne f],rfl,fun _=>rfl⟩
    ·exact .inl rfl
  ·by_cases e:j=k
   ·subst e;rw[Fg O.old,Fg O.new,O.sz];exact Ad4 _
   ·simp[Ba,O.other j e]
 have live:∀ {b z},Al (Fx (Fx h d y) n x') b=some z→z.dead=false→(b=n∧z=x')∨(b≠n∧b≠d∧Al h b=some z):=by
  intro b z f hz
  rw[get] at f
  by_cases e:b=n
  ·rw[if_pos e] at f;simp at f;exact .inl ⟨e,f.symm⟩
  ·rw[if_neg e] at f
   by_cases t:b=d
   ·rw[if_pos t] at f;simp at f;subst f;simp[hy] at hz
   ·rw[if_neg t] at f;exact .inr ⟨e,t,f⟩
 refine⟨E,⟨fun g j q=>by rw[O.size];exact S.jlt g j q,S.jft,S.gl.ext E,fun b z f l I=>?_,fun b z f l I=>by
   rcases live f l with⟨rfl,rfl⟩ | ⟨e1,t,f⟩
   ·simp[L] at I
   ·exact(S.mblk b z f l I).keep (by simp[e1]) (fun k2 o2 m=>O.other k2 (fun e=>by subst e;exact t (S.sep d b x z k2 o o2 hx f v l hs A m).symm)) (fun _ _ _ _ q=>q),?_⟩,O.os,O.tape,O.output,by rw[O.size];exact Ad4 _,fun j q I=>?_,?_,fun _ _ q=>.inl q⟩
 ·rcases live f l with⟨rfl,rfl⟩ | ⟨e1,t,f⟩
  ·refine .inr ⟨k,o',C,ty,fr,by simp,O.new,?_,by rw[O.sz];exact hl,hc.ext E,fun _=>h6 hs,fun hh=>by simp[hs'] at hh⟩
   rw[O.sz];exact⟨h3.1,hty⟩
  ·rcases S.blk b z f l I with T | ⟨k2,o2,cs2,ty2,fr2,T,g2,g3,g4,g5,g6,g7⟩
   ·exact .inl ⟨by simp[e1,T.1],T.2⟩
   ·have hne:k2≠k:=fun e=>by
     subst e;exact t (S.sep d b x z k2 o o2 hx f v l hs A T).symm
    exact .inr ⟨k2,o2,cs2,ty2,fr2,by simp[e1,T],by rw[O.other k2 hne];exact g2,g3,g4,g5.ext E,g6,g7⟩
 ·intro b b' z z' kk oo U f hb' F G hs1 s m
  rcases live f F with⟨e0,_⟩ | ⟨e1,t,V⟩<;>rcases live hb' G with⟨X,_⟩ | ⟨e3,e4,B⟩
  ·rw[e0,X]
  ·simp[e0] at s;simp[e3] at m
   obtain⟨rfl,rfl⟩:=s
   exact absurd (S.sep d b' x z' k o U hx B v G hs A m).symm e4
  ·simp[X] at m;simp[e1] at s
   obtain⟨rfl,rfl⟩:=m
   exact absurd (S.sep d b x z k o oo hx V v F hs A s).symm t
  ·simp[e1] at s;simp[e3] at m
   exact S.sep b b' z z' kk oo U V B F G hs1 s m
 ·exact O.other j (fun e=>I (by subst e;exact⟨d,x,o,hx,v,hs,A⟩))
 ·rintro j ⟨b,z,oo,f,l,hsz,u⟩ q
  rcases live f l with⟨rfl,rfl⟩ | ⟨e1,t,f⟩
  ·simp at u;obtain⟨rfl,rfl⟩:=u
   exact⟨d,x,o,hx,v,hs,A⟩
  ·simp[e1] at u;exact⟨b,z,oo,f,l,hsz,u⟩
end
end Gx
namespace Gx
open Go
theorem Cn:∀ (a b:Eh) (h:Aw),Ak (a++b) h=Ak b (Ak a h)
 | [],_,_=>rfl
 | (_,some _)::r,b,h=>by simp only[Aeb,Ak];exact Cn r b _
 | (_,none)::r,b,h=>by simp only[Aeb,Ak];exact Cn r b _
def LooksS (g:Bg) (h:Aw):Prop:=∀ b x,g b=some x→∃ y,Al h b=some y∧{ y with sealed:=true }={ x with sealed:=true }
theorem Looks.s {g:Bg} {h:Aw} (d:Looks g h):LooksS g h:=fun b x e=>⟨x,d b x e,rfl⟩
section
variable {R:Type} {r:R} {P:Program} {J J':Bool→Nat→Prop} {β:Ch} {h:Aw} {w:World} {g:Bg}
theorem LooksS.shutB (f:LooksS g h) {b:Nat} {x:Blk} (j:g b=some x):LooksS g (Fx h b { x with sealed:=true }):=by
 intro c y d
 rw[Af]
 by_cases e:c=b
 ·subst e;rw[j] at d;simp at d;subst d
  exact⟨{ x with sealed:=true },by simp,rfl⟩
 ·rw[if_neg e];exact f c y d
theorem sX (S:SimH J β h w) {b off n:Nat} {y:Blk} {v:Value} (C:Al h b=some y) (D:y.dead=false) (F:y.pure=true) (hr:Rep J β h w (.own b off n) v)
  (hJ:∀ k o,β b=some (k,o)→J' y.taint k) (l:∀ o k,J o k→J' o k) (t o:Bool):RepC (J' y.taint) w (.imm ((y.cells.drop off).take (n*y.sz)) n y.sz t o) v↔(t=true→∃ A cap,v=.slice A n cap∧cap=n):=by
 rw[Rep] at hr
 obtain⟨x,A,cap,⟨e,q⟩,rfl,d,hr⟩:=hr
 rw[C] at e;simp at e;subst e
 rw[RepC]
 constructor
 ·rintro⟨_,A',cap',s,_,u,_⟩ z
  exact⟨A',cap',s,u z⟩
 ·intro u
  have m:t=true→cap=n:=fun z=>by
   obtain⟨A',cap',s,M⟩:=u z
   simp at s;omega
  rcases hr with hr | ⟨kk,oo,rfl,hr⟩
  ·have:n=0:=by omega
   subst this
   exact⟨by simp,A,cap,rfl,d,m,.inl rfl⟩
  ·rcases hr with hr | ⟨B,T,U⟩
   ·simp[D] at hr
   ·rcases S.blk b y C D q with⟨hn,_⟩ | ⟨V,o',cs,ty,fr,f,G,X,Y,I,g5,g6⟩
    ·rw[B] at hn;simp at hn
    ·rw[B] at f;simp at f;obtain⟨rfl,rfl⟩:=f
     refine⟨by simp;omega,_,cap,rfl,d,m,.inr ⟨_,rfl,hJ _ _ B,?_⟩⟩
     have:=((I.1 F).drop off).take (n*y.sz)
     refine RepCs.keep (fun k L=>l _ k L) (fun _ _=>rfl) (fun j=>?_) this
     rw[Addr.add_mid,Pm G,Afl]
theorem uy {b off n:Nat} {y:Blk} {v:Value} (f:Al h b=some y) (hr:Rep J β h w (.own b off n) v):y.mp=false:=by
 rw[Rep] at hr
 obtain⟨x,A,cap,⟨d,e⟩,_⟩:=hr
 rw[f] at d;simp at d;subst d;exact e
theorem wd {b off:Nat} {y:Blk} {v:Value} (f:Al h b=some y) (hr:Rep J β h w (.optr b off) v):y.mp=false:=by
 rw[Rep] at hr
 obtain⟨x,k,o,⟨d,e⟩,_⟩:=hr
 rw[f] at d;simp at d;subst d;exact e
theorem JW {v v':AV} {ups:Eh} {org:Bool} {vc:Value} (S:SimH J β h w) (l:LooksS g h) (e:OU g v=some (v',ups,org)) (f:Rep J β h w v vc) :
    ∃ J',Step J β h w J' β (Ak ups h) w∧RepC (J' org) w v' vc∧LooksS g (Ak ups h):=by
  unfold OU at e
  split at e
  · rename_i b off n
    obtain⟨x,hx,t⟩:=ub e
    obtain⟨u,q⟩:=uc t
    simp at q
    obtain⟨rfl,rfl,rfl⟩:=q
    unfold Gm at hx
    obtain⟨x0,j,hx⟩:=ub hx
    obtain⟨s,hx⟩:=qY hx
    simp at hx;subst hx
    obtain⟨y,m,d⟩:=l b _ j
    have e1:y.cells=x0.cells:=by have:=congrArg Blk.cells d;simpa using this
    have z:y.sz=x0.sz:=by have:=congrArg Blk.sz d;simpa using this
    have e3:y.taint=x0.taint:=by have:=congrArg Blk.taint d;simpa using this
    have e4:y.dead=x0.dead:=by have:=congrArg Blk.dead d;simpa using this
    have B:y.pure=x0.pure:=by have:=congrArg Blk.pure d;simpa using this
    have A:=Step.shutB S m (by rw[e4];exact s) (uy m f)
    refine⟨_,by simp only[Ak];rw[←d];exact A,?_,by simp only[Ak];exact l.shutB j⟩
    have:=(sX (J':=fun o k=>J o k∨∃ o',β b=some (k,o')∧(y.taint=true→o=true)) S m (by rw[e4];exact s) (by rw[B];exact u) f (fun k o C=>.inr ⟨o,C,id⟩) (fun o k D=>.inl D) false x0.taint).2 (by simp)
    rw[e1,z,e3] at this
    rw[e3]
    exact this
  all_goals first
    | (simp at e;done)
    | (simp at e; obtain ⟨rfl, rfl, rfl⟩ := e
       refine⟨J,Step.refl S,?_,l⟩
       first
         | (rw[Rep] at f;exact f)
         | skip)
  · cases v
    case imm=>rename_i hi _ _;exact absurd rfl (hi _ _ _ _ _)
    case iptr=>rename_i hi _;exact absurd rfl (hi _ _)
    case pagg=>rename_i hi;exact absurd rfl (hi _ _)
    all_goals first | (rw[Rep] at f;rw[RepC];exact f) | simp_all
theorem Rk:∀ {c e:LA} {ups:Eh} {org:Bool} {cs:List Value} {J:Bool→Nat→Prop} {h:Aw},SimH J β h w→LooksS g h→Ys g c=some (e,ups,org)→Reps J β h w c cs →
  ∃ J',Step J β h w J' β (Ak ups h) w∧RepCs (J' org) w e (fun j=>cs[j]?) 0∧e.length=cs.length∧LooksS g (Ak ups h)
 | [],e,ups,org,cs,J,h,S,n,f,l=>by
  simp[Ys] at f;obtain⟨rfl,rfl,rfl⟩:=f
  rw[Reps] at l;subst l
  exact⟨J,Step.refl S,by simp[RepCs],rfl,n⟩
 | v::r,e,ups,org,cs,J,h,S,n,f,l=>by
  rw[Ys] at f
  obtain⟨⟨v1,u1,o1⟩,D,F⟩:=ub f
  obtain⟨⟨I,u2,o2⟩,hq,z⟩:=ub F
  simp at z
  obtain⟨rfl,rfl,rfl⟩:=z
  rw[Reps] at l
  obtain⟨u,us,rfl,q,s⟩:=l
  obtain⟨J1,A,hA,t⟩:=JW S n D q
  obtain⟨J2,B,hB,m,y⟩:=Rk A.sim t hq (Reps.ext A.ext s)
  refine⟨J2,by rw[Cn];exact A.trans B (fun _ _ _ _=>Ad4 _),?_,by simp[m],by rw[Cn];exact y⟩
  have mono:∀ {a b:Bool} (k:Nat),J2 a k→J2 (a||b) k:=fun {a b} k d=>by
   cases a
   ·cases b
    ·exact d
    ·exact B.sim.jft k d
   ·exact d
  have mono':∀ {a b:Bool} (k:Nat),J2 b k→J2 (a||b) k:=fun {a b} k d=>by rw[Ahj];exact mono k d
  rw[RepCs]
  refine⟨⟨u,by simp,?_⟩,?_⟩
  ·exact RepC.keep (J:=J1 o1) (fun k d=>mono k (B.ext.jsub _ k d)) (fun _ _=>rfl) hA
  ·have:=RepCs.keep (J':=J2 (o1||o2)) (w':=w) (fun k d=>mono' k d) (fun _ _=>rfl) (rd':=fun j=>us[j]?) (fun _=>rfl) hB
   rw[By] at this ⊢
   intro j x G
   have C:=this j x G
   simp only[Aec] at C
   rw[show 1+j=j+1 by omega]
   simpa using C
theorem H_ {v:AV} {f:LA} {ups:Eh} {org:Bool} {vc:Value} (S:SimH J β h w) (m:LooksS g h) (e:Yk g v=some (f,ups,org)) (k:Rep J β h w v vc) :
  ∃ J',Step J β h w J' β (Ak ups h) w∧RepCs (J' org) w f (fun j=>vc.cells.toList[j]?) 0∧f.length=vc.cells.toList.length∧LooksS g (Ak ups h):=by
 unfold Yk at e
 split at e
 ·rename_i c org'
  simp at e;obtain⟨rfl,rfl,rfl⟩:=e
  rw[Rep] at k
  obtain⟨cs,rfl,s,l⟩:=k
  exact⟨J,Step.refl S,l,by simp[Value.cells,s],m⟩
 ·rename_i c
  rw[Rep] at k
  obtain⟨cs,rfl,l⟩:=k
  exact Rk S m e l
 ·rename_i v s l
  obtain⟨J',A,hA,d,n⟩:=Rk (cs:=[vc]) S m e (by rw[Reps];exact⟨vc,[],rfl,k,by rw[Reps]⟩)
  have B:vc.oneCell'=true:=by
   have q:f.length=1:=d
   cases t:f with
   | nil=>simp[t] at q
   | cons x r =>
    obtain⟨u,y,hr⟩:=hA.at (j:=0) (x:=x) (by simp[t])
    simp at y;subst y
    exact SG hr
  have z:vc.cells=#[vc]:=by cases vc<;>simp_all[Value.cells,Value.oneCell']
  rw[z]
  exact⟨J',A,hA,d,n⟩
end
end Gx
namespace Gx
open Go
theorem Co:∀ (ups:Eh) (h:Aw) (b:Nat),A9 ups b=false→Al (Ak ups h) b=Al h b
 | [],_,_,_=>rfl
 | (i,some x)::r,h,b,hi=>by
  rw[A9] at hi
  cases d:beq i b with
  | true=>rw[d] at hi;simp at hi
  | false =>
   rw[d] at hi
   rw[Ak,Co r _ b hi,Af,if_neg (fun e=>Wq d e.symm)]
 | (i,none)::r,h,b,hi=>by
  rw[A9] at hi
  cases d:beq i b with
  | true=>rw[d] at hi;simp at hi
  | false =>
   rw[d] at hi
   rw[Ak,Co r _ b hi]
   split
   ·rw[Af,if_neg (fun e=>Wq d e.symm)]
   ·rfl
theorem Yy {c vs:LA} {off:Nat} (f:off+vs.length≤c.length) (j:Nat):(Gt c off vs)[j]?=if off≤j∧j<off+vs.length then vs[j - off]? else c[j]?:=by
 unfold Gt
 rw[Aea,Aev]
 simp only[Afc,Ae9 (show off≤c.length by omega)]
 by_cases d:j<off
 ·rw[if_pos d,if_neg (by omega),Afg,if_pos d]
 ·rw[if_neg d,Aev]
  by_cases e:j - off<vs.length
  ·rw[if_pos e,if_pos (by omega)]
  ·rw[if_neg e,if_neg (by omega),Ae8];congr 1;omega
theorem Pn {c vs:LA} {off:Nat} (d:off+vs.length≤c.length):(Gt c off vs).length=c.length:=by
 unfold Gt;simp;omega
theorem FJ {c vs:LA} {off:Nat} (d:off+vs.length≤c.length) (j:Nat):(setCells c off vs)[j]?=if off≤j∧j<off+vs.length then vs[j - off]? else c[j]?:=by
 unfold setCells
 split
 ·rename_i y
  simp at d
  rw[List.getElem?_set]
  by_cases e:off=j
  ·subst e;simp;omega
  ·rw[if_neg e,if_neg (by simp;omega)]
 ·exact Yy d j
theorem P8 {c vs:LA} {off:Nat} (d:off+vs.length≤c.length):(setCells c off vs).length=c.length:=by
 unfold setCells
 split
 ·simp
 ·exact Pn d
section
variable {R:Type} {r:R} {P:Program} {J J':Bool→Nat→Prop} {β:Ch} {h:Aw} {w w':World} {g:Bg}
theorem Og {v:AV} {vc:Value} (hs:DA g v=true) (d:Rep J β h w v vc):vc.oneCell'=true:=by
 cases v<;>simp[DA] at hs
 case own=>rw[Rep] at d;obtain⟨x,A,cap,_,rfl,_⟩:=d;rfl
 case optr=>rw[Rep] at d;obtain⟨x,k,o,_,rfl,_⟩:=d;rfl
 case fn=>rw[Rep] at d;obtain⟨cs,rfl,_⟩:=d;rfl
 case imm=>rw[Rep,RepC] at d;obtain⟨_,A,cap,rfl,_⟩:=d;rfl
 case iptr=>rw[Rep,RepC] at d;obtain⟨a,rfl,_⟩:=d;rfl
 all_goals (rw[Rep] at d;subst d;rfl)
theorem Xf:∀ {c:LA},Od g c=true→∀ (j:Nat) (x:AV),c[j]?=some x→DA g x=true
 | [],_,j,x,d=>by simp at d
 | v::r,hs,j,x,d=>by
  rw[Od] at hs;simp at hs
  cases j with
  | zero=>simp at d;subst d;exact hs.1
  | succ j=>exact Xf hs.2 j x (by simpa using d)
theorem q_ {k:Nat} {cs d:Array Value} {ty:TypeId} {fr:Nat×Nat} (O:OnlyBlk w w' k cs d ty fr):∀ j,Ba w j≤Ba w' j:=fun j=>by
 by_cases e:j=k
 ·subst e;rw[Fg O.old,Fg O.new,O.sz];exact Ad4 _
 ·simp[Ba,O.other j e]
theorem JX {t:TypeId} {k o:Nat} {vc:Value} {cs:Array Value} {ty:TypeId} {fr:Nat×Nat} (f:w.heap[k]?=some (.cells cs ty fr)) (l:FrOk cs.size fr)
  (hs:Bq P t=some vc.cells.toList.length) (m:o+vc.cells.toList.length≤cs.size) (n:∀ u ∈ vc.cells.toList,u.oneCell'=true) :
  (Instr.storeAt t (.pointer (some ⟨k,o,none⟩)) vc).run P w=.ok () (w.setCells k o vc.cells.toList):=by
 have d:=run_storeCells_cells (P:=P) k o vc.cells.toList 0 w (fun j q=>by
   rw[Afh,Pm f];simp;omega)
  (fun j q=>by
   rw[Afh];simp only[World.frozen?,f]
   have:=l.at (o+j) (by omega)
   cases fr;simp at this ⊢;omega) n
 simp only[Afh] at d
 have e:=Cs hs w
 simp only[Agh] at e
 simp[Instr.storeAt,Instr.sureAddr,storeVar,e,d]
theorem lB {t:TypeId} {p v:AV} {vp vv:Value} {k:AV→Eh→O R} (S:SimH J β h w) (hl:Looks g h) (L:VN P g t p v k=some r) (hp:Rep J β h w p vp) (Y:Rep J β h w v vv) :
  ∃ val ups,k val ups=some r∧∃ J' β' w',(Instr.storeAt t vp vv).run P w=.ok () w'∧Step J β h w J' β' (Ak ups h) w'∧val=.undef:=by
 unfold VN at L
 split at L
 ·rename_i b off
  obtain⟨x,hx,h1⟩:=ub L
  obtain⟨n,hn,h2⟩:=ub h1
  obtain⟨hs,V⟩:=qY h2
  obtain⟨hb,X⟩:=Do hl hx
  have z:=wd hb hp
  cases M:x.pure with
  | true =>
   rw[M] at V
   obtain⟨⟨c',u1,org⟩,hq,h4⟩:=ub V
   obtain⟨l,h5⟩:=uc h4
   simp at l
   obtain⟨C,D,T⟩:=l
   obtain⟨J1,A,hA,m,_⟩:=H_ S hl.s hq Y
   have hb1:Al (Ak u1 h) b=some x:=by rw[Co _ _ _ T];exact hb
   obtain⟨kk,o,cs,ty,fr,hβ,rfl,f,hf,hle,hcr,_,_⟩:=kv A.sim hb1 X (Rep.ext A.ext hp)
   obtain⟨F,O,hO⟩:=OnlyBlk.setCells (k:=kk) vv.cells.toList (o+off) w cs f
   have G:off+c'.length≤x.cells.length:=by omega
   have hone:=RepCs.one hA m.symm
   have B:=Step.set (x':={ x with pure:=true,cells:=setCells x.cells off c',taint:=x.taint||org }) A.sim hb1 X hs hβ O X hs rfl (P8 G) (by
    refine⟨fun _=>?_,fun L=>by simp at L⟩
    have hold:=hcr.1 M
    rw[By]
    intro j y d
    simp only[FJ G] at d
    simp only[Aec]
    have mono:∀ {a b:Bool} (k:Nat),J1 a k→J1 (a||b) k:=fun {a b} k f=>by
     cases a
     ·cases b
      ·exact f
      ·exact A.sim.jft k f
     ·exact f
    split at d
    ·rename_i hj'
     obtain⟨u,I,hr⟩:=hA.at d
     refine⟨u,?_,RepC.keep (J:=J1 org) (fun k f=>by rw[Ahj];exact mono k f) (fun _ _=>rfl) hr⟩
     rw[hO,if_pos (by omega),←I];congr 1;omega
    ·rename_i hj'
     obtain⟨u,I,hr⟩:=hold.at d
     refine⟨u,?_,RepC.keep (J:=J1 x.taint) (fun k f=>mono k f) (fun _ _=>rfl) hr⟩
     rw[hO,if_neg (by omega)];exact I)
   refine⟨_,_,h5,J1,β,_,JX f hf.1 (by rw[←m,C];exact hn) (by omega) hone,?_,rfl⟩
   rw[Cn]
   exact A.trans (B z) (fun _ k _ _=>q_ O k)
  | false =>
   rw[M] at V
   obtain⟨kk,o,cs,ty,fr,hβ,rfl,f,hf,hle,hcr,_,_⟩:=kv S hb X hp
   have go:∀ (c:LA) (cells':LA),(∀ (j:Nat) (y:AV),c[j]?=some y→∃ u,vv.cells.toList[j]?=some u∧Rep J β h w y u∧u.oneCell'=true)→c.length=vv.cells.toList.length→c.length=n→off+c.length≤x.cells.length →
     cells'.length=x.cells.length→(∀ j:Nat,cells'[j]?=if off≤j∧j<off+c.length then c[j - off]? else x.cells[j]?) →
     ∃ J' β' w',(Instr.storeAt t (.pointer (some ⟨kk,o+off,none⟩)) vv).run P w=.ok () w'∧Step J β h w J' β' (Ak [(b,some { x with pure:=false,cells:=cells' })] h) w':=by
    intro c cells' l m hcn hoff hcl hget'
    obtain⟨F,O,hO⟩:=OnlyBlk.setCells (k:=kk) vv.cells.toList (o+off) w cs f
    have B:=Step.set (x':={ x with pure:=false,cells:=cells' }) S hb X hs hβ O X hs rfl hcl (by
     refine⟨fun L=>by simp at L,fun _ j y d=>?_⟩
     simp only[hget'] at d
     split at d
     ·rename_i hj'
      obtain⟨u,I,hr,ho⟩:=l _ _ d
      refine⟨u,?_,hr,ho⟩
      show F[o+j]?=some u
      rw[hO,if_pos (by omega),←I];congr 1;omega
     ·rename_i hj'
      obtain⟨u,I,hr⟩:=hcr.2 M j y d
      refine⟨u,?_,hr⟩
      show F[o+j]?=some u
      rw[hO,if_neg (by omega)];exact I)
    refine⟨J,β,_,JX f hf.1 (by rw[hn,←hcn,m]) (by omega) (fun u I=>?_),B z⟩
    obtain⟨j,d,rfl⟩:=Aep I
    obtain⟨u',hu',_,ho⟩:=l j c[j] (Ad1 (by omega))
    rw[Ad1 d] at hu';simp only[Af2] at hu';rw[hu'];exact ho
   simp only[cond_false] at V
   split at V
   ·rename_i c
    obtain⟨l,h5⟩:=uc V
    simp at l
    obtain⟨C,D,T⟩:=l
    rw[Rep] at Y
    obtain⟨us,rfl,e⟩:=Y
    rw[Cg] at e
    obtain⟨J',β',w',g1,g2⟩:=go c (Gt x.cells off c) (fun j y d=>by
      have U:j<us.length:=by rw[e.1];exact(Aed.1 d).1
      refine⟨us[j],by simp[Value.cells,Ad1 U],e.2 j y _ d (Ad1 U),Og (Xf C j y d) (e.2 j y _ d (Ad1 U))⟩)
     (by simp[Value.cells,e.1]) D (by omega) (Pn (by omega)) (Yy (by omega))
    exact⟨_,_,h5,J',β',w',g1,g2,rfl⟩
   ·rename_i c org
    obtain⟨l,h5⟩:=uc V
    simp at l
    obtain⟨rfl,D,T⟩:=l
    rw[Rep] at Y
    obtain⟨us,rfl,e,hrc⟩:=Y
    obtain⟨F,O,hO⟩:=OnlyBlk.setCells (k:=kk) us (o+0) w cs f
    have B:=Step.set (x':={ x with pure:=true,taint:=org,cells:=c }) S hb X hs hβ O X hs rfl (by simp;omega) (by
     refine⟨fun _=>?_,fun L=>by simp at L⟩
     rw[By]
     intro j y d
     obtain⟨u,I,hr⟩:=hrc.at d
     have U:j<us.length:=by rw[e];exact(Aed.1 d).1
     refine⟨u,?_,hr⟩
     show F[o+(0+j)]?=some u
     rw[hO,if_pos (by omega),←I];congr 1;omega)
    exact⟨_,_,h5,J,β,_,JX (vc:=.agg ⟨us⟩) f hf.1 (by simp[Value.cells];rw[e,D];exact hn) (by simp[Value.cells];omega) (by simpa[Value.cells] using RepCs.one hrc e),B z,rfl⟩
   ·rename_i hna
    obtain⟨l,h5⟩:=uc V
    simp at l
    obtain⟨C,D,T⟩:=l
    have ho:=Og C Y
    have q:vv.cells=#[vv]:=by cases vv<;>simp_all[Value.cells,Value.oneCell']
    obtain⟨J',β',w',g1,g2⟩:=go [v] (x.cells.set off v) (fun j y d=>by
      cases j with
      | zero=>simp at d;subst d;exact⟨vv,by simp[q],Y,ho⟩
      | succ j=>simp at d) (by simp[q]) (by simp;omega) (by simp;omega) (by simp) (fun j=>by
      have:=FJ (c:=x.cells) (vs:=[v]) (off:=off) (by simp;omega) j
      simpa[setCells] using this)
    exact⟨_,_,h5,J',β',w',g1,g2,rfl⟩
 ·simp at L
end
end Gx
namespace Gx
open Go
section
variable {R:Type} {r:R} {P:Program} {J J':Bool→Nat→Prop} {β:Ch} {h:Aw} {w w':World} {g:Bg}
theorem j6 {v v':AV} {ups:Eh} {org:Bool} (d:OU g v=some (v',ups,org)) (b:Nat) (j:A9 ups b=true):∃ x,g b=some x:=by
 unfold OU at d
 split at d
 ·rename_i k off n
  obtain⟨x,hx,m⟩:=ub d
  obtain⟨q,l⟩:=uc m
  simp at l
  obtain⟨rfl,rfl,rfl⟩:=l
  unfold Gm at hx
  obtain⟨x0,f,hx⟩:=ub hx
  have:k=b:=by
   cases e:beq k b with
   | true=>exact Ad8 e
   | false=>simp[A9,e] at j
  subst this;exact⟨x0,f⟩
 all_goals first
  | (simp at d;done)
  | (simp at d;obtain⟨rfl,rfl,rfl⟩:=d;simp[A9] at j)
theorem Ib:∀ (a b:Eh) (c:Nat),A9 (a++b) c=(A9 a c||A9 b c)
 | [],_,_=>by simp[A9]
 | (i,_)::r,b,c=>by
  rw[Aeb,A9,A9,Ib r b c]
  cases beq i c<;>simp
theorem Yz:∀ {c f:LA} {ups:Eh} {org:Bool},Ys g c=some (f,ups,org)→∀ b,A9 ups b=true→∃ x,g b=some x
 | [],f,ups,org,d,b,e=>by simp[Ys] at d;obtain⟨rfl,rfl,rfl⟩:=d;simp[A9] at e
 | v::r,f,ups,org,d,b,e=>by
  rw[Ys] at d
  obtain⟨⟨v1,u1,o1⟩,l,m⟩:=ub d
  obtain⟨⟨n,u2,o2⟩,hq,j⟩:=ub m
  simp at j
  obtain⟨rfl,rfl,rfl⟩:=j
  rw[Ib] at e
  cases k:A9 u1 b with
  | true=>exact j6 l b k
  | false=>rw[k] at e;exact Yz hq b (by simpa using e)
theorem iL {v:AV} {f:LA} {ups:Eh} {org:Bool} (d:Yk g v=some (f,ups,org)) (b:Nat) (e:A9 ups b=true):∃ x,g b=some x:=by
 unfold Yk at d
 split at d
 ·simp at d;obtain⟨rfl,rfl,rfl⟩:=d;simp[A9] at e
 ·exact Yz d b e
 ·exact Yz d b e
theorem sY {ups:Eh} {d:Nat} (e:Looks g h) (f:∀ b,A9 ups b=true→∃ x,g b=some x) (hn:Al h (nid d)=none):Al (Ak ups h) (nid d)=none:=by
 rw[Co]
 ·exact hn
 ·cases j:A9 ups (nid d) with
  | false=>rfl
  | true =>
   obtain⟨x,hx⟩:=f _ j
   rw[e _ _ hx] at hn;cases hn
def OpDone (J:Bool→Nat→Prop) (β:Ch) (h:Aw) (w:World) (ups:Eh) (val:AV) (vc:Value) (w':World):Prop :=
 ∃ J' β',Step J β h w J' β' (Ak ups h) w'∧Rep J' β' (Ak ups h) w' val vc
def UpsFree (d:Nat) (h:Aw) (ups:Eh):Prop:=∀ b,A9 ups b=true→DD d b=true→Al h b=none
theorem UpsFree.nid {d:Nat} {h:Aw} {ups:Eh} (e:UpsFree d h ups) (hi:A9 ups (nid d)=true):Al h (nid d)=none:=e _ hi (by
 have f:ble (Gx.nid d) (Gx.nid d)=true:=by simp
 have j:Nat.blt (Gx.nid d) (Gx.nid d+16)=true:=by simp
 rw[DD,f,j];rfl)
theorem MW {d:Nat} {x:Blk} {cs:Array Value} {ty:TypeId} (S:SimH J β h w) (hn:Al h (nid d)=none) (k:x.dead=false) (hs:x.sealed=false) (e:x.cells.length≤cs.size) (l:CellsRep J β h w x (fun j=>cs[j]?)) (f:x.mp=false:=by rfl) (hty:TyOk x.ty ty 0 cs.size:=by exact TyOk.none) :
  OpDone J β h w [(nid d,some x)] (.optr (nid d) 0) (.pointer (some ⟨w.heap.size,0,none⟩)) (w.alloc (.cells cs ty)):=by
 have A:=Step.new (ty:=ty) (fr:=(0,0)) S hn k hs ⟨.inl rfl,hty⟩ e l f
 refine⟨_,_,A,?_⟩
 rw[Rep]
 exact⟨x,w.heap.size,0,⟨by simp[Ak,Af],f⟩,rfl,.inr (by simp)⟩
theorem OpDone.after {ups ups':Eh} {val:AV} {vc:Value} {J1:Bool→Nat→Prop} {β1:Ch} {d:World} (A:Step J β h w J1 β1 (Ak ups h) d) (B:OpDone J1 β1 (Ak ups h) d ups' val vc w')
  (hs:∀ k,Ba w k≤Ba w' k):OpDone J β h w (ups++ups') val vc w':=by
 obtain⟨J2,β2,B1,B2⟩:=B
 exact⟨J2,β2,by rw[Cn];exact A.trans B1 (fun _ k _ _=>hs k),by rw[Cn];exact B2⟩
theorem Qj (w:World) (o:Obj):∀ k,Ba w k≤Ba (w.alloc o) k:=fun k=>by
 by_cases d:k<w.heap.size
 ·simp[Ba,Du w _ d]
 ·simp[Ba,Aff (Ags d)]
theorem FK {t:TypeId} {vc:Value}:(Instr.box t vc).run P w=.ok (.pointer (some ⟨w.heap.size,0,none⟩)) (w.alloc (.cells vc.cells t)):=by
 simp[Instr.box,newVar,newRow]
theorem YT {c:LA} {org:Bool} {cs:List Value} (z:RepCs (J org) w c (fun j=>cs[j]?) 0):∀ {L:List (Nat×TypeId)} {e:LA} {k:LA→O R},RZ P c org L e k=some r →
  (∀ (j:Nat) x,e[j]?=some x→∃ u,cs[j]?=some u∧Rep J β h w x u)→∃ l:LA,k l=some r∧∀ (j:Nat) x,l[j]?=some x→∃ u,cs[j]?=some u∧Rep J β h w x u
 | [],e,k,m,n=>⟨e,m,n⟩
 | (off,t)::L,e,k,m,n=>by
  rw[RZ] at m
  obtain⟨q,C⟩:=uc m
  simp at q
  obtain⟨v,D,F⟩:=Va (β:=β) (h:=h) C (z.drop off)
  refine YT z D (fun j x f=>?_)
  rw[Aev] at f
  split at f
  ·exact n j x f
  ·have s:j=e.length:=by
    have:=(Aed.1 f).1
    simp at this;omega
   subst s
   simp at f;subst f
   rcases F with⟨d,A,G,u,B,I⟩ | ⟨d,A,G,_⟩
   ·refine⟨u,?_,I⟩
    rw[q.1] at B;simpa using B
   ·exfalso
    have y:=q.2
    unfold uq at y
    rw[A] at y
    split at y<;>simp_all[TypeDesc.isRow]
theorem lC {co:Bool} {t:TypeId} {v:AV} {vv:Value} {k:AV→O R} (e:VP P co t v k=some r) (f:Rep J β h w v vv):∃ v',k v'=some r∧Rep J β h w v' vv:=by
 unfold VP at e
 split at e
 ·rename_i c org
  rw[Rep] at f
  obtain⟨cs,rfl,B,m⟩:=f
  obtain⟨l,n,q⟩:=YT (β:=β) (h:=h) m e (fun j x s=>by simp at s)
  obtain⟨y,z⟩:=uc n
  simp at y
  refine⟨_,z,?_⟩
  rw[Rep]
  refine⟨cs,rfl,Cg.2 ⟨by omega,fun j x u hx A=>?_⟩⟩
  obtain⟨C,d,hr⟩:=q j x hx
  rw[A] at d;simp at d;subst d;exact hr
 ·exact⟨_,e,f⟩
theorem tZ {t q m:Nat} (h:kZ P t=some (q,m)):t=q∧Bq P t=some m:=by
 have key:∀ {o:Option Nat},o=Bq P t→(o.map fun n=>(t,n))=some (q,m)→t=q∧Bq P t=some m:=by
  intro o d h
  cases o with
  | none=>simp at h
  | some n=>simp at h;exact⟨h.1,by rw[←d,h.2]⟩
 unfold kZ at h
 split at h
 ·obtain⟨f,_,h⟩:=ub h
  split at h
  ·obtain⟨_,h⟩:=uc h;exact key rfl h
  ·obtain⟨g,_,h⟩:=ub h
   split at h
   ·obtain⟨_,h⟩:=uc h;exact key rfl h
   ·cases h
  ·cases h
 ·cases h
theorem d7 {d:Nat} {t:TypeId} {v:AV} {vv:Value} {k:AV→Eh→O R} (S:SimH J β h w) (G:Looks g h) (l:nM P g d t v k=some r) (z:Rep J β h w v vv) :
  ∃ val ups,k val ups=some r∧(UpsFree d h ups→∃ vc w',(Instr.box t vv).run P w=.ok vc w'∧OpDone J β h w ups val vc w'):=by
 unfold nM at l
 split at l
 ·rename_i c org
  refine⟨_,_,l,fun hn=>⟨_,_,FK,?_⟩⟩
  replace hn:=hn.nid (by simp[Ri,A9])
  rw[Rep] at z
  obtain⟨cs,rfl,F,n⟩:=z
  exact MW S hn rfl rfl (by simp[Value.cells,F]) ⟨fun _=>by simpa[Value.cells] using n,fun u=>by simp at u⟩
 ·rename_i c
  cases u:sO P t with
  | true =>
   rw[u] at l
   obtain⟨f,l⟩:=uc l
   simp only[Ad3] at f
   obtain⟨f,x⟩:=f
   have x:=Ad8 x
   refine⟨_,_,l,fun hn=>⟨_,_,FK,?_⟩⟩
   replace hn:=hn.nid (by simp[A9])
   rw[Rep] at z
   obtain⟨cs,rfl,n⟩:=z
   rw[Cg] at n
   have hty:TyOk (kZ P t) t 0 (Value.agg ⟨cs⟩).cells.size:=fun q m hq=>by
    obtain⟨e1,I⟩:=tZ hq
    refine⟨e1,rfl,.inr ?_⟩
    rw[I] at x
    simp[Value.cells,n.1];simpa using x
   refine MW S hn rfl rfl (by simp[Value.cells,n.1]) ⟨fun u=>by simp at u,fun _ j y B=>?_⟩ rfl hty
   have C:j<cs.length:=by rw[n.1];exact(Aed.1 B).1
   exact⟨cs[j],by simp[Value.cells,C],n.2 j y _ B (Ad1 C),Og (Xf f j y B) (n.2 j y _ B (Ad1 C))⟩
  | false =>
   rw[u] at l
   obtain⟨⟨M,u1,o1⟩,hq,F⟩:=ub l
   refine⟨_,_,F,fun hn=>⟨_,_,FK,?_⟩⟩
   replace hn:=hn.nid (by simp[Ib,Ri,A9])
   rw[Rep] at z
   obtain⟨cs,rfl,n⟩:=z
   obtain⟨J1,A,hA,D,_⟩:=Rk S G.s hq n
   refine OpDone.after A (MW A.sim (sY G (Yz hq) hn) rfl rfl (by simp[Value.cells,D]) ⟨fun _=>?_,fun u=>by simp at u⟩) (Qj _ _)
   simpa[Value.cells] using hA
 ·rename_i v F n
  obtain⟨f,l⟩:=uc l
  refine⟨_,_,l,fun hn=>⟨_,_,FK,?_⟩⟩
  replace hn:=hn.nid (by simp[Ri,A9])
  have L:=Og f z
  have e:vv.cells=#[vv]:=by cases vv<;>simp_all[Value.cells,Value.oneCell']
  refine MW S hn rfl rfl (by simp[e]) ⟨fun u=>by simp at u,fun _ j y B=>?_⟩
  cases j with
  | zero=>simp at B;subst B;exact⟨vv,by simp[e],z,L⟩
  | succ j=>simp at B
end
end Gx
namespace Gx
open Go
theorem lD (z:LA):∀ (l j:Nat),j<l*z.length→(Fe l z)[j]?=z[j%z.length]?:=by
 have flat:∀ (l j:Nat),j<l*z.length→((replicate l z).flatten)[j]?=z[j%z.length]?:=by
  intro l
  induction l with
  | zero=>intro j d;simp at d
  | succ l f =>
   intro j d
   rw[Ag6,List.flatten_cons,Aev]
   by_cases e:j<z.length
   ·rw[if_pos e,Ae7 e]
   ·rw[if_neg e,f _ (by rw[Ahq] at d;omega)]
    rw[Nat.mod_eq_sub_mod (a:=j) (by omega)]
 intro l j d
 unfold Fe
 split
 ·rename_i v
  simp at d
  simp[d,Nat.mod_one]
 ·exact flat l j d
theorem Gn (l:Nat) (z:LA):(Fe l z).length=l*z.length:=by
 unfold Fe
 split
 ·simp
 ·simp
section
variable {R:Type} {r:R} {P:Program} {J J':Bool→Nat→Prop} {β:Ch} {h:Aw} {w w':World} {g:Bg}
theorem FL {J:Nat→Prop}:∀ {cs:List Value},Ax (Ls cs)=true→∀ (j:Nat) (u:Value),cs[j]?=some u→∃ x,(Ls cs)[j]?=some x∧RepC J w x u
 | [],_,j,u,d=>by simp at d
 | v::r,e,j,u,d=>by
  have key:∃ x,VI v=x∧Ax (Ls r)=true∧RepC J w x v:=by
   rw[Ls] at e
   have hr:=FF (J:=fun _=>J) (β:=fun _=>none) (h:=[]) (w:=w) v
   cases hx:VI v<;>rw[hx] at e hr<;>simp[Ax] at e<;>refine⟨_,rfl,e,?_⟩<;>(rw[Rep] at hr;rw[RepC];exact hr)
  obtain⟨x,hx,f,hr⟩:=key
  cases j with
  | zero=>simp at d;subst d;exact⟨x,by simp[Ls,hx],hr⟩
  | succ j =>
   obtain⟨y,k,l⟩:=FL (J:=J) (cs:=r) f j u (by simpa using d)
   exact⟨y,by simpa[Ls] using k,l⟩
theorem Vb:∀ cs:List Value,(Ls cs).length=cs.length
 | []=>rfl
 | v::r=>by simp[Ls,Vb r]
theorem Qk {t:TypeId} {z:LA} (e:OS P t=some z):∃ i v,P.info? t=some i∧i.zero=some v∧z=Ls v.cells.toList∧Ax z=true∧v.cells.size=i.size∧z.length=i.size:=by
 unfold OS at e
 obtain⟨i,hi,j⟩:=ub e
 obtain⟨v,k,l⟩:=ub j
 obtain⟨d,f⟩:=uc l
 simp at f d
 subst f
 exact⟨i,v,hi,k,rfl,d.1,by simpa using d.2,by rw[Vb];simpa using d.2⟩
theorem FM {J:Nat→Prop} {v:Value} (t:Ax (Ls v.cells.toList)=true) (l n:Nat) (z:l*v.cells.size≤n) :
  RepCs J w (Fe l (Ls v.cells.toList)) (fun j=>(madeCells v.cells n)[j]?) 0:=by
 rw[By]
 intro j x k
 have e:(Ls v.cells.toList).length=v.cells.size:=by rw[Vb];simp
 have d:j<l*(Ls v.cells.toList).length:=by
  have:=(Aed.1 k).1
  rwa [Gn] at this
 rw[lD _ _ _ d] at k
 rw[e] at k d
 have f:0<v.cells.size:=by
  rcases Age v.cells.size with m | m
  ·rw[m] at d;simp at d
  ·exact m
 have s:j%v.cells.size<v.cells.size:=Ago _ f
 obtain⟨y,q,u⟩:=FL (w:=w) (J:=J) t (j%v.cells.size) v.cells[j%v.cells.size] (by simp[s])
 rw[k] at q;simp at q;subst q
 refine⟨_,?_,u⟩
 have:j<n:=by omega
 simp[madeCells,this,getElem!_pos,s]
theorem SH {d n cap sz:Nat} {x:Blk} {cs:Array Value} {ty:TypeId} {fr:Nat×Nat} (S:SimH J β h w) (hn:Al h (nid d)=none) (t:x.dead=false) (hs:x.sealed=false) (q:x.sz=sz)
  (m:FrTy x.ty ty 0 cs.size fr) (e:x.cells.length=n*sz) (s:cap*sz≤cs.size) (f:n≤cap) (u:CellsRep J β h w x (fun j=>cs[j]?)) (k:x.mp=false:=by rfl) :
  OpDone J β h w [(nid d,some x)] (.own (nid d) 0 n) (.slice (some ⟨w.heap.size,0,none⟩) n cap) (w.alloc (.cells cs ty fr)):=by
 have v:n*sz≤cap*sz:=Aet _ f
 have A:=Step.new (ty:=ty) (fr:=fr) S hn t hs m (by omega) u k
 refine⟨_,_,A,?_⟩
 rw[Rep]
 refine⟨x,_,cap,⟨by simp[Ak,Af],k⟩,rfl,f,.inr ⟨w.heap.size,0,rfl,.inr ⟨by simp,?_,by rw[q,e];omega⟩⟩⟩
 have l:(w.alloc (.cells cs ty fr)).heap[w.heap.size]?=some (.cells cs ty fr):=by show(w.heap.push _)[_]?=_;simp
 rw[Fg l,q];omega
theorem nV {d:Nat} {t:TypeId} {l c:AV} {vl vc:Value} {k:AV→Eh→O R} (S:SimH J β h w) (f:jU P d t l c k=some r) (q:Rep J β h w l vl) (s:Rep J β h w c vc) :
  ∃ val ups,k val ups=some r∧(UpsFree d h ups→∃ u w',(Instr.makeSlice t vl vc).run P w=.ok u w'∧OpDone J β h w ups val u w'):=by
 unfold jU at f
 split at f
 ·rename_i y l c A
  obtain⟨sz,hs,B⟩:=ub f
  obtain⟨by_,x,C⟩:=ub B
  obtain⟨z,D,F⟩:=ub C
  obtain⟨hq,G⟩:=uc F
  simp at hq
  obtain⟨I,L,U,V⟩:=hq
  rw[Rep] at q s;subst q s
  obtain⟨i,v,hi,M,rfl,j,e1,T⟩:=Qk D
  have e:i.size=sz:=by simp[Bq,hi] at hs;exact hs
  have m:i.bytes=by_:=by simp[kW,hi] at x;exact x
  have n:A9 (Ri d true false sz (Fe l.toNat (Ls v.cells.toList))) (nid d)=true:=by simp[Ri,A9]
  refine⟨_,_,G,fun hn=>⟨_,_,run_make w t y i v A hi M _ _ l c I L (by rw[m,Int.mul_comm];omega) (by omega),?_⟩⟩
  refine SH (sz:=sz) S (hn.nid n) rfl rfl rfl FrTy.un0 ?_ (by rw[size_madeCells,e];exact Ad4 _) (by omega) ⟨fun _=>?_,fun j=>by simp at j⟩
  ·show(Fe l.toNat (Ls v.cells.toList)).length=_
   rw[Gn,T,e]
  ·exact FM j _ _ (by rw[e1];exact Aet _ (by omega))
 ·simp at f
theorem Yield.src {sz n:Nat} {tx:TypeId} {vx:Value} {us:List Value} (Y:Yield P w sz vx n us) (d:kf P tx=true) (j:∀ u ∈ us,u.oneCell'=true):Src P sz tx vx n us w:=by
 refine⟨?_,Y.len,?_,?_,Y.length,j⟩
 ·unfold kf at d
  split at d
  ·rename_i e f;exact .inl ⟨e,f⟩
  ·rename_i f;exact .inr f
  ·simp at d
 ·have:=Y.cells w n (fun _=>rfl) (Ad4 _)
  rwa [←Y.length,Aga] at this
 ·have:=Y.cells w.drew n (fun _=>rfl) (Ad4 _)
  rwa [←Y.length,Aga] at this
theorem lE {J:Nat→Prop} {a b:LA} {us vs:List Value} (k:RepCs J w a (fun j=>us[j]?) 0) (l:RepCs J w b (fun j=>vs[j]?) 0) (m:a.length=us.length) (tail:List Value) :
  RepCs J w (a++b) (fun j=>(us++vs++tail)[j]?) 0:=by
 rw[By]
 intro j x d
 rw[Aev] at d
 simp only[Aec]
 by_cases f:j<a.length
 ·rw[if_pos f] at d
  obtain⟨u,e,hr⟩:=k.at d
  refine⟨u,?_,hr⟩
  rw[Aea,Aev,if_pos (by omega)];exact e
 ·rw[if_neg f] at d
  obtain⟨u,e,hr⟩:=l.at d
  refine⟨u,?_,hr⟩
  have n:j - a.length<vs.length:=(Aed.1 e).1
  rw[Aea,Aev,if_neg (by omega),Aev,if_pos (by omega),←m];exact e
theorem FN (w:World) (k:Nat):Ba w.drew k=Ba w k:=rfl
theorem d8 {d sz n1 n2 cap0:Nat} {t tx ty e:TypeId} {i:TypeInfo} {z vx:Value} {A:Option Addr} {olds news:List Value} {c1 f:LA} {o:Bool} (S:SimH J β h w) (hn:Al h (nid d)=none)
  (I:P.underlying t=some (.slice e)) (hi:P.info? e=some i) (L:i.zero=some z) (B:i.size=sz) (C:z.cells.size=sz)
  (l:∀ w':World,(∀ a,w'.cell? a=w.cell? a)→(Builtin.firstCells sz n1 (.slice A n1 cap0)).run P w'=.ok olds.toArray w') (s:olds.length=n1*sz)
  (Y:Yield P w sz vx n2 news) (M:kf P tx=true) (T:∀ u ∈ news,u.oneCell'=true)
  (U:RepCs (J o) w c1 (fun j=>olds[j]?) 0) (v:c1.length=olds.length) (V:RepCs (J o) w f (fun j=>news[j]?) 0) (D:f.length=news.length)
  (G:cap0<n1+n2) (hb1:n1+n2≤140737488355328) (F:(n1+n2)*i.bytes≤140737488355328) {X:Option (Nat×Nat)} (hX:∀ q,X=some q→q=(e,0)) :
  ∃ u w',(Builtin.append_ #[t,tx] ty #[.slice A n1 cap0,vx]).run P w=.ok u w' ∧
   OpDone J β h w [(nid d,some { dead:=false,sealed:=false,pure:=true,taint:=o,sz:=sz,cells:=c1++f,ty:=X })] (.own (nid d) 0 (n1+n2)) u w'∧(∀ k,Ba w k≤Ba w' k):=by
 subst B
 have run:=run_append_grow_src (P:=P) w t tx ty e i z I hi L A n1 cap0 olds (l w.drew (fun _=>rfl)) vx n2 news (Y.src M T) G (by omega) (growslice_fits G F)
 have y:n1+n2≤grownCap w (n1+n2) cap0 e:=by
  unfold grownCap;simp[Question.cut]
 refine⟨_,_,run,?_,?_⟩
 ·obtain⟨J',β',B1,B2⟩:=SH (d:=d) (n:=n1+n2) (cap:=grownCap w (n1+n2) cap0 e) (sz:=i.size) (ty:=e) (fr:=(0,0)) (x:={ dead:=false,sealed:=false,pure:=true,taint:=o,sz:=i.size,cells:=c1++f,ty:=X })
   (cs:=(olds++news).toArray++Builtin.zeroCells z.cells (grownCap w (n1+n2) cap0 e - (n1+n2))) (Step.drew S).sim hn rfl rfl rfl ⟨.inl rfl,fun t m hm=>by have:=hX _ hm;simp at this;exact⟨this.1.symm,rfl,.inl this.2⟩⟩
   (by simp[v,D,s,Y.length,Afn]) (by
    simp[Builtin.zeroCells,s,Y.length,C]
    rw[←Afn,←Afn];exact Aet _ (by omega)) y
   ⟨fun _=>by
    have:=lE U V v (Builtin.zeroCells z.cells (grownCap w (n1+n2) cap0 e - (n1+n2))).toList
    show RepCs (J o) w.drew (c1++f) _ 0
    refine RepCs.keep (J:=J o) (w:=w) (w':=w.drew) (fun _ hj=>hj) (fun _ _=>rfl) (fun j=>?_) this
    rw[←Ahr]
    simp,fun hp=>by simp at hp⟩
  exact⟨J',β',(Step.drew S).trans B1 (fun _ k _ _=>by rw[←FN];exact Qj _ _ k),B2⟩
 ·intro k;rw[←FN];exact Qj _ _ k
theorem MX {J:Bool→Nat→Prop} (e:∀ k,J false k→J true k) (a b:Bool) (k:Nat) (d:J a k):J (a||b) k:=by
 cases a
 ·cases b
  ·exact d
  ·exact e k d
 ·exact d
theorem d9 {J:Bool→Nat→Prop} (d:∀ k,J false k→J true k) (a b:Bool) (k:Nat) (e:J b k):J (a||b) k:=by rw[Ahj];exact MX d b a k e
theorem nW {d sz:Nat} {x:Blk} {A:Option Addr} (S:SimH J β h w) (hn:Al h (nid d)=none) (f:x.cells=[]) (e:x.mp=false:=by rfl) :
  OpDone J β h w [(nid d,some x)] (.own (nid d) 0 0) (.slice A 0 0) w:=by
 refine⟨_,_,Step.newNone S hn f e,?_⟩
 rw[Rep]
 exact⟨x,A,0,⟨by simp[Ak,Af],e⟩,rfl,Ad4 _,.inl rfl⟩
theorem nX {g:Bg} {d tx:TypeId} {s:AV} {q:Nat×Nat} (h:YL P g d tx s=some q):q=(d,0):=by
 unfold YL at h
 split at h
 ·split at h
  ·simp at h;exact h.symm
  ·cases h
 ·obtain⟨x,_,h⟩:=ub h
  obtain⟨y,_,h⟩:=ub h
  obtain⟨_,h⟩:=uc h
  simp at h;exact h.symm
 ·cases h
theorem uz {g:Bg} {f tx b off n o m:Nat} {ty:TypeId} {y:Blk} (j:Gm g b=some y) (l:TyOk y.ty ty o m):TyOk (YL P g f tx (.own b off n)) ty (o+off) m:=by
 intro t k h
 have e:=nX h
 simp at e;obtain⟨rfl,rfl⟩:=e
 unfold YL at h
 simp only[j,Ae4] at h
 obtain⟨q,hq,h⟩:=ub h
 obtain⟨d,_⟩:=uc h
 simp only[Ad3] at d
 have c1:=Ad8 d.1
 have u:=Ad8 d.2.1
 have v:=Ad8 d.2.2
 obtain⟨s,x,_⟩:=l q.1 q.2 hq
 exact⟨by rw[s,c1],by omega,.inl rfl⟩
theorem iM {d:Nat} {t tx ty:TypeId} {s x:AV} {vs vx:Value} {k:AV→Eh→O R} (S:SimH J β h w) (hl:Looks g h) (hh:MR P g d t tx s x k=some r) (hs:Rep J β h w s vs) (hx:Rep J β h w x vx) :
  ∃ val ups,k val ups=some r∧(UpsFree d h ups→∃ u w',(Builtin.append_ #[t,tx] ty #[vs,vx]).run P w=.ok u w'∧OpDone J β h w ups val u w'):=by
 unfold MR at hh
 split at hh
 ·rename_i el hu
  obtain⟨ht,M⟩:=uc hh
  obtain⟨sz,hsz,h1⟩:=ub M
  obtain⟨by_,hby,h2⟩:=ub h1
  obtain⟨zz,hz,h3⟩:=ub h2
  obtain⟨old,l,h4⟩:=ub h3
  obtain⟨new,us,h5,Y,C,hur⟩:=FG (P:=P) S hl h4 hx
  obtain⟨hq,h6⟩:=uc h5
  simp at hq
  obtain⟨q1,q2⟩:=hq
  obtain⟨i,z,hi,hiz,rfl,hp,e1,e2⟩:=Qk hz
  have f:i.size=sz:=by simp[Bq,hi] at hsz;exact hsz
  have hb':i.bytes=by_:=by simp[kW,hi] at hby;exact hby
  have m:=RepCs.one hur C.symm
  have I:RepCs (J (old.2.2.1||new.2.2)) w new.1 (fun j=>us[j]?) 0:=RepCs.keep (J:=J new.2.2) (w:=w) (d9 S.jft _ _) (fun _ _=>rfl) (fun _=>rfl) hur
  refine⟨_,_,h6,fun hn=>?_⟩
  replace hn:=hn.nid (by simp[Ib,A9])
  have hX:∀ q,YL P g el tx s=some q→q=(el,0):=fun q=>nX
  have empty:∀ (A:Option Addr),vs=.slice A 0 0→old.1=[]→old.2.1=0→old.2.2.2=[] →
    ∃ u w',(Builtin.append_ #[t,tx] ty #[vs,vx]).run P w=.ok u w'∧OpDone J β h w (old.2.2.2++[(nid d,some { dead:=false,sealed:=false,pure:=true,taint:=old.2.2.1||new.2.2,sz,cells:=old.1++new.1,ty:=YL P g el tx s })]) (.own (nid d) 0 (old.2.1+new.2.1)) u w':=by
   intro A hA o1 o2 o3
   subst hA
   rw[o1,o2,o3]
   rcases Age new.2.1 with M | M
   ·have hus:us=[]:=by have:=Y.length;rw[M] at this;simpa using this
    subst hus
    have D:=Y.src ht m
    rw[M] at D
    refine⟨_,_,run_append_nothing (P:=P) w t tx ty el i hu hi A 0 0 (Ad4 _) vx (by rw[f];exact D),?_⟩
    rw[M]
    have hnc:new.1=[]:=by simpa using C
    exact nW (sz:=sz) S hn (by simp[hnc])
   ·obtain⟨u,w',V,g2,_⟩:=d8 (ty:=ty) (c1:=[]) (olds:=[]) (n1:=0) (cap0:=0) (A:=A) S hn hu hi hiz f (by rw[e1,f]) (fun w' _=>by
      cases A with
      | none=>exact run_firstCells_none (P:=P) w' sz 0 0 0
      | some a=>exact run_firstCells_some (P:=P) w' sz 0 a 0 0 [] (by simp) (fun j v L=>by simp at L)) (by simp) Y ht m (by simp[RepCs]) rfl I C (by omega) (by rw[o2] at q1;omega) (by rw[o2,←hb'] at q2;exact q2) hX
    exact⟨u,w',V,g2⟩
  unfold sS at l
  split at l
  ·simp at l;subst l
   rw[Rep] at hs
   exact empty none hs rfl rfl rfl
  ·rename_i c n sz' org
   obtain⟨hz0,h7⟩:=uc l
   simp at hz0 h7;subst hz0;subst h7
   rw[Rep,RepC] at hs
   obtain⟨_,A,cap,L,_,X,_⟩:=hs
   have:=X rfl;subst this
   exact empty A L rfl rfl rfl
  ·rename_i b off n
   obtain⟨y,hy,h7⟩:=ub l
   obtain⟨hc,h8⟩:=uc h7
   simp at hc h8
   obtain⟨c1,c2,c3⟩:=hc
   subst h8;subst c3
   obtain⟨hb,hd⟩:=Do hl hy
   simp only at *
   rw[Rep] at hs
   obtain⟨y',A,cap,⟨hy1,hmp⟩,rfl,X,hr⟩:=hs
   rw[hb] at hy1;simp at hy1;subst hy1
   have kill:=Step.kill (y:={ y with dead:=true,pure:=true,cells:=[] }) S hb rfl
   have hkn:Al (Fx h b { y with dead:=true,pure:=true,cells:=[] }) (nid d)=none:=by
    rw[Af,if_neg (fun e=>by rw[←e,hn] at hb;cases hb)];exact hn
   have F:Ak [(b,none)] h=Fx h b { y with dead:=true,pure:=true,cells:=[] }:=by simp[Ak,hb]
   by_cases hc0:cap=0
   ·have hn0:n=0:=by omega
    subst hc0;subst hn0
    have S':=kill.sim
    rcases Age new.2.1 with M | M
    ·have hus:us=[]:=by have:=Y.length;rw[M] at this;simpa using this
     subst hus
     have D:=Y.src ht m
     rw[M] at D
     refine⟨_,_,run_append_nothing (P:=P) w t tx ty el i hu hi A 0 0 (Ad4 _) vx (by rw[f];exact D),?_⟩
     rw[M]
     have hnc:new.1=[]:=by simpa using C
     refine OpDone.after (ups:=[(b,none)]) (by rw[F];exact kill) ?_ (fun _=>Ad4 _)
     rw[F]
     exact nW (sz:=y.sz) S' hkn (by simp[hnc])
    ·obtain⟨u,w',V,g2,g3⟩:=d8 (ty:=ty) (c1:=[]) (olds:=[]) (n1:=0) (cap0:=0) (A:=A) S' hkn hu hi hiz f (by rw[e1,f]) (fun w' _=>by
       cases A with
       | none=>exact run_firstCells_none (P:=P) w' y.sz 0 0 0
       | some a=>exact run_firstCells_some (P:=P) w' y.sz 0 a 0 0 [] (by simp) (fun j v L=>by simp at L)) (by simp) Y ht m (by simp[RepCs]) rfl I C (by omega) (by omega) (by rw[←hb'] at q2;exact q2) hX
     refine⟨u,w',V,OpDone.after (ups:=[(b,none)]) (by rw[F];exact kill) ?_ g3⟩
     rw[F];simpa[Ri] using g2
   ·rcases hr with hr | ⟨kk,o,rfl,hr⟩
    ·exact absurd hr hc0
    ·rcases hr with hr | ⟨r1,r2,r3⟩
     ·simp[hd] at hr
     ·rcases S.blk b y hb hd hmp with⟨hn',_⟩ | ⟨k',o',cs,ty',fr,hβ',V,g2,g3,g4,g5,g6⟩
      ·rw[r1] at hn';simp at hn'
      ·rw[r1] at hβ';simp at hβ';obtain⟨rfl,rfl⟩:=hβ'
       have hbs:=Fg V
       have T:=((g4.1 c1).drop off).take (n*y.sz)
       have U:((y.cells.drop off).take (n*y.sz)).length=n*y.sz:=by simp;omega
       by_cases G:n+new.2.1≤cap
       ·
        have hle:(n+new.2.1)*y.sz≤cap*y.sz:=Aet _ G
        rw[Afn] at hle
        have run:=run_append_room_src (P:=P) w t tx ty el i hu hi kk (o+off) n cap vx new.2.1 us (by rw[f];exact Y.src ht m) G (fun j hj=>by
          rw[f,Pm V];have:=Y.length;simp;omega) (fun j hj=>by
          rw[f];simp only[World.frozen?,V]
          have h9:=Y.length
          have:=g2.1.at (o+off+n*y.sz+j) (by omega)
          cases fr;simp at this ⊢;omega)
        rw[f] at run
        obtain⟨cs',O,hO⟩:=OnlyBlk.setCells (k:=kk) us (o+off+n*y.sz) w cs V
        have h9:=Y.length
        have B:=Step.move (y:={ y with dead:=true,pure:=true,cells:=[] }) (o':=o+off) (x':={ dead:=false,sealed:=false,pure:=true,taint:=y.taint||new.2.2,sz:=y.sz,cells:=(y.cells.drop off).take (n*y.sz)++new.1,ty:=YL P g el tx (.own b off n) }) S hb hd c2 r1 hn rfl O rfl rfl
         (by rw[Adw,U,C];omega) ⟨fun _=>by
          show RepCs (J (y.taint||new.2.2)) w ((y.cells.drop off).take (n*y.sz)++new.1) _ 0
          rw[By]
          intro j q hj
          rw[Aev,U] at hj
          simp only[Aec]
          by_cases hjn:j<n*y.sz
          ·rw[if_pos hjn] at hj
           obtain⟨v,L,hvr⟩:=T.at hj
           refine⟨v,?_,RepC.keep (J:=J y.taint) (w:=w) (MX S.jft _ _) (fun _ _=>rfl) hvr⟩
           rw[hO,if_neg (by omega),Afl];exact L
          ·rw[if_neg hjn] at hj
           obtain⟨v,L,hvr⟩:=I.at hj
           refine⟨v,?_,hvr⟩
           have:j - n*y.sz<us.length:=(Aed.1 L).1
           rw[hO,if_pos (by omega),←L];congr 1;omega,fun hp=>by simp at hp⟩ hmp (hty:=uz (P:=P) (tx:=tx) (n:=n) hy g2.2)
        refine⟨_,_,run,J,(fun b=>if b=nid d then some (kk,o+off) else β b),?_,?_⟩
        ·rw[Cn,F];exact B
        ·rw[Cn,F,Rep]
         refine⟨_,_,cap,⟨by simp[Ri,Ak,Af];rfl,rfl⟩,rfl,G,.inr ⟨kk,o+off,rfl,.inr ⟨by simp,?_,?_⟩⟩⟩
         ·rw[Fg O.new,O.sz];simp;omega
         ·simp only[Adw,U,C,h9,Aec];rw[Afn];exact Ad4 _
       ·
        obtain⟨olds,l1,l2,l3⟩:=T.list
        obtain⟨u,w',g1',g2',g3'⟩:=d8 (ty:=ty) (c1:=(y.cells.drop off).take (n*y.sz)) (olds:=olds) (n1:=n) (cap0:=cap) (A:=some ⟨kk,o+off,none⟩) kill.sim hkn hu hi hiz f (by rw[e1,f]) (fun w' he =>
          run_firstCells_some (P:=P) w' y.sz n _ n cap olds (by rw[l1,U]) (fun j v L=>by
           rw[he,Addr.add_mid,Pm V,Afl];exact l2 j v L)) (by rw[l1,U]) Y ht m
          (RepCs.keep (J:=J y.taint) (w:=w) (MX S.jft _ _) (fun _ _=>rfl) (fun _=>rfl) l3) l1.symm I C (by omega) (by omega) (by rw[←hb'] at q2;exact q2) hX
        refine⟨u,w',g1',OpDone.after (ups:=[(b,none)]) (by rw[F];exact kill) ?_ g3'⟩
        rw[F];exact g2'
  ·simp at l
 ·simp at hh
end
end Gx
namespace Gx
open Go
section
variable {R:Type} {r:R} {P:Program} {J J':Bool→Nat→Prop} {β:Ch} {h:Aw} {w w':World} {g:Bg}
theorem Step.retaint (S:SimH J β h w) {d:Nat} {x:Blk} (hx:Al h d=some x) (v:x.dead=false) (hs:x.sealed=false) (hp:x.pure=true) (A:x.mp=false) (o:Bool) :
  Step J β h w J β (Fx h d { x with taint:=x.taint||o }) w:=by
 have E:Ext J β h w J β (Fx h d { x with taint:=x.taint||o }) w:=by
  refine⟨fun _ _ t=>t,fun o k t=>rfl,fun b z f=>?_,fun b k o u=>Ad4 _⟩
  by_cases e:b=d
  ·subst e;rw[hx] at f;simp at f;subst f
   exact⟨{ x with taint:=x.taint||o },⟨by rw[Af,if_pos rfl],rfl⟩,.inr ⟨v,rfl,rfl,fun _=>rfl⟩⟩
  ·refine⟨z,⟨by rw[Af,if_neg e];exact f,rfl⟩,?_⟩
   cases v:z.dead
   ·exact .inr ⟨rfl,rfl,rfl,fun _=>rfl⟩
   ·exact .inl rfl
 refine⟨E,⟨S.jlt,S.jft,S.gl.ext E,fun b z f j B=>?_,fun b z f j B=>by
   rw[Af] at f
   by_cases e:b=d
   ·rw[if_pos e] at f;simp at f;subst f;simp[A] at B
   ·rw[if_neg e] at f
    exact(S.mblk b z f j B).keep rfl (fun k o u=>rfl) (fun _ _ _ _ t=>t),?_⟩,rfl,rfl,rfl,Ad4 _,fun k hk _=>rfl,?_,fun _ _ t=>.inl t⟩
 ·rw[Af] at f
  by_cases e:b=d
  ·rw[if_pos e] at f;simp at f;subst f;subst e
   rcases S.blk b x hx v A with l | ⟨k,o',m,n,q,l,C,D,F,G,I,h7⟩
   ·exact .inl l
   ·refine .inr ⟨k,o',m,n,q,l,C,D,F,CellsRep.ext E ⟨fun _=>?_,fun L=>?_⟩,fun _=>I hs,fun L=>by simp[hs] at L⟩
    ·exact RepCs.keep (J:=J x.taint) (w:=w) (MX S.jft _ _) (fun _ _=>rfl) (fun _=>rfl) (G.1 hp)
    ·simp[hp] at L
  ·rw[if_neg e] at f
   rcases S.blk b z f j B with l | ⟨k,o,m,n,q,l,C,D,F,G,I,h7⟩
   ·exact .inl l
   ·exact .inr ⟨k,o,m,n,q,l,C,D,F,G.ext E,I,h7⟩
 ·intro b b' z z' k oo M f T U V s u X
  have get:∀ {c y},Al (Fx h d { x with taint:=x.taint||o }) c=some y→y.dead=false→∃ Y,Al h c=some Y∧Y.dead=false∧(y.sealed=false→Y.sealed=false):=by
   intro c y hc hyd
   rw[Af] at hc
   by_cases e:c=d
   ·subst e;exact⟨x,hx,v,fun _=>hs⟩
   ·rw[if_neg e] at hc;exact⟨y,hc,hyd,id⟩
  obtain⟨y1,g1,g2,g3⟩:=get f U
  obtain⟨y2,g4,g5,g6⟩:=get T V
  exact S.sep b b' y1 y2 k oo M g1 g4 g2 g5 (g3 s) u X
 ·rintro k ⟨b,z,o,f,j,s,u⟩ hk
  rw[Af] at f
  by_cases e:b=d
  ·subst e;exact⟨b,x,o,hx,v,hs,u⟩
  ·rw[if_neg e] at f
   exact⟨b,z,o,f,j,s,u⟩
theorem d_ (c:LA) (off:Nat):Gt c off []=c:=by simp[Gt]
theorem YU {kd:IntKind}:∀ (n:Nat) (c:LA) (k:LA→O R),QF kd n c k=some r→∃ vs,k vs=some r∧vs.length=n∧∀ (j:Nat) (v:AV),vs[j]?=some v→(∃ i,v=.int kd i)∧c[j]?=some v
 | 0,_,k,h=>⟨[],h,rfl,by simp⟩
 | n+1,c,k,h=>by
  rw[QF] at h
  obtain⟨x,hx,h⟩:=ub h
  obtain⟨i,hi,h⟩:=ub h
  obtain⟨vs,l,m,q⟩:=YU n _ _ h
  refine⟨_,l,by simp[m],fun j v d=>?_⟩
  cases j with
  | zero =>
   simp at d;subst d
   refine⟨⟨_,rfl⟩,?_⟩
   rw[←Aes,hx]
   unfold OT at hi
   split at hi
   ·obtain⟨e,hn⟩:=uc hi
    simp[Na] at e hn;subst e;subst hn;rfl
   ·cases hi
  | succ j =>
   simp at d
   obtain⟨s,f⟩:=q j v d
   refine⟨s,?_⟩
   rw[Ae8] at f
   rw[←f,Nat.add_comm]
theorem lF {t tx ty M sz b off n:TypeId} {y:Blk} {q:LA×Nat×Bool} {us:List Value} {vs vx:Value} {k:AV→Eh→O R} (S:SimH J β h w) (T:P.underlying t=some (.slice M)) (U:Bq P M=some sz) (V:Al h b=some y) (I:y.dead=false)
  (L:VQ P M sz b off n y q k=some r) (hs:Rep J β h w (.own b off n) vs) (Y:Yield P w sz vx q.2.1 us) (X:q.1.length=us.length) (v:RepCs (J q.2.2) w q.1 (fun j=>us[j]?) 0) :
  ∃ val ups,k val ups=some r∧∃ u w',(Builtin.copy_ #[t,tx] ty #[vs,vx]).run P w=.ok u w'∧OpDone J β h w ups val u w':=by
 unfold VQ at L
 split at L
 ·rename_i kd hk
  obtain⟨hc,h1⟩:=uc L
  simp at hc
  obtain⟨c0,c1,c2,c3,c4,c5,c6⟩:=hc
  subst c0
  obtain⟨ws,h2,hw,hws⟩:=YU _ _ _ h1
  have z:=RepCs.one v X.symm
  refine⟨_,_,h2,?_⟩
  rw[Rep] at hs
  obtain⟨y',A,cap,⟨e,C⟩,rfl,hcap,hr⟩:=hs
  rw[V] at e;simp at e;subst e
  have hm:Nat.min q.2.1 n=n:=Nat.min_eq_right c5
  have d:=Y.cells w n (fun _=>rfl) c5
  have D:=Y.len w
  rcases hr with hr | ⟨kk,o,rfl,hr⟩
  ·omega
  ·rcases hr with hr | ⟨r1,r2,r3⟩
   ·simp[I] at hr
   ·rcases S.blk b y V I C with⟨F,_⟩ | ⟨k',o',cs,ty',fr,f,g1,g2,g3,g4,g5,g6⟩
    ·rw[r1] at F;simp at F
    ·rw[r1] at f;simp at f;obtain⟨rfl,rfl⟩:=f
     have hul':=Y.length
     have htl:(us.take (n*1)).length=n:=by rw[Afc];omega
     obtain⟨G,O,hO⟩:=OnlyBlk.setCells (k:=kk) (us.take (n*1)) (o+off) w cs g1
     have l:=run_storeCells_cells (P:=P) kk (o+off) (us.take (n*1)) 0 w (fun j s=>by
       rw[Afh,Pm g1];simp;omega)
      (fun j s=>by
       rw[Afh];simp only[World.frozen?,g1]
       have:=g2.1.at (o+off+j) (by omega)
       cases fr;simp at this ⊢;omega) (fun u T=>z u (Ag2 T))
     simp only[Afh] at l
     have B:=Step.set (x':={ y with cells:=Gt y.cells off ws }) S V I c3 r1 O I c3 rfl (Pn (by omega)) ⟨fun hp=>by simp[c4] at hp,fun _=>by
      intro j x s
      rw[Yy (by omega),hw] at s
      split at s
      ·obtain⟨⟨i,rfl⟩,h5⟩:=hws _ _ s
       obtain⟨u,m,hr⟩:=v.at h5
       refine⟨u,?_,?_,?_⟩
       ·show G[o+j]?=some u
        rw[hO,if_pos (by omega),Afg,if_pos (by omega),←m];congr 1;omega
       ·rw[RepC] at hr;rw[Rep];exact hr
       ·rw[RepC] at hr;rw[hr];rfl
      ·obtain⟨u,m,hr⟩:=g4.2 c4 j x s
       refine⟨u,?_,hr⟩
       show G[o+j]?=some u
       rw[hO,if_neg (by omega)];exact m⟩ C
     refine⟨.int .i64 (n:Nat),_,?_,J,β,B,by rw[Rep]⟩
     simp only[Aeh] at l
     simp[Builtin.copy_,run_underlying T,D,Cs U,hm,d,goInt,l]
 ·cases L
theorem nY {t tx ty:TypeId} {s x:AV} {vs vx:Value} {k:AV→Eh→O R} (S:SimH J β h w) (hl:Looks g h) (X:jV P g t s x k=some r) (hs:Rep J β h w s vs) (hx:Rep J β h w x vx) :
  ∃ val ups,k val ups=some r∧∃ u w',(Builtin.copy_ #[t,tx] ty #[vs,vx]).run P w=.ok u w'∧OpDone J β h w ups val u w':=by
 unfold jV at X
 split at X
 ·rename_i el b off n z
  obtain⟨sz,l,h1⟩:=ub X
  obtain⟨y,hy,h2⟩:=ub h1
  obtain⟨new,us,h3,Y,C,v⟩:=FG (P:=P) S hl h2 hx
  obtain⟨hb,U⟩:=Do hl hy
  cases D:(y.pure&&(!y.sealed&&beq sz y.sz)) with
  | false=>rw[D] at h3;exact lF S z l hb U h3 hs Y C v
  | true =>
  rw[D] at h3
  have h4:=h3
  simp only[cond_true] at h4
  have hc:=D
  simp at hc
  obtain⟨c1,c2,c3⟩:=hc
  subst c3
  have hone:=RepCs.one v C.symm
  refine⟨_,_,h4,?_⟩
  rw[Rep] at hs
  obtain⟨y',A,cap,⟨F,G⟩,rfl,hcap,hr⟩:=hs
  rw[hb] at F;simp at F;subst F
  have hm:Nat.min new.2.1 n≤new.2.1:=Nat.min_le_left _ _
  have d:=Y.cells w (Nat.min new.2.1 n) (fun _=>rfl) hm
  have f:=Y.len w
  by_cases I:Nat.min new.2.1 n*y.sz=0
  ·
   refine⟨.int .i64 (Nat.min new.2.1 n:Nat),w,?_,J,β,?_,by rw[Rep]⟩
   ·have e:us.take (Nat.min new.2.1 n*y.sz)=[]:=by rw[I];rfl
    rw[e] at d
    cases A with
    | none=>simp[Builtin.copy_,run_underlying z,f,Cs l,d,goInt]
    | some a=>simp[Builtin.copy_,run_underlying z,f,Cs l,d,goInt,storeCells]
   ·have e:(new.1.take (min new.2.1 n*y.sz))=[]:=by
     have:min new.2.1 n*y.sz=0:=I
     rw[this];rfl
    have T:=Step.retaint S hb U c2 c1 G new.2.2
    simp only[Ak]
    rw[e,d_]
    exact T
  ·rcases hr with hr | ⟨kk,o,rfl,hr⟩
   ·have:n=0:=by omega
    subst this;simp at I
   ·rcases hr with hr | ⟨r1,r2,r3⟩
    ·simp[U] at hr
    ·rcases S.blk b y hb U G with⟨hn',_⟩ | ⟨k',o',cs,ty',fr,L,g1,g2,g3,g4,g5,g6⟩
     ·rw[r1] at hn';simp at hn'
     ·rw[r1] at L;simp at L;obtain⟨rfl,rfl⟩:=L
      have hle1:Nat.min new.2.1 n*y.sz≤new.2.1*y.sz:=Aet _ hm
      have hle2:Nat.min new.2.1 n*y.sz≤n*y.sz:=Aet _ (Nat.min_le_right _ _)
      have hul':=Y.length
      have htl:(us.take (Nat.min new.2.1 n*y.sz)).length=Nat.min new.2.1 n*y.sz:=by rw[Afc];omega
      have htl':(new.1.take (Nat.min new.2.1 n*y.sz)).length=Nat.min new.2.1 n*y.sz:=by rw[Afc];omega
      obtain⟨cs',O,hO⟩:=OnlyBlk.setCells (k:=kk) (us.take (Nat.min new.2.1 n*y.sz)) (o+off) w cs g1
      have hst:=run_storeCells_cells (P:=P) kk (o+off) (us.take (Nat.min new.2.1 n*y.sz)) 0 w (fun j V=>by
        rw[Afh,Pm g1];simp;omega)
       (fun j V=>by
        rw[Afh];simp only[World.frozen?,g1]
        have:=g2.1.at (o+off+j) (by omega)
        cases fr;simp at this ⊢;omega) (fun u z=>hone u (Ag2 z))
      simp only[Afh] at hst
      have B:=Step.set (x':={ y with cells:=Gt y.cells off (new.1.take (Nat.min new.2.1 n*y.sz)),taint:=y.taint||new.2.2 }) S hb U c2 r1 O U c2 rfl (Pn (by omega)) ⟨fun _=>by
       show RepCs (J (y.taint||new.2.2)) w (Gt y.cells off (new.1.take (Nat.min new.2.1 n*y.sz))) _ 0
       rw[By]
       intro j q V
       rw[Yy (by omega),htl'] at V
       simp only[Aec]
       split at V
       ·obtain⟨u,M,hr⟩:=(v.take _).at V
        refine⟨u,?_,RepC.keep (J:=J new.2.2) (w:=w) (d9 S.jft _ _) (fun _ _=>rfl) hr⟩
        rw[hO,if_pos (by omega),Afg,if_pos (by omega),←M];congr 1;omega
       ·obtain⟨u,M,hr⟩:=(g4.1 c1).at V
        refine⟨u,?_,RepC.keep (J:=J y.taint) (w:=w) (MX S.jft _ _) (fun _ _=>rfl) hr⟩
        rw[hO,if_neg (by omega)];exact M,fun hp=>by simp[c1] at hp⟩ G
      refine⟨.int .i64 (Nat.min new.2.1 n:Nat),_,?_,J,β,B,by rw[Rep]⟩
      simp[Builtin.copy_,run_underlying z,f,Cs l,d,goInt,hst]
 ·rename_i el z
  obtain⟨sz,l,h1⟩:=ub X
  obtain⟨new,us,h2,Y,C,v⟩:=FG (P:=P) S hl h1 hx
  rw[Rep] at hs;subst hs
  have f:=Y.len w
  have d:=Y.cells w 0 (fun _=>rfl) (Agw _)
  simp at d
  refine⟨_,_,h2,.int .i64 0,w,?_,J,β,Step.refl S,by rw[Rep]⟩
  have hm:∀ m:Nat,Nat.min m 0=0:=fun m=>Nat.min_eq_right (Agw _)
  simp[Builtin.copy_,run_underlying z,f,Cs l,hm,d,goInt]
 ·simp at X
theorem lG {t ty:TypeId} {s:AV} {vs:Value} {k:AV→Eh→O R} (S:SimH J β h w) (hl:Looks g h) (hh:VR P g t s k=some r) (hs:Rep J β h w s vs) :
  ∃ val ups,k val ups=some r∧∃ u w',(Builtin.clear_ #[t] ty #[vs]).run P w=.ok u w'∧OpDone J β h w ups val u w':=by
 unfold VR at hh
 split at hh
 ·rename_i el b off n F
  obtain⟨sz,I,h1⟩:=ub hh
  obtain⟨z,hz,h2⟩:=ub h1
  obtain⟨y,hy,h3⟩:=ub h2
  obtain⟨hc,h4⟩:=uc h3
  simp at hc
  obtain⟨c1,c2,c3⟩:=hc
  subst c3
  obtain⟨hb,L⟩:=Do hl hy
  obtain⟨i,v,hi,hv,rfl,hp,e1,e2⟩:=Qk hz
  have M:i.size=y.sz:=by simp[Bq,hi] at I;exact I
  have U:∀ w,(zeroValue el).run P w=.ok v w:=fun w=>by simp[zeroValue,typeInfo,hi,hv]
  have d:=Gn n (Ls v.cells.toList)
  rw[e2,M] at d
  have V:Builtin.zeroCells v.cells n=madeCells v.cells (n*v.cells.size):=rfl
  have X:(Builtin.zeroCells v.cells n).toList.length=n*y.sz:=by rw[V,Agh,size_madeCells,e1,M]
  have Y:RepCs (J y.taint) w (Fe n (Ls v.cells.toList)) (fun j=>(Builtin.zeroCells v.cells n).toList[j]?) 0:=by
   have:=FM (J:=J y.taint) (w:=w) hp n (n*v.cells.size) (Ad4 _)
   rw[←V] at this
   simpa using this
  have hone:=RepCs.one Y (by rw[X,d])
  refine⟨_,_,h4,?_⟩
  rw[Rep] at hs
  obtain⟨y',A,cap,⟨l,m⟩,rfl,hcap,hr⟩:=hs
  rw[hb] at l;simp at l;subst l
  by_cases f:n*y.sz=0
  ·have e0:(Builtin.zeroCells v.cells n).toList=[]:=Agj (by rw[X,f])
   refine⟨.tuple #[],w,?_,J,β,?_,by rw[Rep];exact⟨[],rfl,by rw[Reps]⟩⟩
   ·cases n with
    | zero=>cases A<;>simp[Builtin.clear_,run_underlying F]
    | succ n =>
     cases A with
     | none=>simp[Builtin.clear_,run_underlying F]
     | some a=>simp[Builtin.clear_,run_underlying F,U,e0,storeCells]
   ·have e:Fe n (Ls v.cells.toList)=[]:=Agj (by rw[d,f])
    have T:=Step.retaint S hb L c2 c1 m false
    simp only[Ak]
    rw[e,d_]
    simpa using T
  ·rcases hr with hr | ⟨kk,o,rfl,hr⟩
   ·have:n=0:=by omega
    subst this;simp at f
   ·rcases hr with hr | ⟨r1,r2,r3⟩
    ·simp[L] at hr
    ·rcases S.blk b y hb L m with⟨hn',_⟩ | ⟨k',o',cs,ty',fr,C,g1,g2,g3,g4,g5,g6⟩
     ·rw[r1] at hn';simp at hn'
     ·rw[r1] at C;simp at C;obtain⟨rfl,rfl⟩:=C
      obtain⟨cs',O,hO⟩:=OnlyBlk.setCells (k:=kk) (Builtin.zeroCells v.cells n).toList (o+off) w cs g1
      have hst:=run_storeCells_cells (P:=P) kk (o+off) (Builtin.zeroCells v.cells n).toList 0 w (fun j G=>by
        rw[Afh,Pm g1];simp;omega)
       (fun j G=>by
        rw[Afh];simp only[World.frozen?,g1]
        have:=g2.1.at (o+off+j) (by omega)
        cases fr;simp at this ⊢;omega) (fun u F=>hone u F)
      simp only[Afh] at hst
      have B:=Step.set (x':={ y with cells:=Gt y.cells off (Fe n (Ls v.cells.toList)) }) S hb L c2 r1 O L c2 rfl (Pn (by omega)) ⟨fun _=>by
       show RepCs (J y.taint) w (Gt y.cells off (Fe n (Ls v.cells.toList))) _ 0
       rw[By]
       intro j q G
       rw[Yy (by omega),d] at G
       simp only[Aec]
       split at G
       ·obtain⟨u,D,hr⟩:=Y.at G
        refine⟨u,?_,hr⟩
        rw[hO,if_pos (by omega),←D];congr 1;omega
       ·obtain⟨u,D,hr⟩:=(g4.1 c1).at G
        refine⟨u,?_,hr⟩
        rw[hO,if_neg (by omega)];exact D,fun hp=>by simp[c1] at hp⟩ m
      refine⟨.tuple #[],_,?_,J,β,B,by rw[Rep];exact⟨[],rfl,by rw[Reps]⟩⟩
      cases n with
      | zero=>simp at f
      | succ n=>simp[Builtin.clear_,run_underlying F,U,hst]
 ·simp at hh
theorem O_:∀ {c:LA} {s:Lu} {us:List Value} {J:Nat→Prop},T6 c=some s→RepCs J w c (fun j=>us[j]?) 0→c.length=us.length →
  ∃ ns:List Int,us=ns.map (Value.int .u8)∧s=ns.map (fun n=>UInt8.ofNat n.toNat)
 | [],s,us,J,k,q,t=>by
  simp[T6] at k;subst k
  have:us=[]:=by cases us<;>simp_all
  exact⟨[],by simp[this],rfl⟩
 | x::r,s,us,J,k,q,t=>by
  rw[T6] at k
  obtain⟨b,d,D⟩:=ub k
  obtain⟨l,z,B⟩:=ub D
  simp at B;subst B
  cases us with
  | nil=>simp at t
  | cons u us =>
   rw[RepCs] at q
   obtain⟨⟨L,m,hr⟩,e⟩:=q
   simp at m;subst m
   unfold qT at d
   split at d
   ·rename_i n
    simp at d;subst d
    rw[RepC] at hr;subst hr
    have f:RepCs J w r (fun j=>us[j]?) 0:=by
     rw[By] at e ⊢
     intro j y F
     obtain⟨v,C,A⟩:=e j y F
     refine⟨v,?_,A⟩
     rw[show 0+1+j=j+1 by omega] at C
     simpa using C
    obtain⟨ns,G,I⟩:=O_ z f (by simpa using t)
    exact⟨n::ns,by simp[G],by simp[I]⟩
   ·simp at d
theorem vA:∀ (ns:List Int) (s:Lu),(ns.foldl (fun r n=>r.push (UInt8.ofNat n.toNat)) (⟨⟨s⟩⟩:ByteArray))=⟨⟨s++ns.map fun n=>UInt8.ofNat n.toNat⟩⟩
 | [],s=>by simp
 | n::r,s=>by
  rw[Aeq]
  have:(⟨⟨s⟩⟩:ByteArray).push (UInt8.ofNat n.toNat)=⟨⟨s++[UInt8.ofNat n.toNat]⟩⟩:=by
   simp[ByteArray.push]
  rw[this,vA r];simp
theorem nZ {d:Nat} {src dst:TypeId} {x:AV} {vx:Value} {k:AV→Eh→O R} (S:SimH J β h w) (hl:Looks g h) (f:jX P g d src dst x k=some r) (hx:Rep J β h w x vx) :
  ∃ val ups,k val ups=some r∧(UpsFree d h ups→∃ u w',(convert src dst vx).run P w=.ok u w'∧OpDone J β h w ups val u w'):=by
 unfold jX at f
 split at f
 ·rename_i kd v
  split at f
  ·rename_i kd' n
   rw[Rep] at hx;subst hx
   obtain⟨z,I⟩:=uc f
   obtain⟨s,hs⟩:=Ahh.1 z
   refine⟨_,_,I,fun _=>⟨.int kd (kd.wrap n),w,?_,J,β,Step.refl S,by rw[Rep]⟩⟩
   cases s<;>simp[convert,run_underlying hs,run_underlying v,Conv.intToInt]
  ·simp at f
 ·rename_i v
  split at f
  ·rename_i hs
   split at f
   ·rename_i s
    rw[Rep] at hx;subst hx
    refine⟨_,_,f,fun _=>⟨.string ⟨⟨s⟩⟩,w,?_,J,β,Step.refl S,by rw[Rep]⟩⟩
    simp[convert,run_underlying hs,run_underlying v]
   ·simp at f
  ·rename_i t hs
   split at f
   ·rename_i L
    split at f
    ·simp at f
    ·rename_i hns
     obtain⟨q,hq,I⟩:=ub f
     obtain⟨s,hs',h2⟩:=ub I
     obtain⟨us,Y,hul,hur⟩:=YS (P:=P) S hl hq hx
     obtain⟨ns,e1,e2⟩:=O_ hs' hur hul
     refine⟨_,_,h2,fun _=>⟨.string ⟨⟨s⟩⟩,w,?_,J,β,Step.refl S,by rw[Rep]⟩⟩
     have hv:∃ A n cap,vx=.slice A n cap:=by
      unfold HW at hq
      split at hq
      ·rw[Rep] at hx;exact⟨_,_,_,hx⟩
      ·rw[Rep,RepC] at hx;obtain⟨_,A,cap,rfl,_⟩:=hx;exact⟨_,_,_,rfl⟩
      ·rw[Rep] at hx;obtain⟨_,A,cap,_,rfl,_⟩:=hx;exact⟨_,_,_,rfl⟩
      ·exact absurd rfl (hns _)
      ·simp at hq
     obtain⟨A,n,cap,rfl⟩:=hv
     have hn:q.2.1=n:=by have:=Y.len w;simpa[Builtin.lenOf] using this.symm
     have F:=Y.cells w n (fun _=>rfl) (by omega)
     have M:=Y.length
     rw[hn] at M
     rw[show us.take (n*1)=us by rw[←M,Aga]] at F
     have B:(convert src dst (.slice A n cap)).run P w=(Conv.bytesToString (.slice A n cap)).run P w:=by
      cases A<;>simp[convert,run_underlying hs,run_underlying v,run_underlying L]
     rw[B]
     cases A with
     | none =>
      rw[run_firstCells_none] at F
      injection F with hc1 _
      have hus:us=[]:=by simpa using hc1.symm
      rw[hus] at e1
      have T:ns=[]:=by simpa using e1.symm
      rw[T] at e2
      simp at e2;subst e2
      simp[Conv.bytesToString];rfl
     | some a =>
      simp only[Builtin.firstCells,Aeh] at F
      rw[e1] at F
      rw[run_bytesToString w a n cap ns F,e2]
      have:=vA ns []
      simp at this
      rw[←this];rfl
   ·simp at f
  ·simp at f
 ·rename_i t v
  split at f
  ·rename_i e' b off n hs L
   obtain⟨l,I⟩:=uc f
   simp only[Ad3] at l
   obtain⟨l,U⟩:=l
   have U:1≤n:=by simpa using U
   have l:=Ad8 l
   subst l
   have hee:e'=t:=by rw[hs] at v;simpa using v
   subst hee
   obtain⟨x,m,h2⟩:=ub I
   obtain⟨hsl,h3⟩:=qY h2
   obtain⟨m,hd⟩:=Do hl m
   refine⟨_,_,h3,fun _=>?_⟩
   have hx':=hx
   rw[Rep] at hx
   obtain⟨x0,A,cap,⟨C,V⟩,rfl,hle,hr⟩:=hx
   rw[m] at C;simp at C;subst C
   rcases hr with hr | ⟨X,o1,rfl,hr⟩
   ·omega
   ·rcases hr with hr | ⟨hβ,_,_⟩
    ·simp[hd] at hr
    ·rcases S.blk b x m hd V with⟨G,_⟩ | ⟨k2,o2,cs,ty,fr,G,h5,h6,h7,h8,h9,h10⟩
     ·rw[hβ] at G;simp at G
     ·rw[hβ] at G;simp at G;obtain⟨rfl,rfl⟩:=G
      have hsh:w.shape? X=some (ty,cs.size):=by simp[World.shape?,h5]
      have hnew:∃ D,(w.freeze ⟨X,cs.size,none⟩ 1).heap[X]?=some (.cells cs ty D)∧FrOk cs.size D:=by
       obtain⟨lo,hi⟩:=fr
       refine⟨if lo==hi then (cs.size,cs.size+1) else (min lo cs.size,max hi (cs.size+1)),?_,?_⟩
       ·simp[World.freeze,Afw,h5]
       ·by_cases e:lo=hi
        ·simp[e,FrOk]
        ·have h11:cs.size≤lo:=by rcases h6 with h6 | h6;exact absurd h6 e;exact h6
         simp[e,FrOk];omega
      obtain⟨D,hf1,hf2⟩:=hnew
      have A:=Step.mark S m hd hsl hβ h5 hf1 hf2 (fun j y=>by
       simp only[World.freeze]
       rw[if_neg (by decide)]
       show(w.heap.modify X _)[j]?=_
       rw[Afw,if_neg (fun e=>y e.symm)]) (by simp[World.freeze]) rfl rfl rfl V
      refine⟨_,w.freeze ⟨X,cs.size,none⟩ 1,?_,J,β,A,Rep.ext A.ext hx'⟩
      simp[convert,run_underlying hs,run_underlying L,markStringish,hsh]
  ·rename_i s hs L
   rw[Rep] at hx;subst hx
   refine⟨_,_,f,fun hn=>⟨_,_,run_bytes_of_string (P:=P) w src dst t ⟨⟨s⟩⟩ hs v L,?_⟩⟩
   replace hn:=hn.nid (by simp[Ri,A9])
   have hsz:(⟨⟨s⟩⟩:ByteArray).size=s.length:=rfl
   have hcap:s.length≤grownCap w s.length 0 t:=by unfold grownCap;simp[Question.cut]
   rw[hsz]
   obtain⟨J',β',B1,B2⟩:=SH (d:=d) (n:=s.length) (cap:=grownCap w s.length 0 t) (sz:=1) (ty:=t) (fr:=((bytesRow ⟨⟨s⟩⟩ (grownCap w s.length 0 t)).size,(bytesRow ⟨⟨s⟩⟩ (grownCap w s.length 0 t)).size+1))
    (x:={ dead:=false,sealed:=false,pure:=true,taint:=false,sz:=1,cells:=s.map fun b=>.int .u8 (b.toNat:Int) })
    (cs:=bytesRow ⟨⟨s⟩⟩ (grownCap w s.length 0 t)) (Step.drew S).sim hn rfl rfl rfl (FrOk.un (.inr (Ad4 _))) (by simp) (by simp[bytesRow,hsz];omega) hcap
    ⟨fun _=>by
     show RepCs (J false) w.drew (s.map fun b=>.int .u8 (b.toNat:Int)) _ 0
     rw[By]
     intro j q y
     rw[Afv] at y
     cases hb:s[j]? with
     | none=>rw[hb] at y;simp at y
     | some b =>
      rw[hb] at y;simp at y;subst y
      refine⟨.int .u8 (b.toNat:Int),?_,by rw[RepC]⟩
      have hlt:j<s.length:=(Aed.1 hb).1
      simp only[Aec,bytesRow]
      rw[Agn (by simp;exact hlt)]
      simp[hb],fun hp=>by simp at hp⟩
   exact⟨J',β',(Step.drew S).trans B1 (fun _ k _ _=>by rw[←FN];exact Qj _ _ k),B2⟩
  ·simp at f
 ·simp at f
theorem eA {t:TypeId} {n:Nat} (h:Bq P t=some n):∃ j,P.info? t=some j∧j.size=n:=by
 unfold Bq at h
 cases hq:P.info? t with
 | none=>rw[hq] at h;cases h
 | some j=>rw[hq] at h;simp at h;exact⟨j,rfl,h⟩
theorem lH {d:Nat} {src dst:TypeId} {x:AV} {vx:Value} {k:AV→Eh→O R} (S:SimH J β h w) (D:Looks g h) (f:VS P g d src dst x k=some r) (hx:Rep J β h w x vx) :
  ∃ val ups,k val ups=some r∧(UpsFree d h ups→∃ u w',(convert src dst vx).run P w=.ok u w'∧OpDone J β h w ups val u w'):=by
 unfold VS at f
 split at f
 ·rename_i F
  split at f
  ·rename_i t b off hs
   obtain⟨n,hn,f⟩:=ub f
   obtain⟨y,G,f⟩:=ub f
   obtain⟨A,f⟩:=uc f
   simp at A
   obtain⟨s,l⟩:=Do D G
   have v:=hx
   rw[Rep] at hx
   obtain⟨x1,I,o1,⟨z,gm⟩,rfl,m⟩:=hx
   rw[s] at z;simp at z;subst z
   rcases m with m | m
   ·rw[m] at l;cases l
   obtain⟨j,L,B⟩:=eA hn
   rcases S.blk b y s l gm with⟨e1,C⟩ | ⟨k2,o2,cs,ty,fr,e1,C,e3,e4,T⟩
   ·rw[m] at e1;cases e1
   ·rw[m] at e1;simp at e1;obtain⟨rfl,rfl⟩:=e1
    refine⟨_,_,f,fun _=>⟨_,w,Lib.run_to_unsafe w ⟨I,o1+off,none⟩ hs F L (by rw[B];exact fun e=>by rw[e] at A;simp at A) (e:=ty) (cells:=cs.size) (by simp[World.shape?,C]) (by show o1+off<_;omega),J,β,Step.refl S,v⟩⟩
  ·cases f
 ·rename_i u F
  split at f
  ·rename_i b off hs
   obtain⟨n,hn,f⟩:=ub f
   obtain⟨y,G,f⟩:=ub f
   obtain⟨q,hq,f⟩:=ub f
   obtain⟨A,f⟩:=uc f
   simp at A
   obtain⟨s,l⟩:=Do D G
   have v:=hx
   rw[Rep] at hx
   obtain⟨x1,I,o1,⟨z,gm⟩,rfl,m⟩:=hx
   rw[s] at z;simp at z;subst z
   rcases m with m | m
   ·rw[m] at l;cases l
   obtain⟨j,L,B⟩:=eA hn
   rcases S.blk b y s l gm with⟨e1,C⟩ | ⟨k2,o2,cs,ty,fr,e1,C,e3,e4,T⟩
   ·rw[m] at e1;cases e1
   ·rw[m] at e1;simp at e1;obtain⟨rfl,rfl⟩:=e1
    obtain⟨rfl,rfl,M⟩:=e3.2 q.1 q.2 hq
    have M:cs.size=q.2:=by omega
    refine⟨_,_,f,fun _=>⟨_,w,Lib.run_from_unsafe w ⟨I,0+off,none⟩ hs F L (e:=q.1) (cells:=cs.size) (by simp[World.shape?,C]) (by show liesAt P P.depth q.1 (cs.size/_) (0+off) u 1=true;rw[M,Aec];exact A.2.2),J,β,Step.refl S,v⟩⟩
  ·cases f
 ·exact nZ S D f hx
theorem qa {fn : Func} (d : fn.name = "internal/abi.NoEscape") : Extern.find fn = some Extern.AbiNoEscape.same := by
 have l1 : Extern.allGenericRows.lookup "internal/abi.NoEscape" = none := by kernel_rfl
 have l2 : Extern.allTypedRows.lookup "internal/abi.NoEscape" = none := by kernel_rfl
 have l3 : Extern.allRows.lookup "internal/abi.NoEscape" = some Extern.AbiNoEscape.same := by kernel_rfl
 unfold Extern.find
 simp only[d,l1,l2,l3]
 rfl
theorem eC {fn : Func} (d : fn.name = "internal/abi.NoEscape") (e : fn.origin = "") : Extern.findNext fn = none := by
 have l1 : Extern.allNextRows.lookup "internal/abi.NoEscape" = none := by kernel_rfl
 have l2 : Extern.allNextRows.lookup "" = none := by kernel_rfl
 unfold Extern.findNext
 simp only[d,e,l1,l2]
 rfl
theorem t6 {f:Nat} (h:uu P f=true) (x:Value) (w:World):(callFunc f #[x]).run P w=.ok (.value x) w:=by
 unfold uu at h
 split at h
 ·rename_i fn e
  simp only[Ad3] at h
  obtain⟨j,hn,d⟩:=h
  have hn : fn.name = "internal/abi.NoEscape" := by simpa using hn
  have d : fn.origin = "" := by simpa using d
  rw[run_callFunc_extern e (by rw[hn];decide) j (eC hn d) (qa hn)]
  rfl
 ·cases h
theorem qb {x:AV} {b:UInt8} (h:kg x=some b):x=.int .u8 (b.toNat:Int):=by
 unfold kg at h
 split at h
 ·rename_i n
  obtain⟨e,d⟩:=uc h
  simp at d;subst d
  have:=of_decide_eq_true e
  rw[this]
 ·cases h
theorem JY:∀ {c:LA} {s:Lu},JO c=some s→c=s.map fun b=>.int .u8 (b.toNat:Int)
 | [],s,h=>by simp[JO] at h;subst h;rfl
 | x::r,s,h=>by
  rw[JO] at h
  obtain⟨b,d,h⟩:=ub h
  obtain⟨l,e,h⟩:=ub h
  simp at h;subst h
  rw[qb d,JY e];rfl
theorem V_ {d:Nat} {ts:Array TypeId} {ty:TypeId} {x:AV} {vx:Value} {k:AV→Eh→O R} (S:SimH J β h w) (q:Looks g h) (e:Tc g x k=some r) (hx:Rep J β h w x vx) :
  ∃ val ups,k val ups=some r∧(UpsFree d h ups→∃ u w',(Builtin.unsafeSliceData_ ts ty #[vx]).run P w=.ok u w'∧OpDone J β h w ups val u w'):=by
 unfold Tc at e
 split at e
 ·rw[Rep] at hx;subst hx
  exact⟨_,_,e,fun _=>⟨.pointer none,w,rfl,J,β,Step.refl S,by rw[Rep]⟩⟩
 ·rename_i b off n
  obtain⟨y,s,e⟩:=ub e
  obtain⟨hn,e⟩:=uc e
  have hn:0<n:=by simpa using hn
  obtain⟨j,l⟩:=Do q s
  rw[Rep] at hx
  obtain⟨z,A,cap,⟨m,gm⟩,rfl,v,f⟩:=hx
  rw[j] at m;simp at m;subst m
  rcases f with f | ⟨t,o1,rfl,f⟩
  ·omega
  rcases f with f | ⟨f,_⟩
  ·rw[f] at l;cases l
  refine⟨_,_,e,fun _=>⟨_,w,Lib.run_unsafeSliceData_row w ts ty _ n cap (by omega),J,β,Step.refl S,?_⟩⟩
  rw[Rep]
  exact⟨y,t,o1,⟨j,gm⟩,rfl,.inr f⟩
 ·cases e
theorem V' {d:Nat} {t it ty:TypeId} {x n:AV} {vx vn:Value} {k:AV→Eh→O R} (S:SimH J β h w) (hl:Looks g h) (f:Td P g t x n k=some r) (hx:Rep J β h w x vx) (M:Rep J β h w n vn) :
  ∃ val ups,k val ups=some r∧(UpsFree d h ups→∃ u w',(Builtin.unsafeString_ #[t,it] ty #[vx,vn]).run P w=.ok u w'∧OpDone J β h w ups val u w'):=by
 unfold Td at f
 split at f
 ·rename_i n
  obtain⟨hn,f⟩:=uc f
  have hn:n=0:=by simpa using hn
  subst hn
  simp only[Rep] at hx M;subst hx M
  exact⟨_,_,f,fun _=>⟨_,w,Lib.run_unsafeString_none w t it ty none,J,β,Step.refl S,by rw[Rep];rfl⟩⟩
 ·rename_i b off n
  obtain⟨y,hy,f⟩:=ub f
  obtain⟨q,hq,f⟩:=ub f
  split at f
  ·rename_i e he
   obtain⟨hc,f⟩:=uc f
   obtain⟨s,hs,hk⟩:=ub f
   simp only[Ad3,Ahc,decide_eq_true_eq] at hc
   obtain⟨c1,X,c3,c4,Y,c6,c7,c8⟩:=hc
   have c1:=Ad8 c1
   have X:=Ad8 X
   have Y:=Ad8 Y
   obtain⟨m,v⟩:=Do hl hy
   simp only[Rep] at hx M;subst M
   obtain⟨z,F,o1,⟨g1,gm⟩,rfl,B⟩:=hx
   rw[m] at g1;simp at g1;subst g1
   rcases B with B | B
   ·rw[B] at v;cases v
   rcases S.blk b y m v gm with⟨e1,D⟩ | ⟨k2,o2,cs,ty2,fr,e1,D,e3,e4,e5,e6⟩
   ·rw[B] at e1;cases e1
   rw[B] at e1;simp at e1;obtain⟨rfl,rfl⟩:=e1
   obtain⟨rfl,rfl,_⟩:=e3.2 q.1 q.2 hq
   subst Y
   have hsl:s.length=n.toNat:=by
    have:=congrArg List.length (JY hs)
    simp at this;omega
   have hsn:(n:Int)=(s.length:Int):=by omega
   subst hsn
   refine⟨_,_,hk,fun _=>⟨.string ⟨s.toArray⟩,w.freeze ⟨F,0,none⟩ s.length,?_,J,β,?_,by rw[Rep]⟩⟩
   ·refine Lib.run_unsafeString_row w t it ty q.1 (by rw[c1];exact he) (by rw[c1];exact X) F cs.size (by simp[World.shape?,D]) s (by intro e;subst e;simp at c6) (by omega) (by omega) fun j x T=>?_
    have hjl:j<s.length:=(Aed.1 T).1
    have C:y.cells[j]?=some (.int .u8 (x.toNat:Int)):=by
     have U:(y.cells.take (s.length:Int).toNat)[j]?=some (.int .u8 (x.toNat:Int)):=by rw[JY hs];simp[T]
     rw[Afg] at U
     split at U
     ·exact U
     ·cases U
    obtain⟨u,A,G⟩:=By.1 (e5.1 c3) j _ C
    rw[RepC] at G;subst G
    have A:cs[j]?=some (.int .u8 (x.toNat:Int)):=by simpa using A
    by_cases ej:j=0
    ·subst ej;simp[World.cell?,Addr.add,D,A]
    ·simp[World.cell?,Addr.add,D,ej,A]
   ·have ap:Ak [(b,none)] h=Fx h b { y with dead:=true,pure:=true,cells:=[] }:=by simp[Ak,m]
    rw[ap]
    have l:s.length≠0:=by omega
    refine Step.giveUp S m v c4 B gm rfl (fun j T=>?_) (by simp[World.freeze,l]) (by simp[World.freeze,l]) (by simp[World.freeze,l]) (by simp[World.freeze,l]) ?_
    ·simp only[World.freeze]
     rw[if_neg l]
     show(w.heap.modify F _)[j]?=_
     rw[Afw,if_neg (fun e=>T e.symm)]
    ·obtain⟨lo,hi⟩:=fr
     have I:∃ L,(w.freeze ⟨F,0,none⟩ s.length).heap[F]?=some (.cells cs q.1 L):=⟨_,by simp[World.freeze,l,Afw,D];rfl⟩
     obtain⟨L,hf⟩:=I
     rw[Fg D,Fg hf];exact Ad4 _
  ·cases f
 ·cases f
end
end Gx
namespace Gx
open Go
def DG (CR:AV→Value→Prop) (c:LA) (cs:List Value):Prop:=c.length=cs.length∧∀ (j:Nat) (x:AV) (u:Value),c[j]?=some x→cs[j]?=some u→CR x u
def PartsRel (CR:AV→Value→Prop):List (Nat×LA)→List (Nat×Value)→Prop
 | [],vs=>vs=[]
 | (i,c)::r,vs=>∃ v vs',vs=(i,v)::vs'∧DG CR c v.cells.toList∧PartsRel CR r vs'
theorem sZ:∀ (vs:List Value) (n off:Nat) (cells:Array Value) (j:Nat),
  ((vs.zipIdx n).foldl (fun (cs:Array Value) (p:Value×Nat)=>cs.setIfInBounds (off+p.2) p.1) cells)[j]?=if off+n≤j∧j<off+n+vs.length∧j<cells.size then vs[j - (off+n)]? else cells[j]?
 | [],n,off,cells,j=>by simp;omega
 | v::r,n,off,cells,j=>by
  rw[List.zipIdx_cons,Aeq,sZ r (n+1) off]
  simp only[Ahg,Adx]
  by_cases e:j=off+n
  ·subst e
   rw[if_neg (by omega)]
   by_cases d:off+n<cells.size
   ·rw[if_pos (by omega)];simp[d]
   ·rw[if_neg (by omega)];simp[d]
  ·by_cases d:off+(n+1)≤j∧j<off+(n+1)+r.length∧j<cells.size
   ·rw[if_pos d,if_pos (by omega),show j - (off+n)=(j - (off+(n+1)))+1 by omega];simp
   ·rw[if_neg d,if_neg (by omega),Agy (by omega)]
theorem SI:∀ (vs:List Value) (n off:Nat) (cells:Array Value),((vs.zipIdx n).foldl (fun (cs:Array Value) (p:Value×Nat)=>cs.setIfInBounds (off+p.2) p.1) cells).size=cells.size
 | [],_,_,_=>rfl
 | v::r,n,off,cells=>by rw[List.zipIdx_cons,Aeq,SI r];simp
theorem Y0 {CR:AV→Value→Prop} {place:Nat→Option (Nat×Nat)}:∀ {parts:List (Nat×LA)} {vparts:List (Nat×Value)} {c n:LA} {cs:Array Value},PartsRel CR parts vparts→DG CR c cs.toList →
  O6 place parts c=some n→∃ d,Instr.fill place cs vparts=some d∧DG CR n d.toList
 | [],vparts,c,n,cs,k,s,l=>by
  rw[PartsRel] at k;subst k
  simp[O6] at l;subst l
  exact⟨cs,rfl,s⟩
 | (i,vs)::r,vparts,c,n,cs,k,s,l=>by
  rw[PartsRel] at k
  obtain⟨v,A,rfl,y,hr⟩:=k
  rw[O6] at l
  obtain⟨p,t,B⟩:=ub l
  obtain⟨z,C⟩:=uc B
  simp at z
  obtain⟨L,M⟩:=z
  have e1:vs.length=v.cells.size:=by have:=y.1;simpa using this
  have D:c.length=cs.size:=by have:=s.1;simpa using this
  have m:p.1+vs.length≤c.length:=by omega
  have key:DG CR (setCells c p.1 vs) (v.cells.zipIdx.foldl (fun (cs:Array Value) (q:Value×Nat)=>cs.setIfInBounds (p.1+q.2) q.1) cs).toList:=by
   have e:v.cells.zipIdx.foldl (fun (cs:Array Value) (q:Value×Nat)=>cs.setIfInBounds (p.1+q.2) q.1) cs=(v.cells.toList.zipIdx 0).foldl (fun (cs:Array Value) (q:Value×Nat)=>cs.setIfInBounds (p.1+q.2) q.1) cs:=by
    rw[←Array.foldl_toList];simp
   rw[e]
   refine⟨by rw[P8 m,D];exact(SI _ 0 _ _).symm,fun j x u hx f=>?_⟩
   rw[FJ m] at hx
   rw[Ahr,sZ] at f
   simp only[Afh,Agh] at f
   split at hx
   ·rename_i F
    rw[if_pos (by omega)] at f
    exact y.2 _ x u hx f
   ·rename_i F
    rw[if_neg (by omega)] at f
    exact s.2 j x u hx (by simpa using f)
  obtain⟨d,G,I⟩:=Y0 hr key C
  refine⟨d,?_,I⟩
  rw[Instr.fill,t]
  have:¬ (v.cells.size≠p.2||p.1+v.cells.size>cs.size)=true:=by simp;omega
  simp only[this]
  exact G
section
variable {R:Type} {r:R} {P:Program} {J J':Bool→Nat→Prop} {β:Ch} {h:Aw} {w w':World} {g:Bg}
def RepParts (J:Bool→Nat→Prop) (β:Ch) (h:Aw) (w:World):List (Nat×AV)→List (Nat×Value)→Prop
 | [],vs=>vs=[]
 | (i,x)::r,vs=>∃ v vs',vs=(i,v)::vs'∧Rep J β h w x v∧RepParts J β h w r vs'
theorem RepParts.ext {β':Ch} {h':Aw} (E:Ext J β h w J' β' h' w'):∀ {ps:List (Nat×AV)} {vs:List (Nat×Value)},RepParts J β h w ps vs→RepParts J' β' h' w' ps vs
 | [],_,hr=>hr
 | (i,x)::r,vs,hr=>by
  rw[RepParts] at hr ⊢
  obtain⟨v,d,e,f,j⟩:=hr
  exact⟨v,d,e,Rep.ext E f,RepParts.ext E j⟩
theorem PartsRel.mono {CR CR':AV→Value→Prop} (f:∀ x u,CR x u→CR' x u):∀ {ps:List (Nat×LA)} {vs:List (Nat×Value)},PartsRel CR ps vs→PartsRel CR' ps vs
 | [],_,hr=>hr
 | (i,c)::r,vs,hr=>by
  rw[PartsRel] at hr ⊢
  obtain⟨v,d,e,k,l⟩:=hr
  exact⟨v,d,e,⟨k.1,fun j x u hx m=>f _ _ (k.2 j x u hx m)⟩,PartsRel.mono f l⟩
theorem Uc {J:Nat→Prop} {c:LA} {us:List Value} (e:RepCs J w c (fun j=>us[j]?) 0) (f:c.length=us.length):DG (RepC J w) c us :=
 ⟨f,fun j x u hx k=>by
  obtain⟨l,d,hr⟩:=e.at hx
  rw[k] at d;simp at d;subst d;exact hr⟩
theorem CD {J:Nat→Prop} {c:LA} {us:List Value} (d:DG (RepC J w) c us):RepCs J w c (fun j=>us[j]?) 0:=by
 rw[By]
 intro j x hx
 have:j<us.length:=by rw[←d.1];exact(Aed.1 hx).1
 exact⟨us[j],by simp[this],d.2 j x _ hx (Ad1 this)⟩
theorem Wd:∀ {ps:List (Nat×AV)} {vs:List (Nat×Value)} {q:List (Nat×LA)} {ups:Eh} {org:Bool} {J:Bool→Nat→Prop} {h:Aw},SimH J β h w→LooksS g h→Yl g ps=some (q,ups,org)→RepParts J β h w ps vs →
  ∃ J',Step J β h w J' β (Ak ups h) w∧PartsRel (RepC (J' org) w) q vs∧LooksS g (Ak ups h)∧∀ b,A9 ups b=true→∃ x,g b=some x
 | [],vs,q,ups,org,J,h,S,l,d,e=>by
  simp[Yl] at d;obtain⟨rfl,rfl,rfl⟩:=d
  rw[RepParts] at e
  exact⟨J,Step.refl S,by rw[PartsRel];exact e,l,fun b f=>by simp[A9] at f⟩
 | (i,x)::r,vs,q,ups,org,J,h,S,l,d,e=>by
  rw[Yl] at d
  obtain⟨⟨c1,u1,o1⟩,D,I⟩:=ub d
  obtain⟨⟨L,u2,o2⟩,hq,F⟩:=ub I
  simp at F
  obtain⟨rfl,rfl,rfl⟩:=F
  rw[RepParts] at e
  obtain⟨v,m,rfl,n,s⟩:=e
  obtain⟨J1,A,hA,j,t⟩:=H_ S l D n
  obtain⟨J2,B,hB,y,z⟩:=Wd A.sim t hq (RepParts.ext A.ext s)
  refine⟨J2,by rw[Cn];exact A.trans B (fun _ _ _ _=>Ad4 _),?_,by rw[Cn];exact y,fun b f=>?_⟩
  ·rw[PartsRel]
   refine⟨v,m,rfl,Uc (RepCs.keep (J:=J1 o1) (w:=w) (fun k C=>MX B.sim.jft _ _ k (B.ext.jsub _ k C)) (fun _ _=>rfl) (fun _=>rfl) hA) j,?_⟩
   exact PartsRel.mono (fun x u hx=>RepC.keep (J:=J2 o2) (w:=w) (fun k C=>d9 B.sim.jft _ _ k C) (fun _ _=>rfl) hx) hB
  ·rw[Ib] at f
   cases G:A9 u1 b with
   | true=>exact iL D b G
   | false=>rw[G] at f;exact z b (by simpa using f)
theorem Vc {place:Nat→Option (Nat×Nat)} {k:LA→O R}:∀ (ps:List (Nat×LA)) (c:LA),YJ place ps c k=(O6 place ps c).bind k
 | [],c=>rfl
 | (i,vs)::r,c=>by
  rw[YJ,O6,Adz]
  congr 1;funext p
  rw[Vc r]
  cases (beq vs.length p.2&&ble (p.1+p.2) c.length)<;>rfl
theorem SK {d len:Nat} {t:TypeId} {ps:List (Nat×AV)} {vs:List (Nat×Value)} {k:AV→Eh→O R} (S:SimH J β h w) (U:Looks g h) (y:Qv P g d t len ps k=some r) (hv:RepParts J β h w ps vs) :
  ∃ val ups,k val ups=some r∧(UpsFree d h ups→∃ u w',(Instr.buildSlice t len vs.toArray).run P w=.ok u w'∧OpDone J β h w ups val u w'):=by
 unfold Qv at y
 split at y
 ·rename_i el V
  obtain⟨sz,e,h1⟩:=ub y
  obtain⟨zz,hz,h2⟩:=ub h1
  obtain⟨⟨q,u1,o1⟩,hq,h3⟩:=ub h2
  obtain⟨hb,X⟩:=uc h3
  rw[Vc] at X
  obtain⟨cells,Y,h5⟩:=ub X
  simp at hb
  obtain⟨i,z,hi,C,rfl,D,e1,e2⟩:=Qk hz
  have f:i.size=sz:=by simp[Bq,hi] at e;exact e
  refine⟨_,_,h5,fun hn=>?_⟩
  replace hn:=hn.nid (by simp[Ib,Ri,A9])
  obtain⟨J1,A,hA,_,n⟩:=Wd S U.s hq hv
  have F:=FM (w:=w) (J:=J1 o1) D len (len*sz) (by rw[e1,f];exact Ad4 _)
  have G:DG (RepC (J1 o1) w) (Fe len (Ls z.cells.toList)) (madeCells z.cells (len*sz)).toList:=by
   refine Uc (RepCs.keep (J:=J1 o1) (w:=w) (fun _ I=>I) (fun _ _=>rfl) (fun j=>by simp) F) ?_
   rw[Gn,e2,f,Agh,size_madeCells]
  obtain⟨l,f1,f2⟩:=Y0 hA G Y
  have v:cells.length=len*sz:=by
   have:∀ {ps:List (Nat×LA)} {c B:LA},O6 (fun i=>some (i*sz,sz)) ps c=some B→B.length=c.length:=by
    intro ps
    induction ps with
    | nil=>intro c B x;simp[O6] at x;rw[x]
    | cons p r ih =>
     intro c B x
     obtain⟨i,vs⟩:=p
     rw[O6] at x
     obtain⟨p,hpl,g1⟩:=ub x
     obtain⟨gb,g2⟩:=uc g1
     simp at gb
     rw[ih g2,P8 (by omega)]
   rw[this Y,Gn,e2,f]
  have hcs:l.size=len*sz:=by have:=f2.1;simp at this;omega
  refine⟨.slice (some ⟨w.heap.size,0,none⟩) len len,w.alloc (.cells l el),?_,?_⟩
  ·have m:Instr.fill (fun i=>some (i*sz,sz)) ((Array.range (len*sz)).map (z.cells[·%z.cells.size]!)) vs=some l:=f1
   have L:¬ (16777216<len*sz):=by omega
   by_cases M:len*sz=0
   ·have T:∀ (a:Array Value),(Array.range (len*sz)).map (a[·%a.size]!)=#[]:=fun a=>by rw[M];simp[Array.range_zero']
    rw[T] at m
    simp[Instr.buildSlice,run_underlying V,Cs e,M,Array.range_zero',m,newRow]
   ·simp[Instr.buildSlice,run_underlying V,Cs e,L,M,zeroValue,typeInfo,hi,C,m,newRow]
  ·refine OpDone.after A (SH (sz:=sz) (fr:=(0,0)) A.sim (sY U n hn) rfl rfl rfl FrTy.un0 v (by omega) (Ad4 _) ⟨fun _=>?_,fun D=>by simp at D⟩) (Qj _ _)
   have:=CD f2
   exact RepCs.keep (J:=J1 o1) (w:=w) (fun _ I=>I) (fun _ _=>rfl) (fun j=>by simp) this
 ·simp at y
theorem QI {t:TypeId} {ps:List (Nat×AV)} {k:AV→O R}:ke P t ps k=(kc P t ps).bind k:=by
 unfold ke kc
 rw[Adz]
 congr 1;funext place
 cases (ps.all fun p=>JN p.2) with
 | false=>rfl
 | true =>
  simp only[cond_true]
  cases (ps.any fun p=>E' p.2) with
  | true =>
   simp only[cond_true]
   cases (ps.any fun p=>dU p.2) with
   | true =>
    simp only[cond_true]
    rw[Adz]
    congr 1;funext z
    rw[Vc]
    cases O6 place (Kn ps) z<;>rfl
   | false =>
    simp only[cond_false]
    rw[Adz]
    congr 1;funext z
    rw[Vc]
    cases O6 place (Gg ps) z<;>rfl
  | false =>
   simp only[cond_false]
   rw[Adz]
   congr 1;funext z
   rw[Vc]
   cases O6 place (Gg ps) z<;>rfl
theorem vB {x:AV} {u:Value} (hr:RepC (fun _=>False) w x u):Rep J β h w x u:=by
 have d:∀ o:Bool,RepC (J o) w x u:=fun o=>RepC.keep (J:=fun _=>False) (w:=w) (fun _ e=>e.elim) (fun _ _=>rfl) hr
 cases x
 case imm c n sz t org=>rw[Rep];exact d org
 case iptr c org=>rw[Rep];exact d org
 case fn f c =>
  cases c with
  | nil=>rw[RepC] at hr;subst hr;rw[Rep];exact⟨[],by simp,by rw[Reps]⟩
  | cons a l=>simp[RepC] at hr
 all_goals first | (rw[RepC] at hr;rw[Rep];exact hr) | simp[RepC] at hr
theorem WA {d len:Nat} {t:TypeId} {ps:List (Nat×AV)} {vs:List (Nat×Value)} {k:AV→Eh→O R} (S:SimH J β h w) (I:Tb P g d t len ps k=some r) (s:RepParts J β h w ps vs) :
  ∃ val ups,k val ups=some r∧(UpsFree d h ups→∃ u w',(Instr.buildSlice t len vs.toArray).run P w=.ok u w'∧OpDone J β h w ups val u w'):=by
 unfold Tb at I
 split at I
 ·rename_i el q
  obtain⟨sz,l,L⟩:=ub I
  obtain⟨zz,hz,T⟩:=ub L
  obtain⟨U,h4⟩:=uc T
  obtain⟨cells,hc,h5⟩:=ub h4
  simp at U
  obtain⟨rfl,U,V⟩:=U
  obtain⟨i,z,hi,X,rfl,Y,e1,e2⟩:=Qk hz
  have A:i.size=1:=by simp[Bq,hi] at l;exact l
  refine⟨_,_,h5,fun hn=>?_⟩
  replace hn:=hn.nid (by simp[Ri,A9])
  have hz0:=FM (w:=w) (J:=fun _=>False) Y len (len*1) (by rw[e1,A];exact Ad4 _)
  have hz1:DG (fun x u=>Rep J β h w x u∧u.oneCell'=true) (Fe len (Ls z.cells.toList)) (madeCells z.cells (len*1)).toList:=by
   have hl:DG (RepC (fun _=>False) w) (Fe len (Ls z.cells.toList)) (madeCells z.cells (len*1)).toList:=by
    refine Uc (RepCs.keep (J:=fun _=>False) (w:=w) (fun _ hk=>hk) (fun _ _=>rfl) (fun j=>by simp) hz0) ?_
    rw[Gn,e2,A,Agh,size_madeCells]
   exact⟨hl.1,fun j x u hx q=>⟨vB (hl.2 j x u hx q),SG (hl.2 j x u hx q)⟩⟩
  have m:∀ {ps:List (Nat×AV)} {vs:List (Nat×Value)},Od g (ps.map (·.2))=true→RepParts J β h w ps vs→PartsRel (fun x u=>Rep J β h w x u∧u.oneCell'=true) (ps.map fun p=>(p.1,[p.2])) vs:=by
   intro ps
   induction ps with
   | nil=>intro vs _ s;rw[RepParts] at s;rw[Aem,PartsRel];exact s
   | cons p r ih =>
    obtain⟨i,x⟩:=p
    intro vs hs s
    rw[RepParts] at s
    obtain⟨v,vs',rfl,L,T⟩:=s
    simp[Od] at hs
    rw[Ad5,PartsRel]
    refine⟨v,vs',rfl,?_,ih (by simpa using hs.2) T⟩
    have ho:=Og hs.1 L
    have n:v.cells=#[v]:=by cases v<;>simp_all[Value.cells,Value.oneCell']
    rw[n]
    refine⟨rfl,fun j y u hy q=>?_⟩
    cases j with
    | zero=>simp at hy q;subst hy q;exact⟨L,ho⟩
    | succ j=>simp at hy
  obtain⟨e,f1,f2⟩:=Y0 (m V s) hz1 hc
  have B:cells.length=len*1:=by
   have:∀ {ps:List (Nat×LA)} {c M:LA},O6 (fun i=>some (i*1,1)) ps c=some M→M.length=c.length:=by
    intro ps
    induction ps with
    | nil=>intro c M C;simp[O6] at C;rw[C]
    | cons p r ih =>
     intro c M C
     obtain⟨i,vs⟩:=p
     rw[O6] at C
     obtain⟨p,hpl,g1⟩:=ub C
     obtain⟨gb,g2⟩:=uc g1
     simp at gb
     rw[ih g2,P8 (by omega)]
   rw[this hc,Gn,e2,A]
  have hcs:e.size=len*1:=by have:=f2.1;simp at this;omega
  refine⟨.slice (some ⟨w.heap.size,0,none⟩) len len,w.alloc (.cells e el),?_,?_⟩
  ·have f:Instr.fill (fun i=>some (i*1,1)) ((Array.range (len*1)).map (z.cells[·%z.cells.size]!)) vs=some e:=f1
   have D:¬ (16777216<len*1):=by omega
   by_cases F:len*1=0
   ·have hme:∀ (a:Array Value),(Array.range (len*1)).map (a[·%a.size]!)=#[]:=fun a=>by rw[F];simp[Array.range_zero']
    rw[hme] at f
    simp only[Aeh] at F
    simp[Instr.buildSlice,run_underlying q,Cs l,F,Array.range_zero',newRow]
    simp at f
    simp[f]
   ·simp only[Aeh] at f F D
    simp[Instr.buildSlice,run_underlying q,Cs l,D,F,zeroValue,typeInfo,hi,X,f,newRow]
  ·refine SH (sz:=1) (fr:=(0,0)) S hn rfl rfl rfl FrTy.un0 B (by omega) (Ad4 _) ⟨fun Y=>by simp at Y,fun _ j y hj=>?_⟩
   have G:j<e.size:=by have:=(Aed.1 hj).1;simp at this;omega
   have:=f2.2 j y e[j] hj (by simp[G])
   exact⟨e[j],by simp[G],this.1,this.2⟩
 ·simp at I
theorem Ud {d:Nat}:∀ {l:List (Nat×Nat)} {j:Nat} {c:LA} {cs:List Value} {β:Ch} {h:Aw},SimH J β h w→1≤j→j+l.length≤16→(∀ i,j≤i→i<16→A9 (Gu d l j c).2 (nid d+i)=true→Al h (nid d+i)=none)→Reps J β h w c cs →
  ∃ β',Step J β h w J β' (Ak (Gu d l j c).2 h) w∧Reps J β' (Ak (Gu d l j c).2 h) w (Gu d l j c).1 cs
 | [],j,c,cs,β,h,S,_,_,_,hr=>⟨β,Step.refl S,hr⟩
 | (o,sz)::l,j,c,cs,β,h,S,I,C,n,hr=>by
  rw[Gu] at n ⊢
  split
  ·rename_i q
   simp only[q] at n
   simp at C
   have G:Al h (nid d+j)=none:=n j (Ad4 _) (by omega) (by simp[A9])
   have A:=Step.newNone S (d:=nid d+j) (x:=Gq sz) G rfl
   have f:=Reps.ext A.ext hr
   rw[Cg] at f
   have t:Reps J (fun b=>if b=nid d+j then none else β b) (Fx h (nid d+j) (Gq sz)) w (c.set o (.own (nid d+j) 0 0)) cs:=by
    rw[Cg]
    refine⟨by rw[f.1];simp,fun i y u s D=>?_⟩
    by_cases hi:i=o
    ·subst hi
     have v:i<c.length:=(Aed.1 q).1
     rw[List.getElem?_set_self v] at s;simp at s;subst s
     have F:=f.2 i _ u q D
     rw[Rep] at F;subst F
     rw[Rep]
     exact⟨Gq sz,none,0,⟨by simp[Af],rfl⟩,rfl,Ad4 _,.inl rfl⟩
    ·rw[List.getElem?_set_ne (by omega)] at s
     exact f.2 i y u s D
   obtain⟨β',B,hB⟩:=Ud (d:=d) (l:=l) (j:=j+1) A.sim (by omega) (by omega) (fun i hi k m=>by
    have:=n i (by omega) k (by
     rw[A9]
     have:beq (nid d+j) (nid d+i)=false:=IT (by omega)
     rw[this];exact m)
    rw[Af,if_neg (by omega)];exact this) t
   exact⟨β',by simp only[Ak];exact A.trans B (fun _ _ _ _=>Ad4 _),by simp only[Ak];exact hB⟩
  ·rename_i q
   have e:Gu d ((o,sz)::l) j c=Gu d l (j+1) c:=by
    rw[Gu]
    split
    ·rename_i z;exact absurd z (q ·)
    ·rfl
   simp at C
   split at n
   ·rename_i z;exact absurd z (q ·)
   ·exact Ud S (by omega) (by omega) (fun i hi k m=>n i (by omega) k m) hr
theorem qc {t:TypeId} {co:Bool} {d:Nat} {v:AV} {vc:Value} {k:AV→Eh→O R} (S:SimH J β h w) (e:tU P t co d v k=some r) (f:Rep J β h w v vc) :
  ∃ val ups,k val ups=some r∧(UpsFree d h ups→OpDone J β h w ups val vc w):=by
 unfold tU at e
 split at e
 ·rename_i c
  obtain⟨n,q⟩:=uc e
  refine⟨_,_,q,fun s=>?_⟩
  rw[Rep] at f
  obtain⟨cs,rfl,hr⟩:=f
  obtain⟨β',A,hA⟩:=Ud (d:=d) (l:=Rj P t) (j:=1) S (Ad4 _) (by simp at n;omega) (fun i hi u m=>s _ m (by unfold DD;simp;omega)) hr
  exact⟨J,β',A,by rw[Rep];exact⟨cs,rfl,hA⟩⟩
 ·exact⟨_,_,e,fun _=>⟨J,β,Step.refl S,f⟩⟩
theorem YV {x:AV} {v:Value} (d:Rep J β h w x v) (m:E' x=false) (f:JN x=true):DG (Rep J β h w) (cellsOf x) v.cells.toList:=by
 have one:v.cells=#[v]→cellsOf x=[x]→DG (Rep J β h w) (cellsOf x) v.cells.toList:=fun n e=>by
  rw[n,e]
  refine⟨rfl,fun j y u k l=>?_⟩
  cases j with
  | zero=>simp at k l;subst k l;exact d
  | succ j=>simp at k
 cases x
 case pagg=>simp[E'] at m
 case agg c =>
  rw[Rep] at d
  obtain⟨cs,rfl,e⟩:=d
  rw[Cg] at e
  exact⟨e.1.symm,e.2⟩
 case tup c=>simp[JN] at f
 case undef=>simp[JN] at f
 case omap=>simp[JN] at f
 case own=>rw[Rep] at d;obtain⟨_,A,cap,_,rfl,_⟩:=d;exact one rfl rfl
 case optr=>rw[Rep] at d;obtain⟨_,kk,o,_,rfl,_⟩:=d;exact one rfl rfl
 case fn=>rw[Rep] at d;obtain⟨cs,rfl,_⟩:=d;exact one rfl rfl
 case imm=>rw[Rep,RepC] at d;obtain⟨_,A,cap,rfl,_⟩:=d;exact one rfl rfl
 case iptr=>rw[Rep,RepC] at d;obtain⟨a,rfl,_⟩:=d;exact one rfl rfl
 all_goals (rw[Rep] at d;subst d;exact one rfl rfl)
theorem j7 {x:AV} {v:Value} (f:∀ k,J false k→J true k) (e:Rep J β h w x v) (hr:QE x=false) {o:Bool} (j:k_ x=true→o=true):RepC (J o) w x v:=by
 cases x<;>simp[QE] at hr
 case imm c n sz t org =>
  rw[Rep] at e
  refine RepC.keep (J:=J org) (w:=w) (fun k d=>?_) (fun _ _=>rfl) e
  cases org
  ·cases o
   ·exact d
   ·exact f k d
  ·rw[j rfl];exact d
 case iptr c org =>
  rw[Rep] at e
  refine RepC.keep (J:=J org) (w:=w) (fun k d=>?_) (fun _ _=>rfl) e
  cases org
  ·cases o
   ·exact d
   ·exact f k d
  ·rw[j rfl];exact d
 all_goals (rw[Rep] at e;rw[RepC];exact e)
theorem lI {x:AV} {v:Value} (m:∀ k,J false k→J true k) (f:Rep J β h w x v) (hr:dU x=false) {o:Bool} (n:YK x=true→o=true):DG (RepC (J o) w) (cellsOf x) v.cells.toList:=by
 have one:QE x=false→cellsOf x=[x]→YK x=k_ x→DG (RepC (J o) w) (cellsOf x) v.cells.toList:=fun C d q=>by
  have A:=j7 (o:=o) m f C (by rw[←q];exact n)
  have s:v.cells=#[v]:=by have:=SG A;cases v<;>simp_all[Value.cells,Value.oneCell']
  rw[s,d]
  refine⟨rfl,fun j y u e l=>?_⟩
  cases j with
  | zero=>simp at e l;subst e l;exact A
  | succ j=>simp at e
 cases x
 case pagg c org =>
  rw[Rep] at f
  obtain⟨cs,rfl,s,d⟩:=f
  refine Uc (RepCs.keep (J:=J org) (w:=w) (fun k t=>?_) (fun _ _=>rfl) (fun j=>by simp[Value.cells]) d) (by simp[Value.cells,cellsOf,s])
  cases org
  ·cases o
   ·exact t
   ·exact m k t
  ·rw[n rfl];exact t
 case agg c =>
  rw[Rep] at f
  obtain⟨cs,rfl,d⟩:=f
  rw[Cg] at d
  refine⟨d.1.symm,fun j y u e l=>?_⟩
  simp only[dU,Ahd] at hr
  have B:y ∈ c:=Ag1 e
  have z:QE y=false:=by simpa using hr y B
  refine j7 m (d.2 j y u e l) z (fun q=>n ?_)
  rw[YK,List.any_eq_true];exact⟨y,B,q⟩
 all_goals first | exact one hr rfl rfl | simp[dU,QE] at hr
theorem t7 {o:Bool} {x:AV} {v:Value} (hr:RepC (J o) w x v):Rep J β h w (nN o x) v:=by
 cases x
 case imm=>rw[nN,Rep];rw[RepC] at hr ⊢;exact hr
 case iptr=>rw[nN,Rep];rw[RepC] at hr ⊢;exact hr
 case fn f c =>
  cases c with
  | nil=>rw[RepC] at hr;subst hr;show Rep J β h w (.fn f []) _;rw[Rep];exact⟨[],by simp,by rw[Reps]⟩
  | cons a b=>simp[RepC] at hr
 all_goals first | (rw[RepC] at hr;unfold nN;rw[Rep];exact hr) | (simp[RepC] at hr)
theorem qd {x:AV} {v:Value} (f:Rep J β h w x v) (m:JN x=true):DG (Rep J β h w) (dV x) v.cells.toList:=by
 cases k:E' x with
 | false =>
  have:=YV f k m
  cases x<;>first | exact this | simp[E'] at k
 | true =>
  cases x<;>simp[E'] at k
  rename_i c o
  rw[Rep] at f
  obtain⟨cs,rfl,n,q⟩:=f
  refine⟨by simp[dV,Value.cells,n],fun j y u e l=>?_⟩
  simp only[dV,Afv] at e
  cases hx:c[j]? with
  | none=>rw[hx] at e;simp at e
  | some x0 =>
   rw[hx] at e;simp at e;subst e
   obtain⟨s,d,hr⟩:=q.at hx
   simp[Value.cells] at l
   rw[l] at d;simp at d;subst d
   exact t7 hr
theorem JZ {CR:AV→Value→Prop}:∀ {ps:List (Nat×AV)} {vs:List (Nat×Value)},RepParts J β h w ps vs→(∀ p ∈ ps,∀ v,Rep J β h w p.2 v→DG CR (dV p.2) v.cells.toList)→PartsRel CR (Kn ps) vs
 | [],vs,hr,_=>by rw[RepParts] at hr;rw[Kn,PartsRel];exact hr
 | (i,x)::r,vs,hr,e=>by
  rw[RepParts] at hr
  obtain⟨v,d,rfl,f,j⟩:=hr
  rw[Kn,PartsRel]
  exact⟨v,d,rfl,e (i,x) (by simp) v f,JZ j (fun p k=>e p (by simp[k]))⟩
theorem CE {CR:AV→Value→Prop}:∀ {ps:List (Nat×AV)} {vs:List (Nat×Value)},RepParts J β h w ps vs→(∀ p ∈ ps,∀ v,Rep J β h w p.2 v→DG CR (cellsOf p.2) v.cells.toList)→PartsRel CR (Gg ps) vs
 | [],vs,hr,_=>by rw[RepParts] at hr;rw[Gg,PartsRel];exact hr
 | (i,x)::r,vs,hr,e=>by
  rw[RepParts] at hr
  obtain⟨v,d,rfl,f,j⟩:=hr
  rw[Gg,PartsRel]
  exact⟨v,d,rfl,e (i,x) (by simp) v f,CE j (fun p k=>e p (by simp[k]))⟩
theorem SL {t:TypeId} {place:Nat→Option (Nat×Nat)} {i:TypeInfo} {z:Value} {vs:List (Nat×Value)} {cs:Array Value} (d:JM P t=some place) (hi:P.info? t=some i) (l:i.zero=some z)
  (m:Instr.fill place z.cells vs=some cs):P.built t vs=some cs:=by
 unfold JM at d
 unfold Program.built
 split at d
 ·rename_i n e k
  cases j:P.info? e with
  | none=>simp[j] at d
  | some ie=>simp[j] at d;subst d;simp only[hi,k,l,j];exact m
 ·rename_i fs k
  cases j:fs.toList.mapM fun f=>(P.info? f.type).map fun i=>(f.offset,i.size) with
  | none=>rw[j] at d;simp at d
  | some pl =>
   rw[j] at d;simp at d;subst d
   simp only[hi,k,l,j]
   simpa using m
 ·simp at d
theorem iN {t:TypeId} {ps:List (Nat×AV)} {vs:List (Nat×Value)} {k:AV→Eh→O R} (S:SimH J β h w) (B:Looks g h) (m:MP P g t ps k=some r) (C:RepParts J β h w ps vs) :
  ∃ val ups u,k val ups=some r∧(Instr.build t vs.toArray).run P w=.ok u w∧OpDone J β h w ups val u w:=by
 unfold MP at m
 obtain⟨place,d,D⟩:=ub m
 obtain⟨zz,F,G⟩:=ub D
 obtain⟨⟨q,u1,o1⟩,hq,n⟩:=ub G
 rw[Vc] at n
 obtain⟨cells,I,L⟩:=ub n
 obtain⟨i,z,hi,e,rfl,M,e1,V⟩:=Qk F
 obtain⟨J1,A,hA,_,v⟩:=Wd S B.s hq C
 have f:DG (RepC (J1 o1) w) (Ls z.cells.toList) z.cells.toList:=by
  refine⟨Vb _,fun j x u hx T=>?_⟩
  obtain⟨y,l,U⟩:=FL (w:=w) (J:=J1 o1) M j u T
  rw[hx] at l;simp at l;subst l;exact U
 obtain⟨cs,f1,f2⟩:=Y0 hA f I
 refine⟨_,_,.agg cs,L,run_build w t vs.toArray cs (SL d hi e (by simpa using f1)),J1,β,A,?_⟩
 rw[Rep]
 exact⟨cs.toList,rfl,f2.1.symm,CD f2⟩
theorem lJ {t:TypeId} {ps:List (Nat×AV)} {vs:List (Nat×Value)} {v:AV} (S:SimH J β h w) (I:kc P t ps=some v) (F:RepParts J β h w ps vs) :
  ∃ u,(Instr.build t vs.toArray).run P w=.ok u w∧Rep J β h w v u:=by
 unfold kc at I
 obtain⟨place,n,L⟩:=ub I
 obtain⟨D,q⟩:=uc L
 cases s:ps.any (fun p=>E' p.2) with
 | true =>
  rw[s] at q
  cases A:ps.any (fun p=>dU p.2) with
  | true =>
   rw[A] at q
   obtain⟨zz,e,k⟩:=ub q
   unfold jT at e
   obtain⟨i,hi,e⟩:=ub e
   cases f:i.zero with
   | none=>rw[f] at e;simp at e
   | some z =>
    rw[f] at e;simp at e;subst e
    cases l:O6 place (Kn ps) (Ls z.cells.toList) with
    | none=>rw[l] at k;simp at k
    | some c =>
     rw[l] at k;simp at k;subst k
     have d:PartsRel (Rep J β h w) (Kn ps) vs:=JZ F (fun p B u C=>qd C (Ae3.1 D p B))
     have m:DG (Rep J β h w) (Ls z.cells.toList) z.cells.toList:=by
      have:=MU (J:=J) (β:=β) (h:=h) (w:=w) z.cells.toList
      rw[Cg] at this
      exact⟨this.1.symm,this.2⟩
     obtain⟨cs,f1,f2⟩:=Y0 d m l
     refine⟨.agg cs,run_build w t vs.toArray cs (SL n hi f (by simpa using f1)),?_⟩
     rw[Rep]
     exact⟨cs.toList,rfl,Cg.2 ⟨f2.1.symm,f2.2⟩⟩
  | false =>
  rw[A] at q
  have M:=q
  obtain⟨zz,e,k⟩:=ub M
  obtain⟨i,z,hi,f,rfl,T,e1,X⟩:=Qk e
  cases l:O6 place (Gg ps) (Ls z.cells.toList) with
  | none=>rw[l] at k;simp at k
  | some c =>
   rw[l] at k;simp at k;subst k
   have d:PartsRel (RepC (J (ps.any fun p=>YK p.2)) w) (Gg ps) vs:=CE F (fun p B u C=>lI S.jft C (by
     have:=Ahd.1 A p B;simpa using this) (fun U=>by rw[List.any_eq_true];exact⟨p,B,U⟩))
   have m:DG (RepC (J (ps.any fun p=>YK p.2)) w) (Ls z.cells.toList) z.cells.toList:=by
    refine⟨Vb _,fun j x u hx C=>?_⟩
    obtain⟨y,G,V⟩:=FL (w:=w) (J:=J (ps.any fun p=>YK p.2)) T j u C
    rw[hx] at G;simp at G;subst G;exact V
   obtain⟨cs,f1,f2⟩:=Y0 d m l
   refine⟨.agg cs,run_build w t vs.toArray cs (SL n hi f (by simpa using f1)),?_⟩
   rw[Rep]
   exact⟨cs.toList,rfl,f2.1.symm,CD f2⟩
 | false =>
  rw[s] at q
  obtain⟨zz,e,k⟩:=ub q
  unfold jT at e
  obtain⟨i,hi,e⟩:=ub e
  cases f:i.zero with
  | none=>rw[f] at e;simp at e
  | some z =>
   rw[f] at e;simp at e;subst e
   cases l:O6 place (Gg ps) (Ls z.cells.toList) with
   | none=>rw[l] at k;simp at k
   | some c =>
    rw[l] at k;simp at k;subst k
    have d:PartsRel (Rep J β h w) (Gg ps) vs:=CE F (fun p B u C=>YV C (by
      have:=Ahd.1 s p B;simpa using this) (Ae3.1 D p B))
    have m:DG (Rep J β h w) (Ls z.cells.toList) z.cells.toList:=by
     have:=MU (J:=J) (β:=β) (h:=h) (w:=w) z.cells.toList
     rw[Cg] at this
     exact⟨this.1.symm,this.2⟩
    obtain⟨cs,f1,f2⟩:=Y0 d m l
    refine⟨.agg cs,run_build w t vs.toArray cs (SL n hi f (by simpa using f1)),?_⟩
    rw[Rep]
    exact⟨cs.toList,rfl,Cg.2 ⟨f2.1.symm,f2.2⟩⟩
end
end Gx
namespace Gx
open Go
section
variable {R:Type} {r:R} {P:Program} {J:Bool→Nat→Prop} {β:Ch} {h:Aw} {w:World}
def PRd (n:Nat) (x:LA) (rd:Nat→Option Value):Prop:=∀ j q,j<n→x[j]?=some q →
 (∀ k m,q=.int k m→rd j=some (.int k m))∧(∀ b,q=.bool b→rd j=some (.bool b))∧(∀ s,q=.str s→rd j=some (.string ⟨⟨s⟩⟩))
theorem PRd.drop {n m o:Nat} {x:LA} {xs:Array Value} {ox sz:Nat} (l:PRd sz x (fun j=>xs[ox+j]?)) (z:o+m≤sz) (hn:n=m):PRd n (x.drop o) (fun j=>(xs.extract ox (ox+sz))[o+j]?):=by
 subst hn
 intro j q A hq
 rw[Ae8] at hq
 have d:=l (o+j) q (by omega) hq
 have e:∀ v,xs[ox+(o+j)]?=some v→(xs.extract ox (ox+sz))[o+j]?=some v:=by
  intro v f
  have t:=(Afb.1 f).1
  rw[Array.getElem?_extract,if_pos (by omega)];exact f
 exact⟨fun k m u=>e _ (d.1 k m u),fun b y=>e _ (d.2.1 b y),fun s hs=>e _ (d.2.2 s hs)⟩
theorem Yn {t:TypeId} {d:TypeDesc} {xs:Array Value} {ox:Nat} {v:Value} (e:P.underlying t=some d) (f:d.isRow=false) (j:xs[ox]?=some v):(part t xs ox).run P w=.ok v w:=by
 unfold part isAgg
 simp only[Sem.run_bind,run_underlying e,Result.andThen_ok]
 cases d<;>simp_all[TypeDesc.isRow]
theorem DH {t:TypeId} {d:TypeDesc} {xs:Array Value} {ox s:Nat} (e:P.underlying t=some d) (f:d.isRow=true) (hs:Bq P t=some s):(part t xs ox).run P w=.ok (.agg (xs.extract ox (ox+s))) w:=by
 unfold part isAgg
 have:=Cs hs w
 simp only[Sem.run_bind,run_underlying e,Result.andThen_ok]
 cases d<;>simp_all[TypeDesc.isRow]
def qe (P:Program) (w:World) (D:Nat) (step:TypeId→LA→LA→(Bool→O R)→O R):Prop :=
 ∀ (r:R) (t:TypeId) (s:Nat) (x y:LA) (k:Bool→O R) (xs ys:Array Value) (ox oy:Nat),Bq P t=some s→0<s→step t x y k=some r→PRd s x (fun j=>xs[ox+j]?)→PRd s y (fun j=>ys[oy+j]?) →
  ∃ b a a',k b=some r∧(part t xs ox).run P w=.ok a w∧(part t ys oy).run P w=.ok a' w∧(Op.equalIn D t a a').run P w=.ok b w
theorem H' {D:Nat} {step:TypeId→LA→LA→(Bool→O R)→O R} (hs:qe P w D step) {x y:LA} {xs ys:Array Value} {ox oy sz:Nat} (hx:PRd sz x (fun j=>xs[ox+j]?)) (q:PRd sz y (fun j=>ys[oy+j]?)) :
  ∀ (fs:List Field) {k:Bool→O R},fs.all (kX P sz)=true→C' step x y (fs.map fun f=>(f.offset,f.type)) k=some r →
  ∃ b,k b=some r∧(Op.eqFields D (xs.extract ox (ox+sz)) (ys.extract oy (oy+sz)) fs).run P w=.ok b w
 | [],k,_,m=>⟨true,by simpa[C'] using m,by simp[Op.eqFields]⟩
 | f::fs,k,n,m=>by
  rw[Aek,Ad3] at n
  obtain⟨l,n⟩:=n
  unfold kX at l
  cases d:Bq P f.type with
  | none=>rw[d] at l;simp at l
  | some s =>
   rw[d] at l
   simp only[Ad3,Nat.ble_eq] at l
   obtain⟨G,t,u⟩:=l
   have e : f.name ≠ "_" := by simpa using u
   rw[Ad5,C'] at m
   obtain⟨b,a,I,v,z,A,B⟩:=hs r f.type s _ _ _ (xs.extract ox (ox+sz)) (ys.extract oy (oy+sz)) f.offset f.offset d (by omega) m (hx.drop t rfl) (q.drop t rfl)
   obtain⟨c,e1,F⟩:=H' hs hx q fs n v
   refine⟨b&&c,e1,?_⟩
   rw[Op.eqFields,if_pos e]
   simp only[Sem.run_bind,z,A,B,Result.andThen_ok]
   cases b with
   | false=>simp
   | true=>simpa using F
theorem J_ {D:Nat} {step:TypeId→LA→LA→(Bool→O R)→O R} (hs:qe P w D step) {x y:LA} {xs ys:Array Value} {ox oy sz:Nat} {e:TypeId} {s:Nat} (d:Bq P e=some s) (f:0<s) (hx:PRd sz x (fun j=>xs[ox+j]?)) (m:PRd sz y (fun j=>ys[oy+j]?)) :
  ∀ (is:List Nat) {k:Bool→O R},(∀ i ∈ is,i*s+s≤sz)→C' step x y (is.map fun i=>(i*s,e)) k=some r →
  ∃ b,k b=some r∧(Op.eqItems D e s (xs.extract ox (ox+sz)) (ys.extract oy (oy+sz)) is).run P w=.ok b w
 | [],k,_,l=>⟨true,by simpa[C'] using l,by simp[Op.eqItems]⟩
 | i::is,k,n,l=>by
  have q:=n i (by simp)
  rw[Ad5,C'] at l
  obtain⟨b,a,F,t,u,v,z⟩:=hs r e s _ _ _ (xs.extract ox (ox+sz)) (ys.extract oy (oy+sz)) (i*s) (i*s) d f l (hx.drop q rfl) (m.drop q rfl)
  obtain⟨c,e1,A⟩:=J_ hs d f hx m is (fun j B=>n j (by simp[B])) t
  refine⟨b&&c,e1,?_⟩
  rw[Op.eqItems]
  simp only[Sem.run_bind,u,v,z,Result.andThen_ok]
  cases b with
  | false=>simp
  | true=>simpa using A
theorem QJ:∀ (d D:Nat),d≤D→qe P w D (bE (R:=R) P d)
 | 0,D,_=>fun r t s x y k xs ys ox oy hs l f=>by simp[bE] at f
 | d+1,D,hD=>fun r t s x y k xs ys ox oy hs l f hx I=>by
  obtain⟨D,rfl⟩:∃ D',D=D'+1:=⟨D - 1,by omega⟩
  rw[bE] at f
  split at f
  ·rename_i kd j
   obtain⟨u,q,f⟩:=ub f
   obtain⟨a,A,f⟩:=ub f
   obtain⟨v,z,f⟩:=ub f
   obtain⟨b,B,f⟩:=ub f
   have L:u=.int kd a:=by
    unfold OT at A;split at A
    ·obtain⟨M,S⟩:=uc A;simp[Na] at M S;subst M S;rfl
    ·simp at A
   have eb:v=.int kd b:=by
    unfold OT at B;split at B
    ·obtain⟨M,T⟩:=uc B;simp[Na] at M T;subst M T;rfl
    ·simp at B
   have px:=(hx 0 u l (by rw[←Aes];exact q)).1 kd a L
   have py:=(I 0 v l (by rw[←Aes];exact z)).1 kd b eb
   exact⟨_,_,_,f,Yn j rfl (by simpa using px),Yn j rfl (by simpa using py),run_equalIn_int w D t kd kd a b j⟩
  ·rename_i j
   obtain⟨u,q,f⟩:=ub f
   obtain⟨a,A,f⟩:=ub f
   obtain⟨v,z,f⟩:=ub f
   obtain⟨b,B,f⟩:=ub f
   have L:u=.bool a:=by unfold asBool at A;split at A<;>simp_all
   have eb:v=.bool b:=by unfold asBool at B;split at B<;>simp_all
   have px:=(hx 0 u l (by rw[←Aes];exact q)).2.1 a L
   have py:=(I 0 v l (by rw[←Aes];exact z)).2.1 b eb
   exact⟨_,_,_,f,Yn j rfl (by simpa using px),Yn j rfl (by simpa using py),run_equalIn_bool' w D t a b j⟩
  ·rename_i j
   obtain⟨u,q,f⟩:=ub f
   obtain⟨a,A,f⟩:=ub f
   obtain⟨v,z,f⟩:=ub f
   obtain⟨b,B,f⟩:=ub f
   have L:u=.str a:=by unfold YH at A;split at A<;>simp_all
   have eb:v=.str b:=by unfold YH at B;split at B<;>simp_all
   have px:=(hx 0 u l (by rw[←Aes];exact q)).2.2 a L
   have py:=(I 0 v l (by rw[←Aes];exact z)).2.2 b eb
   refine⟨_,_,_,f,Yn j rfl (by simpa using px),Yn j rfl (by simpa using py),?_⟩
   have:=run_equalIn_string w D t ⟨⟨a⟩⟩ ⟨⟨b⟩⟩ j
   rw[this]
   simp[ByteArray.toList_eq]
  ·rename_i fs j
   obtain⟨sz,m,f⟩:=ub f
   obtain⟨U,F⟩:=qY f
   simp only[Bool.or_eq_false_iff,Bool.not_eq_false'] at U
   rw[hs] at m;simp at m;subst m
   obtain⟨b,X,Y⟩:=H' (QJ d D (by omega)) hx I fs.toList U.2 F
   refine⟨b,_,_,X,DH j rfl hs,DH j rfl hs,?_⟩
   have V:P.fieldsOf t=fs:=by simp[Program.fieldsOf,j]
   rw[run_equalIn_struct w D t _ _ (by rw[V];exact j) U.1,V]
   exact Y
  ·rename_i n e j
   obtain⟨s',C,f⟩:=ub f
   obtain⟨sz,m,f⟩:=ub f
   obtain⟨U,F⟩:=uc f
   simp only[Ad3,Nat.ble_eq] at U
   rw[hs] at m;simp at m;subst m
   obtain⟨b,X,Y⟩:=J_ (QJ d D (by omega)) C (by omega) hx I (List.range n) (fun i hi=>by
    have:=List.mem_range.1 hi
    have h3:(i+1)*s'≤n*s':=Aet _ this
    rw[Ahq] at h3;omega) F
   refine⟨b,_,_,X,DH j rfl hs,DH j rfl hs,?_⟩
   cases hi:P.info? e with
   | none=>simp[Bq,hi] at C
   | some i =>
    have G:P.cellsOf e=s':=by simp[Bq,hi] at C;simp[Program.cellsOf,hi,C]
    rw[run_equalIn_array w D _ _ j hi,G]
    exact Y
  ·simp at f
theorem n0 {c:LA} {org:Bool} {v:Value} {a:LA} {x:AV} (hx:kY x=some a) (hr:Rep J β h w x v):∃ cs:List Value,v=.agg ⟨cs⟩∧cs.length=a.length∧∀ n,PRd n a (fun j=>(⟨cs⟩:Array Value)[0+j]?):=by
 unfold kY at hx
 split at hx
 ·simp at hx;subst hx
  rw[Rep] at hr
  obtain⟨cs,t,f,A⟩:=hr
  refine⟨cs,t,f,fun n j q _ hq=>?_⟩
  rw[By] at A
  obtain⟨u,l,d⟩:=A j q hq
  simp only[Aec] at l ⊢
  refine⟨fun k m y=>?_,fun b z=>?_,fun s hs=>?_⟩
  ·subst y;rw[RepC] at d;subst d;simpa using l
  ·subst z;rw[RepC] at d;subst d;simpa using l
  ·subst hs;rw[RepC] at d;subst d;simpa using l
 ·simp at hx;subst hx
  rw[Rep] at hr
  obtain⟨cs,t,f⟩:=hr
  rw[Cg] at f
  refine⟨cs,t,f.1,fun n j q _ hq=>?_⟩
  have e:j<cs.length:=by rw[f.1];exact(Aed.1 hq).1
  have d:=f.2 j q cs[j] hq (Ad1 e)
  simp only[Aec]
  refine⟨fun k m y=>?_,fun b z=>?_,fun s hs=>?_⟩
  ·subst y;rw[Rep] at d;simp[e,d]
  ·subst z;rw[Rep] at d;simp[e,d]
  ·subst hs;rw[Rep] at d;simp[e,d]
 ·simp at hx
theorem n_ {op:BinOp} {t:TypeId} {x y:AV} {k:AV→O R} {vx vy:Value} (f:jS P t op x y k=some r) (hx:Rep J β h w x vx) (B:Rep J β h w y vy) (ox oy:Operand) :
  ∃ v vc,k v=some r∧(do eqGuard op t ox oy vx vy;binOp op t vx vy:Sem Value).run P w=.ok vc w∧Rep J β h w v vc:=by
 unfold jS at f
 split at f
 ·rename_i a b M S
  obtain⟨s,hs,f⟩:=ub f
  obtain⟨C,f⟩:=uc f
  simp only[Ad3,Nat.ble_eq,Ahc] at C
  obtain⟨X,D,F,m,T⟩:=C
  have D:=Ad8 D
  have F:=Ad8 F
  obtain⟨cs,rfl,G,px⟩:=n0 (c:=[]) (org:=false) M hx
  obtain⟨j,rfl,U,py⟩:=n0 (c:=[]) (org:=false) S B
  have I:=run_eqGuard_agg w op t ox oy ⟨cs⟩ ⟨j⟩ T
  have whole:∀ (l:List Value),l.length=s→(⟨l⟩:Array Value).extract 0 (0+s)=⟨l⟩:=by
   intro l G;subst G;simp
  have key:∀ {kk:Bool→O R},bE P 8 t a b kk=some r→∃ c,kk c=some r∧(Op.equal t (.agg ⟨cs⟩) (.agg ⟨j⟩)).run P w=.ok c w:=by
   intro kk V
   obtain⟨c,u,Y,e1,q,e3,e4⟩:=QJ 8 10000 (by omega) r t s a b kk ⟨cs⟩ ⟨j⟩ 0 0 hs (by omega) V (px s) (py s)
   refine⟨c,e1,?_⟩
   have A:∃ d,P.underlying t=some d∧d.isRow=true:=by
    unfold uk at m
    split at m
    ·rename_i fs z;exact⟨_,z,rfl⟩
    ·rename_i n e z;exact⟨_,z,rfl⟩
    ·simp at m
   obtain⟨d,z,L⟩:=A
   rw[DH z L hs,whole cs (by omega)] at q
   rw[DH z L hs,whole j (by omega)] at e3
   simp only[Result.ok.injEq,and_true] at q e3
   subst q e3
   exact e4
  split at f
  ·obtain⟨c,e1,q⟩:=key f
   refine⟨_,.bool c,e1,?_,by rw[Rep]⟩
   simp only[Sem.run_bind,I,Result.andThen_ok,binOp,q,Sem.run_pure]
  ·obtain⟨c,e1,q⟩:=key f
   refine⟨_,.bool (!c),e1,?_,by rw[Rep]⟩
   simp only[Sem.run_bind,I,Result.andThen_ok,binOp,q,Sem.run_pure]
  ·simp at f
 ·exact qX f hx B ox oy
theorem na {t:TypeId} {x y:AV} {b:Bool} {vx vy:Value} {g:Bg} (S:SimH J β h w) (G:Looks g h) (d:ut g x y=some b) (m:qU P t=true) (hx:Rep J β h w x vx) (f:Rep J β h w y vy) :
  ∃ p q,vx=.pointer p∧vy=.pointer q∧(Op.equal t (.pointer p) (.pointer q)).run P w=.ok b w:=by
 unfold qU at m
 split at m
 ·rename_i e s
  split at m
  ·rename_i n hn
   have A:n≠0:=fun e=>by subst e;simp at m
   have s:=run_underlying (w:=w) s
   have hs:(Go.sizeOf e).run P w=.ok n w:=Cs hn w
   have nn:∀ q:Option Addr,(Op.equal t (.pointer none) (.pointer q)).run P w=.ok q.isNone w:=fun q=>by
    unfold Op.equal Op.maxDepth Op.equalIn;simp[s]
   have u:∀ a:Addr,(Op.equal t (.pointer (some a)) (.pointer none)).run P w=.ok false w:=fun q=>by
    unfold Op.equal Op.maxDepth Op.equalIn;simp[s]
   unfold ut at d
   split at d
   ·simp only[Rep] at hx f;subst hx f;simp at d;subst d;exact⟨_,_,rfl,rfl,nn none⟩
   ·simp only[Rep] at hx f;obtain⟨_,k,o,_,rfl,_⟩:=f;subst hx;simp at d;subst d;exact⟨_,_,rfl,rfl,nn (some _)⟩
   ·simp only[Rep] at hx f;obtain⟨_,k,o,_,rfl,_⟩:=hx;subst f;simp at d;subst d;exact⟨_,_,rfl,rfl,u _⟩
   ·simp only[Rep] at hx f;rw[RepC] at f;obtain⟨a,rfl,_⟩:=f;subst hx;simp at d;subst d;exact⟨_,_,rfl,rfl,nn (some _)⟩
   ·simp only[Rep] at hx f;rw[RepC] at hx;obtain⟨a,rfl,_⟩:=hx;subst f;simp at d;subst d;exact⟨_,_,rfl,rfl,u _⟩
   ·rename_i L o1 M o2
    obtain⟨z,I,d⟩:=ub d
    obtain⟨B,d⟩:=uc d
    have B:=Ad8 B
    subst B
    obtain⟨C,j⟩:=Do G I
    rw[Rep] at hx f
    obtain⟨x1,T,U,⟨D,_⟩,rfl,v⟩:=hx
    obtain⟨x2,k2,V,⟨F,_⟩,rfl,l⟩:=f
    rw[C] at D F;simp at D F;subst D F
    rcases v with v | v
    ·rw[v] at j;cases j
    ·rcases l with l | l
     ·rw[l] at j;cases j
     ·rw[v] at l;simp at l;obtain⟨rfl,rfl⟩:=l
      refine⟨_,_,rfl,rfl,?_⟩
      simp at d
      unfold Op.equal Op.maxDepth Op.equalIn
      simp[s,hs,A,sameAddr]
      by_cases e:o1=o2
      ·subst e;simp at d;simp[d]
      ·rw[IT e] at d;subst d;simp;exact e
   ·cases d
  ·cases m
 ·cases m
theorem nc {g:Bg} {op:BinOp} {t:TypeId} {x y:AV} {k:AV→O R} {vx vy:Value} (S:SimH J β h w) (j:Looks g h) (d:j2 P g t op x y k=some r) (hx:Rep J β h w x vx) (e:Rep J β h w y vy) (ox oy:Operand) :
  ∃ v vc,k v=some r∧(do eqGuard op t ox oy vx vy;binOp op t vx vy:Sem Value).run P w=.ok vc w∧Rep J β h w v vc:=by
 unfold j2 at d
 split at d
 ·rename_i b l
  obtain⟨m,d⟩:=uc d
  obtain⟨p,q,rfl,rfl,f⟩:=na S j l m hx e
  split at d
  ·refine⟨_,.bool b,d,?_,by rw[Rep]⟩
   simp[eqGuard,binOp,f]
  ·refine⟨_,.bool (!b),d,?_,by rw[Rep]⟩
   simp[eqGuard,binOp,f]
  ·cases d
 ·exact n_ d hx e ox oy
end
end Gx
namespace Gx
open Go Go.MapKept
section
variable {R:Type} {r:R} {P:Program} {J:Bool→Nat→Prop} {β:Ch} {h:Aw} {w:World} {g:Bg}
theorem WB:∀ (l:List Int) (n:Int),dW (l.map fun m=>.int .i64 m) n=true↔n ∈ l
 | [],n=>by simp[dW]
 | m::r,n=>by
  rw[Ad5,dW]
  by_cases e:n=m
  ·simp[e]
  ·simp[e,WB r n]
theorem nf {c:LA} {es:Array MapEntry} {l:List Int} (j:es.toList.map (fun e=>(e.key,e.val))=l.map (fun n=>((.int .i64 n:Value),(.bool true:Value)))) {x:MapEntry} (hx:x ∈ es.toList):∃ n,n ∈ l∧x.key=.int .i64 n∧x.val=.bool true:=by
 have:=Ah1 (f:=fun e:MapEntry=>(e.key,e.val)) hx
 rw[j] at this
 obtain⟨n,hn,d⟩:=Aef.1 this
 simp at d
 exact⟨n,hn,d.1.symm,d.2.symm⟩
theorem vC {es:Array MapEntry} {l:List Int} (j:es.toList.map (fun e=>(e.key,e.val))=l.map (fun n=>((.int .i64 n:Value),(.bool true:Value)))) {n:Int} (hn:n ∈ l):∃ x ∈ es.toList,x.key=.int .i64 n:=by
 have:=Ah1 (f:=fun n:Int=>((.int .i64 n:Value),(.bool true:Value))) hn
 rw[←j] at this
 obtain⟨x,hx,d⟩:=Aef.1 this
 simp at d
 exact⟨x,hx,d.1⟩
theorem ng {c:LA} {es:Array MapEntry} (B:xt c es) (n:Int) :
  (dW c n=false∧Instr.findNow (.int .i64) (.int .i64 n) es.toList 0=some none) ∨
  (dW c n=true∧∃ j e,Instr.findNow (.int .i64) (.int .i64 n) es.toList 0=some (some (j,.bool true))∧es[j]?=some e∧e.key=.int .i64 n∧e.val=.bool true):=by
 obtain⟨l,rfl,v⟩:=B
 have y:∀ x ∈ es.toList,IsKey (.int .i64) x.key:=fun x hx=>by
  obtain⟨m,_,q,_⟩:=nf (c:=[]) v hx
  rw[q];simp[IsKey]
 rcases findNow_spec (d:=.int .i64) (k:=.int .i64 n) (by simp[IsKey]) es.toList 0 y with⟨q,u⟩ | ⟨j,e,q,u,A⟩
 ·left
  refine⟨?_,q⟩
  cases C:dW (l.map fun m=>.int .i64 m) n with
  | false=>rfl
  | true =>
   obtain⟨x,hx,D⟩:=vC v ((WB l n).1 C)
   exact absurd D (u x hx)
 ·right
  have s:e ∈ es.toList:=Ag1 u
  obtain⟨m,z,f,t⟩:=nf (c:=[]) v s
  rw[A] at f;simp at f;subst f
  refine⟨(WB l n).2 z,j,e,?_,by simpa using u,A,t⟩
  rw[q,t,Aec]
theorem eD {t:TypeId} (hs:ki P t=true):∃ kt et,P.underlying t=some (.map kt et)∧P.underlying kt=some (.int .i64)∧∀ w,(zeroValue et).run P w=.ok (.bool false) w:=by
 unfold ki at hs
 split at hs
 ·rename_i kt et l
  simp only[Ad3] at hs
  obtain⟨f,j⟩:=hs
  refine⟨kt,et,l,?_,fun w=>?_⟩
  ·split at f
   ·assumption
   ·cases f
  ·split at j
   ·rename_i d
    unfold dS at d
    cases hi:P.info? et with
    | none=>rw[hi] at d;simp at d
    | some i =>
     rw[hi] at d
     cases e:i.zero with
     | none=>simp[e] at d
     | some z =>
      simp[e] at d
      have:z=.bool false:=by
       have k:=FF (J:=fun _ _=>False) (β:=fun _=>none) (h:=[]) (w:=w) z
       rw[d,Rep] at k;exact k
      subst this
      simp[zeroValue,typeInfo,hi,e]
   ·cases j
 ·cases hs
theorem vD {b:Nat} {x:Blk} {v:Value} (S:SimH J β h w) (f:Al h b=some x) (j:x.dead=false) (hr:Rep J β h w (.omap b) v) :
  ∃ k ob,x.mp=true∧β b=some (k,0)∧v=yk x.sz k∧w.heap[k]?=some ob∧ObjIs x ob∧x.sealed=false∧x.pure=true:=by
 rw[Rep] at hr
 obtain⟨y,k,⟨d,l⟩,hr⟩:=hr
 rw[f] at d;simp at d;subst d
 rcases hr with hr | ⟨m,n⟩
 ·simp[j] at hr
 ·obtain⟨q,s,z,ob,e,t,u,_⟩:=S.mblk b x f j l
  rw[m] at e;simp at e;subst e
  exact⟨k,ob,l,m,n,t,u,s,q⟩
theorem s6 {b:Nat} {x:Blk} {v:Value} (S:SimH J β h w) (f:Al h b=some x) (j:x.dead=false) (l:x.sz=0) (hr:Rep J β h w (.omap b) v) :
  ∃ k es clk,x.mp=true∧β b=some (k,0)∧v=.map (some k)∧w.heap[k]?=some (.map es clk)∧xt x.cells es∧x.sealed=false∧x.pure=true:=by
 obtain⟨k,ob,m,n,e,q,d,s,t⟩:=vD S f j hr
 rw[l] at e
 rcases d with⟨_,es,clk,rfl,d⟩ | ⟨d,_⟩
 ·exact⟨k,es,clk,m,n,e,q,d,s,t⟩
 ·omega
theorem wg {b:Nat} {x:Blk} {v:Value} (S:SimH J β h w) (f:Al h b=some x) (j:x.dead=false) (l:x.sz=1) (hr:Rep J β h w (.omap b) v) :
  ∃ k s pos,x.mp=true∧β b=some (k,0)∧v=.pointer (some ⟨k,0,none⟩)∧w.heap[k]?=some (.stringIter ⟨⟨s⟩⟩ pos)∧x.cells=[.str s,.int .i64 (pos:Int)]∧x.sealed=false∧x.pure=true:=by
 obtain⟨k,ob,m,n,e,q,d,t,u⟩:=vD S f j hr
 rw[l] at e
 rcases d with⟨d,_⟩ | ⟨_,s,pos,rfl,d⟩
 ·omega
 ·exact⟨k,s,pos,m,n,e,q,d,t,u⟩
theorem IA {k pos:Nat} {s:ByteArray} (d:w.heap[k]?=some (.stringIter s pos)):(getObj k).run P w=.ok (.stringIter s pos) w:=by
 simp[getObj,Sem.run,d]
theorem bF {k pos:Nat} {s:ByteArray} (ob:Obj) (d:w.heap[k]?=some (.stringIter s pos)):(setObj k ob).run P w=.ok () { w with heap:=w.heap.setIfInBounds k ob }:=by
 simp[setObj,Sem.run,d]
theorem lK {d:Nat} {t:TypeId} {x:AV} {vx:Value} {k:AV→Eh→O R} (S:SimH J β h w) (e:VU P d t x k=some r) (hx:Rep J β h w x vx) :
  ∃ val ups,k val ups=some r∧(UpsFree d h ups→∃ vc w',(Instr.range t vx).run P w=.ok vc w'∧OpDone J β h w ups val vc w'):=by
 unfold VU at e
 split at e
 ·rename_i s f
  rw[Rep] at hx;subst hx
  refine⟨_,_,e,fun j=>⟨.pointer (some ⟨w.heap.size,0,none⟩),w.alloc (.stringIter ⟨⟨s⟩⟩ 0),?_,?_⟩⟩
  ·simp only[Instr.range,Sem.run_bind,run_underlying f,Result.andThen_ok,Sem.run_pure];rfl
  have A:=Step.newObj (x:={ dead:=false,sealed:=false,pure:=true,taint:=false,sz:=1,cells:=[.str s,.int .i64 0],mp:=true }) (ob:=.stringIter ⟨⟨s⟩⟩ 0) S (j.nid (by simp[A9])) rfl rfl rfl (.inr ⟨rfl,s,0,rfl,rfl⟩) rfl
  refine⟨_,_,A,?_⟩
  rw[Rep]
  exact⟨{ dead:=false,sealed:=false,pure:=true,taint:=false,sz:=1,cells:=[.str s,.int .i64 0],mp:=true },w.heap.size,⟨by simp[Ak,Af],rfl⟩,.inr ⟨by simp,rfl⟩⟩
 ·simp at e
theorem nh {d:Nat} {t:TypeId} {it:AV} {b:Bool} {vi:Value} {k:AV→Eh→O R} (S:SimH J β h w) (F:Looks g h) (q:jZ g it b k=some r) (hi:Rep J β h w it vi) :
  ∃ val ups,k val ups=some r∧(UpsFree d h ups→∃ vc w',(Instr.next vi b t).run P w=.ok vc w'∧OpDone J β h w ups val vc w'):=by
 unfold jZ at q
 split at q
 ·rename_i G
  obtain⟨x,hx,I⟩:=ub q
  obtain⟨C,l⟩:=uc I
  simp only[Ad3] at C
  obtain⟨m,u⟩:=C
  have u:=Ad8 u
  obtain⟨D,v⟩:=Do F hx
  obtain⟨kk,s,pos,_,L,rfl,n,y,z,A⟩:=wg S D v u hi
  rw[y] at l
  simp only at l
  have B:=FH n
  cases e:decide ((pos:Int)<(s.length:Int)) with
  | true =>
   rw[e] at l
   have e:pos<s.length:=by have:=of_decide_eq_true e;omega
   have f:pos<(⟨⟨s⟩⟩:ByteArray).size:=e
   refine⟨_,_,l,fun _=>⟨.tuple #[.bool true,goInt pos,.int .i32 ((tV s pos).1:Nat)],{ w with heap:=w.heap.setIfInBounds kk (.stringIter ⟨⟨s⟩⟩ (pos+(tV s pos).2)) },?_,J,β,?_,?_⟩⟩
   ·simp[Instr.next,IA n,f,bF _ n,tV]
   ·show Step J β h w J β (Fx h G _) _
    refine Step.setObj (ob:=.stringIter ⟨⟨s⟩⟩ pos) S D v m L n (by simp[B]) (fun j M=>by simp[Ag3,Ne.symm M]) (by simp) rfl rfl rfl (.inr ⟨u,s,pos+(tV s pos).2,rfl,by simp⟩) v z A rfl m
   ·rw[Rep]
    refine⟨_,rfl,?_⟩
    simp[Reps,Rep,goInt]
  | false =>
   rw[e] at l
   have e:¬ pos<s.length:=by have:=of_decide_eq_false e;omega
   have f:¬ pos<(⟨⟨s⟩⟩:ByteArray).size:=e
   refine⟨_,_,l,fun _=>⟨.tuple #[.bool false],w,?_,J,β,Step.refl S,?_⟩⟩
   ·simp[Instr.next,IA n,f]
   ·rw[Rep]
    refine⟨_,rfl,?_⟩
    simp[Reps,Rep]
 ·simp at q
theorem eE {d:Nat} {t:TypeId} {k:AV→Eh→O R} (S:SimH J β h w) (e:Yt d none k=some r) :
  ∃ val ups,k val ups=some r∧(UpsFree d h ups→∃ vc w',(Instr.makeMap t none).run P w=.ok vc w'∧OpDone J β h w ups val vc w'):=by
 unfold Yt at e
 refine⟨_,_,e,fun f=>⟨.map (some w.heap.size),w.alloc (.map #[] 0),rfl,?_⟩⟩
 have A:=Step.newObj (x:={ dead:=false,sealed:=false,pure:=true,taint:=false,sz:=0,cells:=[],mp:=true }) (ob:=.map #[] 0) S (f.nid (by simp[A9])) rfl rfl rfl (.inl ⟨rfl,#[],0,rfl,[],rfl,by simp⟩) rfl
 refine⟨_,_,A,?_⟩
 rw[Rep]
 exact⟨{ dead:=false,sealed:=false,pure:=true,taint:=false,sz:=0,cells:=[],mp:=true },w.heap.size,⟨by simp[Ak,Af],rfl⟩,.inr ⟨by simp,rfl⟩⟩
theorem ni {t:TypeId} {m key:AV} {c:Bool} {vm vk:Value} {k:AV→O R} (S:SimH J β h w) (z:Looks g h) (q:jY P g t m key c k=some r) (A:Rep J β h w m vm) (f:Rep J β h w key vk) :
  ∃ v vc,k v=some r∧(Instr.lookup t vm vk c).run P w=.ok vc w∧Rep J β h w v vc:=by
 unfold jY at q
 split at q
 ·rename_i b n
  obtain⟨hs,B⟩:=uc q
  obtain⟨x,hx,C⟩:=ub B
  obtain⟨d,D⟩:=uc C
  simp only[Ad3] at d
  obtain⟨d,s⟩:=d
  have s:=Ad8 s
  obtain⟨F,G⟩:=Do z hx
  rw[Rep] at f;subst f
  obtain⟨kk,es,clk,_,I,rfl,f,hr,_,_⟩:=s6 S F G s A
  obtain⟨kt,et,u1,u2,u3⟩:=eD hs
  refine⟨_,.bool (dW x.cells n),D,?_,by rw[Rep]⟩
  have l:IsKey (.int .i64) (.int .i64 n):=by simp[IsKey]
  rcases ng hr n with⟨u,y⟩ | ⟨u,j,e,y,_,_,_⟩
  ·rw[u]
   simp[Instr.lookup,run_underlying u1,run_getObj_map f,run_checkKey u2 l,run_findKey u2 y,u3,Result.andThen]
  ·rw[u]
   simp[Instr.lookup,run_underlying u1,run_getObj_map f,run_checkKey u2 l,run_findKey u2 y,Result.andThen]
 ·simp at q
theorem lL {t:TypeId} {m key val:AV} {vm vk vv:Value} {k:AV→Eh→O R} (S:SimH J β h w) (V:Looks g h) (B:VT P g t m key val k=some r) (X:Rep J β h w m vm) (f:Rep J β h w key vk) (L:Rep J β h w val vv) :
  ∃ ups,k .undef ups=some r∧∃ J' β' w',(Instr.mapUpdate t vm vk vv).run P w=.ok () w'∧Step J β h w J' β' (Ak ups h) w':=by
 unfold VT at B
 split at B
 ·rename_i b n
  obtain⟨hs,Y⟩:=uc B
  obtain⟨x,hx,h2⟩:=ub Y
  obtain⟨d,h3⟩:=uc h2
  simp only[Ad3] at d
  obtain⟨d,v⟩:=d
  have v:=Ad8 v
  obtain⟨C,y⟩:=Do V hx
  simp only[Rep] at f L;subst f L
  obtain⟨kk,es,clk,_,M,rfl,f,hr,z,A⟩:=s6 S C y v X
  obtain⟨kt,et,u1,u2,u3⟩:=eD hs
  have q:IsKey (.int .i64) (.int .i64 n):=by simp[IsKey]
  have hlt:=FH f
  refine⟨_,h3,J,β,?_⟩
  rcases ng hr n with⟨D,F⟩ | ⟨D,j,e,F,T,U,g5⟩
  ·refine⟨{ w with heap:=w.heap.setIfInBounds kk (.map (es.push { key:=.int .i64 n,val:=.bool true,born:=clk }) (clk+1)) },?_,?_⟩
   ·simp[Instr.mapUpdate,run_underlying u1,run_getObj_map f,run_checkKey u2 q,run_findKey u2 F,run_setObj_map _ f,Result.andThen]
   ·refine Step.setObj S C y d M f (heap_set f).1 (fun j G=>(heap_set f).2 j G) (by simp) rfl rfl rfl (.inl ⟨v,_,_,rfl,?_⟩) y z A rfl d
    obtain⟨l,s,u⟩:=hr
    refine⟨l++[n],?_,?_⟩
    ·show ur x.cells n=_
     unfold ur;rw[D,s];simp
    ·simp[u]
  ·refine⟨{ w with heap:=w.heap.setIfInBounds kk (.map (es.modify j fun e=>{ e with key:=.int .i64 n,val:=.bool true }) clk) },?_,?_⟩
   ·simp[Instr.mapUpdate,run_underlying u1,run_getObj_map f,run_checkKey u2 q,run_findKey u2 F,T,U,run_keyThatStays q,run_setObj_map _ f,Result.andThen]
   ·refine Step.setObj S C y d M f (heap_set f).1 (fun j G=>(heap_set f).2 j G) (by simp) rfl rfl rfl (.inl ⟨v,_,_,rfl,?_⟩) y z A rfl d
    obtain⟨l,s,u⟩:=hr
    refine⟨l,?_,?_⟩
    ·show ur x.cells n=_
     unfold ur;rw[D,s];rfl
    ·have:es.modify j (fun e=>{ e with key:=.int .i64 n,val:=.bool true })=es:=by
      apply Array.ext_getElem?
      intro i
      rw[Afw]
      split
      ·rename_i I;subst I
       rw[T];simp;rw[←U,←g5]
      ·rfl
     rw[this];exact u
 ·simp at B
end
end Gx
namespace Gx
open Go
def QK (E:Env):Prop:=∀ (R:Type) (r:R) (k:AV→Eh→O R) (J:Bool→Nat→Prop) (β:Ch) (h:Aw) (w:World) (g:Bg) (d f:Nat) (args:LA) (vs:List Value),
 SimH J β h w→Looks g h→j3 E g d f args k=some r→Reps J β h w args vs →
 ∃ val ups,k val ups=some r∧(UpsFree d h ups→Calls E.P f vs.toArray w fun e w'=>∃ vc,e=.returned vc∧OpDone J β h w ups val vc w')
section
variable {R:Type} {r:R} {P:Program} {J J':Bool→Nat→Prop} {β:Ch} {h:Aw} {w w':World} {g:Bg} {o:Oper} {a:Act} {next:Act→World→Prop} {Q:Exit→Act→World→Prop}
theorem Ga {vc:Value} (d:(execOp a.eval o).run P w=.ok (.value vc) w') (hn:next (a.put o.dst vc) w'):o.wp P a w next Q:=by
 unfold Oper.wp;rw[d];exact hn
theorem nk (d:(execOp a.eval o).run P w=.ok .skip w') (hn:next (a.put o.dst undef) w'):o.wp P a w next Q:=by
 unfold Oper.wp;rw[d];exact hn
theorem OpDone.same (S:SimH J β h w) {v:AV} {vc:Value} (d:Rep J β h w v vc):OpDone J β h w [] v vc w:=⟨J,β,Step.refl S,d⟩
theorem eF {s:Hf} (SS:SimS J β h w s a.tmps):∀ (xs:List Operand),Reps J β h w (xs.map (ev s)) (xs.map a.eval)
 | []=>by simp[Reps]
 | x::r=>by rw[Ad5,Ad5,Reps];exact⟨_,_,rfl,Bf SS x,eF SS r⟩
theorem Rl {s:Hf} (SS:SimS J β h w s a.tmps):∀ (ps:List (Nat×Operand)),RepParts J β h w (ps.map fun p=>(p.1,ev s p.2)) (ps.map fun p=>(p.1,a.eval p.2))
 | []=>by simp[RepParts]
 | p::r=>by rw[Ad5,Ad5,RepParts];exact⟨_,_,rfl,Bf SS p.2,Rl SS r⟩
theorem eG {s:Hf} (SS:SimS J β h w s a.tmps) (x:Option Operand):Wb J β h w (x.map (ev s)) (x.map a.eval):=by
 cases x with
 | none=>simp[Wb]
 | some x=>simp[Wb];exact Bf SS x
theorem Reps.append:∀ {c f:LA} {cs d:List Value},Reps J β h w c cs→Reps J β h w f d→Reps J β h w (c++f) (cs++d)
 | [],f,cs,d,e,j=>by rw[Reps] at e;subst e;exact j
 | x::r,f,cs,d,e,j=>by
  rw[Reps] at e
  obtain⟨u,us,rfl,k,l⟩:=e
  rw[Aeb,Aeb,Reps]
  exact⟨u,us++d,rfl,k,Reps.append l j⟩
theorem np {J:Nat→Prop}:∀ {c:LA} {cs:List Value},Ax c=true→Reps (fun _ _=>False) (fun _=>none) [] w c cs→RepCs J w c (fun j=>cs[j]?) 0∧cs.length=c.length:=by
 intro c cs l hr
 rw[Cg] at hr
 refine⟨?_,hr.1⟩
 rw[By]
 intro j x e
 have d:j<cs.length:=by rw[hr.1];exact(Aed.1 e).1
 refine⟨cs[j],by simp[d],?_⟩
 have f:=hr.2 j x cs[j] e (Ad1 d)
 have m:Ax [x]=true:=by
  clear hr f d
  induction c generalizing j with
  | nil=>simp at e
  | cons y r n =>
   have k:Ax r=true:=by unfold Ax at l;split at l<;>simp_all
   cases j with
   | zero=>simp at e;subst e;cases y<;>simp_all[Ax]
   | succ j=>exact n k j (by simpa using e)
 cases x<;>simp[Ax] at m<;>(rw[Rep] at f;rw[RepC];exact f)
theorem t8 {co:Bool} {v:AV} {vv:Value} (d:∀ (J:Bool→Nat→Prop) (β:Ch) (h:Aw),Rep J β h w v vv):Rep J β h w (um co v) vv:=by
 unfold um
 split
 ·rename_i c
  cases f:Ax c with
  | false=>exact d J β h
  | true =>
   have e:=d (fun _ _=>False) (fun _=>none) []
   rw[Rep] at e
   obtain⟨cs,rfl,j⟩:=e
   obtain⟨k,l⟩:=np (J:=J false) f j
   rw[cond_true,Rep]
   exact⟨cs,rfl,l,k⟩
 ·exact d J β h
theorem QL {d:Nat}:∀ {l:List (Nat×Nat)} {j:Nat} {c:LA},1≤j→A9 (Gu d l j c).2 (nid d)=false
 | [],_,_,_=>by simp[Gu,A9]
 | (o,sz)::l,j,c,e=>by
  rw[Gu]
  split
  ·simp only[A9]
   rw[IT (by omega),cond_false]
   exact QL (by omega)
  ·exact QL (by omega)
theorem iO {d:Nat} {t:TypeId} {k:AV→Eh→O R} (S:SimH J β h w) (q:MQ P g d t k=some r) :
  ∃ v val ups,(∃ i,P.info? t=some i∧i.zero=some v)∧k val ups=some r∧(UpsFree d h ups→∃ vc w',(Instr.box t v).run P w=.ok vc w'∧OpDone J β h w ups val vc w'):=by
 unfold MQ at q
 split at q
 ·rename_i c m
  obtain⟨B,G⟩:=uc q
  simp only[Ad3] at B
  obtain⟨I,s⟩:=B
  obtain⟨v,L,M⟩:∃ v,(∃ i,P.info? t=some i∧i.zero=some v)∧VI v=.agg c:=by
   unfold dS at m
   cases hi:P.info? t with
   | none=>simp[hi] at m
   | some i =>
    cases f:i.zero with
    | none=>simp[hi,f] at m
    | some v=>simp[hi,f] at m;exact⟨v,⟨i,rfl,f⟩,m⟩
  have hr:=FF (J:=J) (β:=β) (h:=h) (w:=w) v
  rw[M,Rep] at hr
  obtain⟨cs,rfl,hr⟩:=hr
  refine⟨_,_,_,L,G,fun C=>⟨_,_,FK,?_⟩⟩
  have hn:=C.nid (by simp[Ib,Ri,A9])
  obtain⟨β',A,hA⟩:=Ud (d:=d) (l:=Rj P t) (j:=1) S (Ad4 _) (by simp at I;omega) (fun i hi T x=>C _ (by rw[Ib,x];rfl) (by unfold DD;simp;omega)) hr
  have z:Al (Ak (Gu d (Rj P t) 1 c).2 h) (nid d)=none:=by rw[Co _ _ _ (QL (Ad4 _))];exact hn
  have n:∀ (j:Nat) u,cs[j]?=some u→u.oneCell'=true:=fun j u D=>by
   rw[Cg] at hr
   have e:j<c.length:=by rw[←hr.1];exact(Aed.1 D).1
   exact Og (Xf s j c[j] (Ad1 e)) (hr.2 j c[j] u (Ad1 e) D)
  rw[Cg] at hA
  refine OpDone.after A (MW A.sim z rfl rfl (by simp[Value.cells,hA.1]) ⟨fun U=>by simp at U,fun _ j y F=>?_⟩) (Qj _ _)
  have e:j<cs.length:=by rw[hA.1];exact(Aed.1 F).1
  exact⟨cs[j],by simp[Value.cells,e],hA.2 j y _ F (Ad1 e),n j _ (Ad1 e)⟩
 ·simp at q
theorem lM {co:Bool} {d:Nat} {t:TypeId} {k:AV→Eh→O R} (S:SimH J β h w) (F:Looks g h) (l:VO P g co d t k=some r) :
  ∃ v val ups,(∃ i,P.info? t=some i∧i.zero=some v)∧k val ups=some r∧(UpsFree d h ups→∃ vc w',(Instr.box t v).run P w=.ok vc w'∧OpDone J β h w ups val vc w'):=by
 have zv:∀ {z:AV},dS P t=some z→∃ v,(∃ i,P.info? t=some i∧i.zero=some v)∧VI v=z:=by
  intro z f
  unfold dS at f
  cases hi:P.info? t with
  | none=>simp[hi] at f
  | some i =>
   cases m:i.zero with
   | none=>simp[hi,m] at f
   | some v=>simp[hi,m] at f;exact⟨v,⟨i,rfl,m⟩,f⟩
 unfold VO at l
 split at l
 ·rename_i L M f
  obtain⟨v,n,q⟩:=zv f
  obtain⟨sz,hs,l⟩:=ub l
  refine⟨v,_,_,n,l,fun D=>⟨_,_,FK,?_⟩⟩
  have hr:=FF (J:=J) (β:=β) (h:=h) (w:=w) v
  rw[q,Rep] at hr;subst hr
  have s:∀ b,b=nid d+1→DD d b=true:=fun b G=>by subst G;unfold DD nid;simp
  have u:Al h (nid d+1)=none:=D _ (by simp[A9]) (s _ rfl)
  have B:Al h (nid d)=none:=D.nid (by simp[A9])
  have A:=Step.newNone S (d:=nid d+1) (x:=Gq sz) u rfl
  have e:([(nid d+1,some (Gq sz)),(nid d,some { dead:=false,sealed:=false,pure:=false,taint:=false,sz:=0,cells:=[.own (nid d+1) 0 0] })]:Eh)=[(nid d+1,some (Gq sz))]++[(nid d,some { dead:=false,sealed:=false,pure:=false,taint:=false,sz:=0,cells:=[.own (nid d+1) 0 0] })]:=rfl
  rw[e]
  refine OpDone.after A (MW A.sim ?_ rfl rfl (by simp[Value.cells]) ⟨fun I=>by simp at I,fun _ j y C=>?_⟩) (Qj _ _)
  ·simp only[Ak];rw[Af,if_neg (by omega)];exact B
  ·cases j with
   | zero =>
    simp at C;subst C
    refine⟨.slice none 0 0,by simp[Value.cells],?_,rfl⟩
    rw[Rep]
    exact⟨Gq sz,none,0,⟨by simp[Ak,Af],rfl⟩,rfl,Ad4 _,.inl rfl⟩
   | succ j=>simp at C
 ·rename_i z f _
  obtain⟨v,n,q⟩:=zv f
  obtain⟨val,ups,u,B⟩:=d7 S F l (vv:=v) (t8 fun J β h=>by rw[←q];exact FF v)
  exact⟨v,val,ups,n,u,B⟩
 ·simp at l
theorem nq {c x y:AV} {vc vx vy:Value} {k:AV→O R} (d:j4 c x y k=some r) (e:Rep J β h w c vc) (hx:Rep J β h w x vx) (f:Rep J β h w y vy) :
  ∃ v,k v=some r∧∃ t:Bool,vc=.bool t∧Rep J β h w v (if t then vx else vy):=by
 unfold j4 at d
 split at d
 ·rename_i t a b
  rw[Rep] at e hx f
  subst e hx f
  exact⟨_,d,t,rfl,by cases t<;>simp[Rep]⟩
 ·rename_i t x _
  rw[Rep] at e;subst e
  obtain⟨j,l⟩:=uc d
  subst j
  exact⟨_,l,true,rfl,hx⟩
 ·rename_i t _ _ _
  rw[Rep] at e;subst e
  obtain⟨j,l⟩:=qY d
  subst j
  exact⟨_,l,false,rfl,f⟩
 ·rename_i t _ _ _
  rw[Rep] at e;subst e
  cases t
  ·exact⟨_,d,false,rfl,f⟩
  ·exact⟨_,d,true,rfl,hx⟩
 ·simp at d
theorem qf {E:Env} (hC:QK E) {d:Nat} {s:Hf} {k:AV→Eh→O R} (S:SimH J β h w) (SS:SimS J β h w s a.tmps) (U:Looks g h)
  (A:iK E g d (ev s) o.op k=some r) :
  ∃ val ups,k val ups=some r∧(UpsFree d h ups→(∀ vc w',OpDone J β h w ups val vc w'→next (a.put o.dst vc) w')→o.wp E.P a w next Q):=by
 unfold iK at A
 have same:∀ {v:AV} {vc:Value},k v []=some r→(execOp a.eval o).run E.P w=.ok (.value vc) w→Rep J β h w v vc →
   ∃ val ups,k val ups=some r∧(UpsFree d h ups→(∀ vc w',OpDone J β h w ups val vc w'→next (a.put o.dst vc) w')→o.wp E.P a w next Q) :=
  fun hk hrun hr=>⟨_,_,hk,fun _ hn=>Ga hrun (hn _ _ (OpDone.same S hr))⟩
 split at A
 ·rename_i x F
  exact same A (by simp[execOp,F]) (Bf SS x)
 ·rename_i x F
  exact same A (by simp[execOp,F]) (Bf SS x)
 ·rename_i c x y F
  obtain⟨v,B,C⟩:=nq A (Bf SS c) (Bf SS x) (Bf SS y)
  obtain⟨t,ht,hr⟩:=C
  refine same B (vc:=if t then a.eval x else a.eval y) ?_ hr
  cases t<;>simp[execOp,F,ht,Go.asBool]
 ·rename_i t F
  obtain⟨v,val,ups,h0,B,C⟩:∃ v val ups,(∃ i,E.P.info? t=some i∧i.zero=some v)∧k val ups=some r∧(UpsFree d h ups→∃ vc w',(Instr.box t v).run E.P w=.ok vc w'∧OpDone J β h w ups val vc w'):=by
   cases hm:H2 E.cob (d+1000000) with
   | true=>rw[hm] at A;exact iO S A
   | false=>rw[hm] at A;exact lM S U A
  refine⟨val,ups,B,fun T hn=>?_⟩
  obtain⟨vc,w',D,G⟩:=C T
  refine Ga ?_ (hn vc w' G)
  rw[FK] at D
  simp only[Result.ok.injEq] at D
  obtain⟨rfl,rfl⟩:=D
  obtain⟨i,hi,hiz⟩:=h0
  simp[execOp,F,Instr.alloc,zeroValue,typeInfo,hi,hiz,newVar,newRow]
 ·rename_i t x F
  obtain⟨v',h0,hv'⟩:=lC A (Bf SS x)
  obtain⟨val,ups,B,C⟩:=d7 S U h0 hv'
  refine⟨val,ups,B,fun T hn=>?_⟩
  obtain⟨vc,w',D,G⟩:=C T
  exact Ga (by simp[execOp,F,D]) (hn vc w' G)
 ·rename_i t parts F
  have:(parts.map fun p=>(p.1,a.eval p.2))=(parts.toList.map fun p=>(p.1,a.eval p.2)).toArray:=by apply Afa;simp
  cases hco:H2 E.cob (d+4000000) with
  | true =>
   rw[hco] at A
   obtain⟨val,ups,u,B,C,D⟩:=iN S U A (Rl SS parts.toList)
   exact⟨val,ups,B,fun _ hn=>Ga (by simp[execOp,F,this,C]) (hn _ _ D)⟩
  | false =>
  rw[hco,cond_false,QI] at A
  obtain⟨v,M,A⟩:=ub A
  obtain⟨u,B,C⟩:=lJ (P:=E.P) S M (Rl SS parts.toList)
  obtain⟨val,ups,D,G⟩:=qc S A C
  refine⟨val,ups,D,fun T hn=>Ga ?_ (hn _ _ (G T))⟩
  simp[execOp,F,this,B]
 ·rename_i t len parts F
  have:(parts.map fun p=>(p.1,a.eval p.2))=(parts.toList.map fun p=>(p.1,a.eval p.2)).toArray:=by apply Afa;simp
  cases hhard:(parts.toList.map fun p=>(p.1,ev s p.2)).any fun p=>uo p.2 with
  | true =>
   rw[hhard] at A
   obtain⟨val,ups,B,C⟩:=WA S A (Rl SS parts.toList)
   refine⟨val,ups,B,fun T hn=>?_⟩
   obtain⟨vc,w',D,G⟩:=C T
   exact Ga (by simp[execOp,F,this,D]) (hn vc w' G)
  | false =>
   rw[hhard] at A
   obtain⟨val,ups,B,C⟩:=SK S U A (Rl SS parts.toList)
   refine⟨val,ups,B,fun T hn=>?_⟩
   obtain⟨vc,w',D,G⟩:=C T
   exact Ga (by simp[execOp,F,this,D]) (hn vc w' G)
 ·rename_i t p F
  obtain⟨v,vc,B,C,D⟩:=YR S U A (Bf SS p)
  exact same B (by simp[execOp,F,C]) D
 ·rename_i t p x F
  obtain⟨val,ups,B,J',β',w',C,D,rfl⟩:=lB S U A (Bf SS p) (Bf SS x)
  exact⟨.undef,ups,B,fun _ hn=>nk (w':=w') (by simp[execOp,F,C]) (hn undef w' ⟨J',β',D,by simp[Rep]⟩)⟩
 ·rename_i x F
  have B:=Bf SS x
  split at A
  ·rename_i c oo hx
   rw[hx] at B
   refine same A (vc:=a.eval x) ?_ B
   rw[Rep,RepC] at B
   obtain⟨ad,C,_⟩:=B
   simp[execOp,F,C]
  ·rename_i b oo hx
   rw[hx] at B
   refine same A (vc:=a.eval x) ?_ B
   rw[Rep] at B
   obtain⟨_,kk,o',_,C,_⟩:=B
   simp[execOp,F,C]
  ·simp at A
 ·rename_i op t x y t2 F
  obtain⟨v,vc,B,C,D⟩:=nc S U A (Bf SS x) (Bf SS y) x y
  refine same B ?_ D
  simp only[execOp,F]
  rw[Sem.run_bind,C];simp
 ·rename_i op t x F
  obtain⟨v,M,A⟩:=ub A
  obtain⟨vc,C,D⟩:=tY (P:=E.P) M (Bf SS x)
  exact same A (by simp[execOp,F,C]) D
 ·rename_i src dst x F
  obtain⟨val,ups,B,C⟩:=lH S U A (Bf SS x)
  refine⟨val,ups,B,fun T hn=>?_⟩
  obtain⟨vc,w',D,G⟩:=C T
  exact Ga (by simp[execOp,F,D]) (hn vc w' G)
 ·rename_i f first caps F
  obtain⟨T,A⟩:=uc A
  have hf':f<1000000:=by simpa using T
  have key:∀ (a n:Nat),a<1000000→(a+1000000*n)%1000000=a∧(a+1000000*n)/1000000=n:=by intro a n h;omega
  have e1:=(key f first.toList.length hf').1
  have e2:=(key f first.toList.length hf').2
  refine same (vc:=.func (.func f) ⟨first.toList.map a.eval⟩ ⟨caps.toList.map a.eval⟩) A ?_ ?_
  ·simp only[execOp,F,Instr.makeFunc]
   simp
   refine⟨?_,?_⟩<;>(apply Afa;simp)
  ·rw[Rep,e1,e2]
   refine⟨(first.toList++caps.toList).map a.eval,?_,eF SS _⟩
   simp
 ·rename_i t l c F
  obtain⟨val,ups,B,C⟩:=nV S A (Bf SS l) (Bf SS c)
  refine⟨val,ups,B,fun T hn=>?_⟩
  obtain⟨vc,w',D,G⟩:=C T
  exact Ga (by simp[execOp,F,D]) (hn vc w' G)
 ·rename_i t x lo hi mx F
  obtain⟨v,vc,B,C,D⟩:=lA S U A (Bf SS x) (eG SS lo) (eG SS hi) (eG SS mx)
  exact same B (by simp[execOp,F,C]) D
 ·rename_i t x f F
  obtain⟨v,vc,B,C,D⟩:=VZ A (Bf SS x)
  exact same B (by simp[execOp,F,C]) D
 ·rename_i t x f F
  obtain⟨v,vc,B,C,D⟩:=ky A (Bf SS x)
  exact same B (by simp[execOp,F,C]) D
 ·rename_i t x i F
  obtain⟨v,vc,B,C,D⟩:=VY A (Bf SS x) (Bf SS i)
  exact same B (by simp[execOp,F,C]) D
 ·rename_i t x i F
  obtain⟨v,vc,B,C,D⟩:=kz A (Bf SS x) (Bf SS i)
  exact same B (by simp[execOp,F,C]) D
 ·rename_i t rr F
  cases rr with
  | some x=>simp[Yt] at A
  | none =>
   obtain⟨val,ups,B,C⟩:=eE (P:=E.P) (t:=t) S A
   refine⟨val,ups,B,fun T hn=>?_⟩
   obtain⟨vc,w',D,G⟩:=C T
   exact Ga (by simp[execOp,F,D]) (hn vc w' G)
 ·rename_i t m x y F
  obtain⟨ups,B,J',β',w',C,D⟩:=lL S U A (Bf SS m) (Bf SS x) (Bf SS y)
  exact⟨.undef,ups,B,fun _ hn=>nk (w':=w') (by simp[execOp,F,C]) (hn undef w' ⟨J',β',D,by simp[Rep]⟩)⟩
 ·rename_i t m x c F
  obtain⟨v,vc,B,C,D⟩:=ni S U A (Bf SS m) (Bf SS x)
  exact same B (by simp[execOp,F,C]) D
 ·rename_i t x F
  obtain⟨val,ups,B,C⟩:=lK (P:=E.P) S A (Bf SS x)
  refine⟨val,ups,B,fun T hn=>?_⟩
  obtain⟨vc,w',D,G⟩:=C T
  exact Ga (by simp[execOp,F,D]) (hn vc w' G)
 ·rename_i x b F
  obtain⟨val,ups,B,C⟩:=nh (P:=E.P) (d:=d) (t:=o.type) S U A (Bf SS x)
  refine⟨val,ups,B,fun T hn=>?_⟩
  obtain⟨vc,w',D,G⟩:=C T
  exact Ga (by simp[execOp,F,D]) (hn vc w' G)
 ·rename_i t i F
  split at A
  ·rename_i vs ht
   obtain⟨v,M,A⟩:=ub A
   have B:=Bf SS t
   rw[ht,Rep] at B
   obtain⟨cs,C,D⟩:=B
   rw[Cg] at D
   have hlt:i<cs.length:=by rw[D.1];exact(Aed.1 M).1
   refine same A (vc:=cs[i]) ?_ (D.2 i v _ M (Ad1 hlt))
   simp[execOp,F,Instr.extract,C,hlt]
  ·simp at A
 ·rename_i c F
  split at A
  ·rename_i X
   split at A
   ·rename_i x t B C
    obtain⟨v,M,A⟩:=ub A
    have e1:c.args=#[x]:=by apply Afa;simpa using B
    have e2:c.argTypes=#[t]:=by apply Afa;simpa using C
    obtain⟨vc,D,G⟩:=qZ (P:=E.P) (ty:=o.type) M (Bf SS x)
    refine same A ?_ G
    simp[execOp,F,resolve,X,e1,e2,invoke,builtin,D]
   ·simp at A
  ·rename_i X
   split at A
   ·rename_i x y t tx B C
    have e1:c.args=#[x,y]:=by apply Afa;simpa using B
    have e2:c.argTypes=#[t,tx]:=by apply Afa;simpa using C
    obtain⟨val,ups,D,G⟩:=iM (ty:=o.type) S U A (Bf SS x) (Bf SS y)
    refine⟨val,ups,D,fun T hn=>?_⟩
    obtain⟨vc,w',h5,h6⟩:=G T
    refine Ga ?_ (hn vc w' h6)
    simp[execOp,F,resolve,X,e1,e2,invoke,builtin,h5]
   ·simp at A
  ·rename_i X
   split at A
   ·rename_i x y t tx B C
    have e1:c.args=#[x,y]:=by apply Afa;simpa using B
    have e2:c.argTypes=#[t,tx]:=by apply Afa;simpa using C
    obtain⟨val,ups,D,vc,w',h5,h6⟩:=nY (tx:=tx) (ty:=o.type) S U A (Bf SS x) (Bf SS y)
    refine⟨val,ups,D,fun T hn=>?_⟩
    refine Ga ?_ (hn vc w' h6)
    simp[execOp,F,resolve,X,e1,e2,invoke,builtin,h5]
   ·simp at A
  ·rename_i X
   split at A
   ·rename_i x t B C
    have e1:c.args=#[x]:=by apply Afa;simpa using B
    have e2:c.argTypes=#[t]:=by apply Afa;simpa using C
    obtain⟨val,ups,D,vc,w',h5,h6⟩:=lG (ty:=o.type) S U A (Bf SS x)
    refine⟨val,ups,D,fun T hn=>?_⟩
    refine Ga ?_ (hn vc w' h6)
    simp[execOp,F,resolve,X,e1,e2,invoke,builtin,h5]
   ·simp at A
  ·rename_i X
   split at A
   ·rename_i x y B
    obtain⟨v,M,A⟩:=ub A
    have e1:c.args=#[x,y]:=by apply Afa;simpa using B
    have C:=Bf SS x
    have D:=Bf SS y
    unfold tW at M
    split at M
    ·rename_i k1 a1 k2 a2 hx hy
     simp at M;subst M
     rw[hx,Rep] at C;rw[hy,Rep] at D
     refine same A (vc:=.int k1 (Kg a1 a2)) ?_ (by rw[Rep])
     simp[execOp,F,resolve,X,e1,invoke,builtin,C,D,Builtin.min_,Builtin.min2,Kg,cond_eq_ite]
    ·simp at M
   ·rename_i x y z B
    obtain⟨q,hq,A⟩:=ub A
    obtain⟨v,M,A⟩:=ub A
    have e1:c.args=#[x,y,z]:=by apply Afa;simpa using B
    have C:=Bf SS x
    have D:=Bf SS y
    have G:=Bf SS z
    unfold tW at hq
    split at hq
    ·rename_i k1 a1 k2 a2 hx hy
     simp at hq;subst hq
     unfold tW at M
     split at M
     ·rename_i k3 a3 k4 a4 hx2 hz
      simp at hx2;obtain⟨rfl,rfl⟩:=hx2
      simp at M;subst M
      rw[hx,Rep] at C;rw[hy,Rep] at D;rw[hz,Rep] at G
      refine same A (vc:=.int k1 (Kg (Kg a1 a2) a4)) ?_ (by rw[Rep])
      simp[execOp,F,resolve,X,e1,invoke,builtin,C,D,G,Builtin.min_,Builtin.min2,Kg,cond_eq_ite]
     ·simp at M
    ·simp at hq
   ·simp at A
  ·rename_i X
   split at A
   ·rename_i x y B
    obtain⟨v,M,A⟩:=ub A
    have e1:c.args=#[x,y]:=by apply Afa;simpa using B
    have C:=Bf SS x
    have D:=Bf SS y
    unfold tX at M
    split at M
    ·rename_i k1 a1 k2 a2 hx hy
     simp at M;subst M
     rw[hx,Rep] at C;rw[hy,Rep] at D
     refine same A (vc:=.int k1 (QG a1 a2)) ?_ (by rw[Rep])
     simp[execOp,F,resolve,X,e1,invoke,builtin,C,D,Builtin.max_,Builtin.max2,QG,cond_eq_ite]
    ·simp at M
   ·rename_i x y z B
    obtain⟨q,hq,A⟩:=ub A
    obtain⟨v,M,A⟩:=ub A
    have e1:c.args=#[x,y,z]:=by apply Afa;simpa using B
    have C:=Bf SS x
    have D:=Bf SS y
    have G:=Bf SS z
    unfold tX at hq
    split at hq
    ·rename_i k1 a1 k2 a2 hx hy
     simp at hq;subst hq
     unfold tX at M
     split at M
     ·rename_i k3 a3 k4 a4 hx2 hz
      simp at hx2;obtain⟨rfl,rfl⟩:=hx2
      simp at M;subst M
      rw[hx,Rep] at C;rw[hy,Rep] at D;rw[hz,Rep] at G
      refine same A (vc:=.int k1 (QG (QG a1 a2) a4)) ?_ (by rw[Rep])
      simp[execOp,F,resolve,X,e1,invoke,builtin,C,D,G,Builtin.max_,Builtin.max2,QG,cond_eq_ite]
     ·simp at M
    ·simp at hq
   ·simp at A
  ·rename_i X
   split at A
   ·rename_i x B
    have e1:c.args=#[x]:=by apply Afa;simpa using B
    obtain⟨val,ups,D,G⟩:=V_ (P:=E.P) (d:=d) (ts:=c.argTypes) (ty:=o.type) S U A (Bf SS x)
    refine⟨val,ups,D,fun T hn=>?_⟩
    obtain⟨vc,w',h5,h6⟩:=G T
    refine Ga ?_ (hn vc w' h6)
    simp[execOp,F,resolve,X,e1,invoke,builtin,h5]
   ·simp at A
  ·rename_i X
   split at A
   ·rename_i x y t tx B C
    have e1:c.args=#[x,y]:=by apply Afa;simpa using B
    have e2:c.argTypes=#[t,tx]:=by apply Afa;simpa using C
    obtain⟨val,ups,D,G⟩:=V' (d:=d) (it:=tx) (ty:=o.type) S U A (Bf SS x) (Bf SS y)
    refine⟨val,ups,D,fun T hn=>?_⟩
    obtain⟨vc,w',h5,h6⟩:=G T
    refine Ga ?_ (hn vc w' h6)
    simp[execOp,F,resolve,X,e1,e2,invoke,builtin,h5]
   ·simp at A
  ·rename_i fo X
   split at A
   ·rename_i f0 caps T
    have B:=Bf SS fo
    rw[T,Rep] at B
    obtain⟨cs0,C,Y⟩:=B
    cases I:kp E.P (f0%1000000) with
    | false =>
     rw[I,cond_false] at A
     obtain⟨hne,A⟩:=uc A
     split at A
     ·rename_i x L hold
      rw[Reps] at Y;subst Y
      obtain⟨y,hy,rfl⟩:∃ y,c.args=#[y]∧x=ev s y:=by
       cases U:c.args.toList with
       | nil=>rw[U] at L;cases L
       | cons y l =>
        rw[U] at L;simp at L
        exact⟨y,by apply Afa;rw[U,L.2],L.1.symm⟩
      refine same (vc:=a.eval y) A ?_ (Bf SS y)
      simp only[execOp,F,Sem.run_bind,resolve,X,C,Deferred.ofValue,Sem.run_pure,Result.andThen_ok,invoke,hy]
      simpa using t6 hne (a.eval y) w
     ·simp at A
    | true =>
    rw[I,cond_true] at A
    have htk:Reps J β h w (caps.take (f0/1000000)) (cs0.take (f0/1000000))∧Reps J β h w (caps.drop (f0/1000000)) (cs0.drop (f0/1000000)):=by
     rw[Cg] at Y
     refine⟨Cg.2 ⟨by simp[Y.1],fun j x u hx hu=>?_⟩,Cg.2 ⟨by simp[Y.1],fun j x u hx hu=>?_⟩⟩
     ·rw[Afg] at hx hu
      split at hx
      ·rename_i hj;rw[if_pos hj] at hu;exact Y.2 j x u hx hu
      ·simp at hx
     ·rw[Ae8] at hx hu;exact Y.2 _ x u hx hu
    generalize f0%1000000=f at *
    generalize cs0.take (f0/1000000)=fs at *
    generalize cs0.drop (f0/1000000)=cs at *
    obtain⟨val,ups,G,h5⟩:=hC R r k J β h w g d f _ _ S U A (htk.1.append ((eF SS c.args.toList).append htk.2))
    refine⟨val,ups,G,fun hfr hn=>?_⟩
    have hcall:=h5 hfr
    unfold kp at I
    cases hfn:E.P.funcs[f]? with
    | none=>rw[hfn] at I;simp at I
    | some fn =>
     rw[hfn] at I
     simp at I
     obtain⟨hb1,hb2⟩:=I
     have hb3:fn.body.isNone=false:=by cases hq:fn.body<;>simp_all
     have L:(⟨fs⟩:Array Value)++c.args.map a.eval++(⟨cs⟩:Array Value)=(fs++(c.args.toList.map a.eval++cs)).toArray:=by apply Afa;simp
     have hrun:(execOp a.eval o).run E.P w=.ok (.enter f (fs++(c.args.toList.map a.eval++cs)).toArray) w:=by
      simp only[execOp,F,Sem.run_bind,resolve,X,C,Deferred.ofValue,Sem.run_pure,Result.andThen_ok,invoke,callFunc,run_program,hfn]
      simp only[hb3,L]
      simp[hb2]
     unfold Oper.wp
     rw[hrun]
     refine Calls.mono hcall ?_
     rintro e w' ⟨vc,rfl,hd⟩
     exact hn vc w' hd
   ·simp at A
  ·simp at A
 ·simp at A
end
end Gx
