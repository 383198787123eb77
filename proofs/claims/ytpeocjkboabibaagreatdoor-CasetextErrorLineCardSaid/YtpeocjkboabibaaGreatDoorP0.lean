/- A part of the proof; each theorem says what it holds. -/
import GoSem.Step
import Derived.KernelRfl
import Derived.WalkKit
import Derived.Deep.MidRow
import Derived.Deep.AppendSrc
import Derived.Laws.IdiomStrings
import Derived.Deep.Upon
import Derived.Lib.Builder
import Derived.Laws.BytesString
import Derived.Lib.UnsafeStr
import Derived.Laws.Externs
import Derived.Laws.Tables
import Derived.Laws.StructEq
import Derived.ChangeKeysEq
import Derived.MapKept
set_option linter.unusedVariables false
set_option linter.defProp false
set_option linter.unusedSimpArgs false
open Nat (ble beq)
open List (take drop replicate)
open Go.IntKind (wrap)
namespace Gx
abbrev Lu:=List UInt8
def Aua:=@List.length_append
def Aub:=@List.length_cons
def Auc:=@List.length_map
def Aud:=@List.length_nil
def Aue:=@List.take_of_length_le
def Auf:=@Int.toNat_natCast
def Aug:=@List.getElem?_eq_getElem
def Auh:=@Bool.and_eq_true
def Aui:=@Nat.le_refl
def Auj:=@Option.bind_assoc
def Auk:=@List.append_nil
def Aul:=@List.mem_append
def Aum:=@List.mem_cons
def Aun:=@List.append_assoc
def Auo:=@List.getD_eq_getElem?_getD
def Aup:=@List.cons_append
def Auq:=@List.map_cons
def Aur:=@List.getElem_mem
def Aus:=@Nat.eq_of_beq_eq_true
def Aut:=@List.getElem_of_mem
def Auu:=@List.not_mem_nil
def Auv:=@List.all_eq_true
def Auw:=@List.getElem?_eq_some_iff
def Aux:=@Nat.zero_add
def Auy:=@List.mem_map
def Auz:=@Nat.mul_one
def Au0:=@List.drop_zero
def Au1:=@List.flatMap_cons
def Au2:=@List.mem_cons_of_mem
def Au3:=@List.nil_append
def Au4:=@List.take_succ_eq_append_getElem
def Au5:=@List.all_cons
def Au6:=@List.drop_eq_getElem_cons
def Au7:=@Nat.pow_succ
def Au8:=@Nat.mul_le_mul_right
def Au9:=@List.map_append
def Ava:=@List.mem_singleton
def Avb:=@Nat.pow_le_pow_right
def Avc:=@List.length_singleton
def Avd:=@List.length_take
def Ave:=@List.head?_eq_getElem?
def Avf:=@List.mem_map_of_mem
def Avg:=@Nat.mod_eq_of_lt
def Avh:=@Rat.num_intCast
def Avi:=@Bool.true_and
def Avj:=@Nat.add_assoc
def Avk:=@List.mem_cons_self
def Avl:=@List.take_length
def Avm:=@List.drop_succ_cons
def Avn:=@List.flatMap_append
def Avo:=@Nat.min_eq_left
def Avp:=@Int.sign_eq_neg_one_of_neg
def Avq:=@List.getElem?_append
def Avr:=@Bool.or_assoc
def Avs:=@List.nodup_cons
def Avt:=@Nat.mul_add
def Avu:=@Nat.mul_assoc
def Avv:=@Nat.eq_zero_or_pos
def Avw:=@Bool.false_or
def Avx:=@Option.bind_some
def Avy:=@Array.getElem?_eq_none
def Avz:=@Bool.not_false
def Av0:=@Bool.or_eq_false_iff
def Av1:=@Int.sign_eq_one_of_pos
def Av2:=@Nat.le_trans
def Av3:=@Nat.lt_of_lt_of_le
def Av4:=@List.getElem?_eq_none
def Av5:=@Nat.add_mul
def Av6:=@Nat.mul_comm
def Av7:=@Bool.not_true
def Av8:=@List.drop_eq_nil_of_le
def Av9:=@List.map_nil
def Awa:=@List.all_nil
def Awb:=@List.getElem?_map
def Awc:=@Array.getElem?_eq_some_iff
def Awd:=@List.getElem?_drop
def Awe:=@Rat.den_intCast
def Awf:=@Option.some.injEq
def Awg:=@Bool.and_true
def Awh:=@Bool.or_false
def Awi:=@List.take_left'
def Awj:=@List.getElem?_take
def Awk:=@Nat.lt_of_le_of_lt
def Awl:=@List.length_eq_zero_iff
def Awm:=@Nat.div_eq_of_lt
def Awn:=@Array.getD_eq_getD_getElem?
def Awo:=@List.any_cons
def Awp:=@List.take_zero
def Awq:=@Bool.false_eq_true
def Awr:=@Int.natAbs_natCast
def Aws:=@Int.natCast_zero
def Awt:=@List.flatMap_nil
def Awu:=@Nat.add_zero
def Awv:=@List.any_eq_false
def Aww:=@Array.ext'
def Awx:=@List.foldl_cons
def Awy:=@List.mem_filter
def Awz:=@Nat.div_add_mod
def Aw0:=@Nat.mod_lt
def Aw1:=@Nat.mul_le_mul_left
def Aw2:=@Bool.or_true
def Aw3:=@Bool.true_or
def Aw4:=@List.any_nil
def Aw5:=@Nat.pow_add
def Aw6:=@Nat.zero_mul
def Aw7:=@List.map_congr_left
def Aw8:=@Bool.and_assoc
def Aw9:=@List.filter_cons
def Axa:=@List.mem_flatMap
def Axb:=@Nat.le_of_not_lt
def Axc:=@List.contains_cons
def Axd:=@List.map_map
def Axe:=@Nat.div_le_self
def Axf:=@Array.getElem?_modify
def Axg:=@Eq.trans
def Axh:=@List.mem_of_mem_take
def Axi:=@List.replicate_succ
def Axj:=@List.take_succ_cons
def Axk:=@BitVec.toNat_ofNat
def Axl:=@Nat.zero_le
def Axm:=@List.getElem_cons_succ
def Axn:=@Option.map_eq_some_iff
def Axo:=@Array.getElem?_setIfInBounds_ne
def Axp:=@List.take_append_drop
def Axq:=@Option.bind_none
def Axr:=@List.eq_nil_of_length_eq_zero
def Axs:=@List.getLast?_append
def Axt:=@Nat.pow_pos
def Axu:=@Array.getElem?_setIfInBounds
def Axv:=@Bool.or_eq_true
def Axw:=@List.dropLast_concat_getLast
def Axx:=@Array.length_toList
def Axy:=@List.filter_eq_self
def Axz:=@Nat.add_comm
def Ax0:=@Nat.lt_or_ge
def Ax1:=@Array.getElem?_append_left
def Ax2:=@List.drop_left
def Ax3:=@List.pairwise_cons
def Ax4:=@Bool.not_eq_true'
def Ax5:=@Int.lt_trichotomy
def Ax6:=@List.nodup_append
def Ax7:=@Nat.dvd_mul_right
def Ax8:=@Nat.mul_left_comm
def Ax9:=@Array.size_setIfInBounds
def Aya:=@Int.mul_ediv_cancel_left
def Ayb:=@List.cons.inj
def Ayc:=@Nat.gcd_pos_of_pos_right
def Ayd:=@Option.isSome_iff_exists
def Aye:=@List.append_cons
def Ayf:=@List.getLast_eq_getElem
def Ayg:=@List.range'_succ
def Ayh:=@Nat.add_sub_cancel_left
def Ayi:=@Nat.gcd_dvd_left
def Ayj:=@Nat.le_mul_of_pos_right
def Ayk:=@Nat.mul_lt_mul''
def Ayl:=@Bool.or_comm
def Aym:=@List.getElem_cons_zero
def Ayn:=@Nat.beq_eq
def Ayo:=@Nat.div_div_eq_div_mul
def Ayp:=@Nat.gcd_comm
def Ayq:=@Nat.pow_zero
def Ayr:=@Nat.le_max_left
def Ays:=@UInt8.toNat_inj
def Ayt:=@Array.getElem?_toList
def Ayu:=@List.set_append_right
def Ayv:=@List.set_getElem_self
def Ayw:=@List.getElem?_zipIdx
def Ayx:=@List.mapM_cons
def Ayy:=@List.mem_of_getElem?
def Ayz:=@List.mem_of_getLast?
def Ay0:=@List.mem_of_mem_drop
def Ay1:=@List.nodup_nil
def Ay2:=@List.pairwise_append
def Ay3:=@List.take_left
def Ay4:=@Nat.add_mul_div_left
def Ay5:=@Nat.mul_le_mul
def Ay6:=@Nat.mul_pos
def Ay7:=@Nat.one_mul
def Ay8:=@Nat.pow_mul
def Ay9:=@Int.toNat_of_nonneg
def Aza:=@Nat.pow_le_pow_left
def Azb:=@List.drop_nil
def Azc:=@Prod.mk.injEq
def Azd:=@Int.tmod_lt_of_pos
def Aze:=@List.append_of_mem
def Azf:=@List.set_cons_zero
def Azg:=@Nat.add_sub_cancel
def Azh:=@Nat.ble_eq
def Azi:=@Nat.gcd_zero_right
def Azm:=@Nat.succ_mul
def Azx:=@Nat.pow_two
end Gx
namespace Gx
open Go
inductive AV where
|int (k:IntKind) (n:Int)
|bool (b:Bool)
|str (s:List UInt8)
|nsl
|imm (c:List AV) (len sz:Nat) (tight org:Bool)
|iptr (c:List AV) (org:Bool)
|pagg (c:List AV) (org:Bool)
|own (b off len:Nat)
|optr (b off:Nat)
|agg (c:List AV)
|tup (c:List AV)
|fn (f:Nat) (caps:List AV)
|nilptr
|nilfn
|undef
|omap (b:Nat)
abbrev A08(k n:Nat):AV:=.own (300000+k) 0 n
abbrev A09:AV:=.int .i64 0
structure Blk where
 dead:Bool
 sealed:Bool
 pure:Bool
 taint:Bool
 sz:Nat
 cells:List AV
 mp:Bool:=false
 ty:Option (Nat×Nat):=none
abbrev LA:=List AV
abbrev O(R:Type):=Option R
abbrev Az:=List (Nat×Blk)
abbrev Iq:=List (Nat×AV)
def Al:Az->Nat->Option Blk
|[],_=>none
|(i,x)::r,b=>cond (beq i b) (some x) (Al r b)
def Hs:Az->Nat->Blk->Az
|[],b,y=>[(b,y)]
|(i,x)::r,b,y=>cond (beq i b) ((b,y)::r) (cond (Nat.blt b i) ((b,y)::(i,x)::r) ((i,x)::Hs r b y))
def Ht:Iq->Nat->AV
|[],_=>.undef
|(i,x)::r,b=>cond (beq i b) x (Ht r b)
def bW:Iq->Nat->AV->Iq
|[],b,y=>[(b,y)]
|(i,x)::r,b,y=>cond (beq i b) ((b,y)::r) (cond (Nat.blt b i) ((b,y)::(i,x)::r) ((i,x)::bW r b y))
structure St where
 s:Iq
 h:Az
mutual
def iK:Value->AV
|.int k n=>.int k n
|.bool b=>.bool b
|.string ⟨⟨s⟩⟩=>.str s
|.slice none 0 0=>.nsl
|.pointer none=>.nilptr
|.nilFunc=>.nilfn
|.agg ⟨cs⟩=>.agg (T2 cs)
|_=>.undef
def T2:List Value->List AV
|[]=>[]
|v::r=>iK v::T2 r
end
def ev(s:Iq):Operand->AV
|.tmp t=>Ht s t
|.const v=>iK v
|.func f=>cond (Nat.blt f 1000000) (.fn f []) .undef
|.global _=>.undef
def Cw(P:Program)(t:TypeId):Option Nat:=(P.info? t).map (·.size)
def uu(P:Program)(t:TypeId):Option Nat:=(P.info? t).map (·.bytes)
def Ad3(P:Program)(t:TypeId):Bool:=((P.info? t).map (·.hasPointers)).getD true
def xi(P:Program)(t:TypeId):Option AV:=((P.info? t).bind (·.zero)).map iK
def Bg:LA->Bool
|[]=>true
|.int ..::r=>Bg r
|.bool _::r=>Bg r
|.str _::r=>Bg r
|.nsl::r=>Bg r
|.nilptr::r=>Bg r
|.nilfn::r=>Bg r
|_=>false
def kE(P:Program)(t:TypeId):Option LA:=(P.info? t).bind fun i=>(i.zero).bind fun v=>cond (Bg (T2 v.cells.toList)&&beq v.cells.toList.length i.size) (some (T2 v.cells.toList)) none
def iL(op:BinOp)(k:IntKind)(a b:Int):Option AV :=
 match op with
|.add=>some (.int k (k.wrap (a+b)))
|.sub=>some (.int k (k.wrap (a - b)))
|.mul=>some (.int k (k.wrap (a*b)))
|.and=>some (.int k (k.wrap ((BitVec.ofInt k.bits a &&& BitVec.ofInt k.bits b).toNat:Int)))
|.or=>some (.int k (k.wrap ((BitVec.ofInt k.bits a ||| BitVec.ofInt k.bits b).toNat:Int)))
|.xor=>some (.int k (k.wrap ((BitVec.ofInt k.bits a ^^^ BitVec.ofInt k.bits b).toNat:Int)))
|.andNot=>some (.int k (k.wrap ((BitVec.ofInt k.bits a &&& ~~~ (BitVec.ofInt k.bits b)).toNat:Int)))
|.eql=>some (.bool (a==b))
|.neq=>some (.bool (a != b))
|.lss=>some (.bool (decide (a<b)))
|.leq=>some (.bool (decide (a<=b)))
|.gtr=>some (.bool (decide (a>b)))
|.geq=>some (.bool (decide (a>=b)))
|_=>none
def Sc(k k':IntKind):Bool:=decide (k=k')
def WT(P:Program)(t:TypeId):Bool:=match P.underlying t with|some .bool=>true|_=>false
def Afr{R:Type}(P:Program)(t:TypeId)(op:BinOp)(x y:AV)(r:AV->O R):O R :=
 match x,y with
|.int k a,.int k' b =>
  match op with
  |.shl=>cond (decide (b<0)) none (r (.int k (k.wrap (a*2 ^ (min b.toNat k.bits)))))
  |.shr=>cond (decide (b<0)) none (r (.int k (a.fdiv (2 ^ (min b.toNat k.bits)))))
  |.quo=>cond (Sc k k') (cond (b==0) none (r (.int k (k.wrap (a.tdiv b))))) none
  |.rem=>cond (Sc k k') (cond (b==0) none (r (.int k (a.tmod b)))) none
  |op=>cond (Sc k k') ((iL op k a b).bind r) none
|.bool a,.bool b =>
  match op with
  |.eql=>cond (WT P t) (r (.bool (a==b))) none
  |.neq=>cond (WT P t) (r (.bool (!(a==b)))) none
  |_=>none
|.str a,.str b =>
  match op with
  |.add=>cond (ble (a.length+b.length) 140737488355328) (r (.str (a++b))) none
  |.eql=>r (.bool (a==b))
  |.neq=>r (.bool (!(a==b)))
  |.lss=>r (.bool (Op.bytesLess a b))
  |.leq=>r (.bool (Op.bytesLess a b||a==b))
  |.gtr=>r (.bool (!(Op.bytesLess a b||a==b)))
  |.geq=>r (.bool (!Op.bytesLess a b))
  |_=>none
|_,_=>none
def Arb(op:UnOp)(x:AV):Option AV :=
 match op,x with
|.neg,.int k n=>some (.int k (k.wrap (0 - n)))
|.xor,.int k n=>iL .xor k (cond k.signed (-1) k.max) n
|.not,.bool b=>some (.bool (!b))
|_,_=>none
def kF(k:IntKind):AV->Option Int
|.int k' n=>cond (Sc k k') (some n) none
|_=>none
def asBool:AV->Option Bool
|.bool b=>some b
|_=>none
def kG:AV->Option Lu
|.str s=>some s
|_=>none
def Aim(sz:Nat):AV->Option (LA×Nat)
|.imm c len sz' _ _=>cond (beq sz sz') (some (c,len)) none
|.nsl=>some ([],0)
|_=>none
def Ain:AV->Option UInt8
|.int .u8 n=>some (UInt8.ofNat n.toNat)
|_=>none
def eI:LA->Option Lu
|[]=>some []
|x::r=>(Ain x).bind fun b=>(eI r).bind fun l=>some (b::l)
def KP{R:Type}(step:TypeId->LA->LA->(Bool->O R)->O R)(x y:LA):List (Nat×TypeId)->(Bool->O R)->O R
|[],k=>k true
|(off,t)::r,k=>step t (x.drop off) (y.drop off) fun b=>KP step x y r fun c=>k (b&&c)
def uv(P:Program)(sz:Nat)(f:Field):Bool:=match Cw P f.type with
|some s => ble 1 s && (ble (f.offset + s) sz && !(f.name == "_"))
|none=>false
def mN{R:Type}(P:Program):Nat->TypeId->LA->LA->(Bool->O R)->O R
|0,_,_,_,_=>none
|d+1,t,x,y,k=>match P.underlying t with
  |some (.int kd)=>(x.head?).bind fun u=>(kF kd u).bind fun a=>(y.head?).bind fun v=>(kF kd v).bind fun b=>k (a==b)
  |some .bool=>(x.head?).bind fun u=>(asBool u).bind fun a=>(y.head?).bind fun v=>(asBool v).bind fun b=>k (a==b)
  |some .string=>(x.head?).bind fun u=>(kG u).bind fun a=>(y.head?).bind fun v=>(kG v).bind fun b=>k (a==b)
  |some (.struct fs)=>(Cw P t).bind fun sz=>cond (P.stoodInHeld t||!(fs.toList.all (uv P sz))) none (KP (mN P d) x y (fs.toList.map fun f=>(f.offset,f.type)) k)
  |some (.array n e)=>(Cw P e).bind fun s=>(Cw P t).bind fun sz=>cond (ble 1 s&&ble (n*s) sz) (KP (mN P d) x y ((List.range n).map fun i=>(i*s,e)) k) none
  |_=>none
def uw:AV->Option LA
|.pagg c _=>some c
|.agg c=>some c
|_=>none
def Aio(P:Program)(t:TypeId):Bool:=match P.underlying t with|some (.struct _)=>true|some (.array _ _)=>true|_=>false
def tR{R:Type}(P:Program)(t:TypeId)(op:BinOp)(x y:AV)(r:AV->O R):O R :=
 match uw x,uw y with
| some a,some b=>(Cw P t).bind fun s=>cond (ble 1 s&&(beq a.length s&&(beq b.length s&&(Aio P t&&!(P.eqGuardType P.depth t)))))
  (match op with
   |.eql=>mN P 8 t a b fun c=>r (.bool c)
   |.neq=>mN P 8 t a b fun c=>r (.bool (!c))
   | _=>none) none
|_,_=>Afr P t op x y r
def CM{R:Type}(P:Program)(t:TypeId)(c:LA)(org:Bool)(k:Bool->O R):O R:=cond (Ad3 P t) (k org) (cond (!org||Bg c) (k false) none)
def SR{R:Type}(P:Program)(t:TypeId)(c:LA)(org:Bool)(k:AV->O R):O R :=
 match P.underlying t with
|some (.int kd)=>(c.head?).bind fun x=>(kF kd x).bind fun n=>k (.int kd n)
|some .bool=>(c.head?).bind fun x=>(asBool x).bind fun b=>k (.bool b)
|some .string=>(c.head?).bind fun x=>(kG x).bind fun s=>k (.str s)
|some (.slice e)=>(Cw P e).bind fun sz=>(c.head?).bind fun x=>(Aim sz x).bind fun p=>k (.imm p.1 p.2 sz false org)
|some (.struct _)=>(Cw P t).bind fun n=>cond (ble n c.length) (CM P t (c.take n) org fun o=>k (.pagg (c.take n) o)) none
|some (.array _ _)=>(Cw P t).bind fun n=>cond (ble n c.length) (CM P t (c.take n) org fun o=>k (.pagg (c.take n) o)) none
|_=>none
def M_{R:Type}(n:Nat)(k:AV->O R):LA->Nat->O R
|[],_=>none
|v::r,i=>cond (beq n i) (k v) (M_ n k r (i+1))
def kH{R:Type}(P:Program)(t:TypeId)(c:LA)(k:AV->O R):O R :=
 match P.underlying t with
|some (.struct _)=>(Cw P t).bind fun n=>cond (ble n c.length) (k (.agg (c.take n))) none
|some (.array _ _)=>(Cw P t).bind fun n=>cond (ble n c.length) (k (.agg (c.take n))) none
|some _=>(c.head?).bind k
|none=>none
def ST{R:Type}(P:Program)(t:TypeId)(c:LA)(off:Nat)(k:AV->O R):O R :=
 match P.underlying t with
|some (.struct _)=>(Cw P t).bind fun n=>cond (ble n (c.drop off).length) (k (.agg ((c.drop off).take n))) none
|some (.array _ _)=>(Cw P t).bind fun n=>cond (ble n (c.drop off).length) (k (.agg ((c.drop off).take n))) none
|some _=>M_ off k c 0
|none=>none
abbrev B7:=Nat->Option Blk
def K6(g:B7)(b:Nat):Option Blk:=(g b).bind fun x=>cond x.dead none (some x)
def oA{R:Type}(P:Program)(g:B7)(t:TypeId)(p:AV)(k:AV->O R):O R :=
 match p with
|.iptr c org=>SR P t c org k
|.optr b off=>(K6 g b).bind fun x=>cond x.pure (SR P t (x.cells.drop off) x.taint k) (ST P t x.cells off k)
|_=>none
def Ai(i:Int)(n:Nat):Bool:=decide (0<=i)&&decide (i<(n:Int))
def W4{R:Type}(P:Program)(t:TypeId)(x i:AV)(k:AV->O R):O R :=
 match P.underlying t,x,i with
|some (.slice el),.imm c len sz _ org,.int _ i=>(Cw P el).bind fun sz'=>cond (beq sz sz') (cond (Ai i len) (k (.iptr (c.drop (i.toNat*sz)) org)) none) none
|some (.slice el),.own b off len,.int _ i=>(Cw P el).bind fun sz=>cond (Ai i len) (k (.optr b (off+i.toNat*sz))) none
|some (.array len el),.iptr c org,.int _ i=>(Cw P el).bind fun sz=>cond (Ai i len) (k (.iptr (c.drop (i.toNat*sz)) org)) none
|some (.array len el),.optr b off,.int _ i=>(Cw P el).bind fun sz=>cond (Ai i len) (k (.optr b (off+i.toNat*sz))) none
|_,_,_=>none
def ng(P:Program)(t:TypeId)(f:Nat):Option (Nat×TypeId) :=
 match P.underlying t with
|some (.struct fs)=>(fs[f]?).map fun x=>(x.offset,x.type)
|_=>none
def W5{R:Type}(P:Program)(t:TypeId)(x:AV)(f:Nat)(k:AV->O R):O R :=
 (ng P t f).bind fun p=>(Cw P p.2).bind fun n=>cond (beq n 0) none
 (match x with
|.iptr c org=>k (.iptr (c.drop p.1) org)
|.optr b off=>k (.optr b (off+p.1))
| _=>none)
def iM{R:Type}(P:Program)(t:TypeId)(x:AV)(f:Nat)(k:AV->O R):O R :=
 (ng P t f).bind fun p =>
 match x with
|.pagg c org=>SR P p.2 (c.drop p.1) org k
|.agg c=>kH P p.2 (c.drop p.1) k
|_=>none
def iN{R:Type}(P:Program)(t:TypeId)(x i:AV)(k:AV->O R):O R :=
 match P.underlying t,x,i with
|some .string,.str s,.int _ i=>cond (Ai i s.length) (k (.int .u8 ((s.getD i.toNat 0).toNat:Int))) none
|some (.array len el),.pagg c org,.int _ i=>(Cw P el).bind fun sz=>cond (Ai i len) (SR P el (c.drop (i.toNat*sz)) org k) none
|some (.array len el),.agg c,.int _ i=>(Cw P el).bind fun sz=>cond (Ai i len) (ST P el c (i.toNat*sz) k) none
|_,_,_=>none
def eJ(o:Option AV)(d:Nat):Option Int:=match o with|none=>some (d:Int)|some (.int _ i)=>some i|_=>none
def CN{R:Type}(lo hi mx:Option AV)(n:Nat)(k:Nat->Nat->O R):O R :=
 (eJ lo 0).bind fun l=>(eJ hi n).bind fun h=>(eJ mx n).bind fun m=>cond (mx.isSome&&!hi.isSome) none <|
 cond (decide (0<=l)&&(decide (l<=h)&&(decide (h<=m)&&decide (m<=(n:Int))))) (k l.toNat h.toNat) none
def Ad4(tight:Bool)(hi mx:Option AV):Bool:=match hi,mx with|none,none=>tight|some (.int _ a),some (.int _ b)=>a==b|_,_=>false
def iO{R:Type}(P:Program)(g:B7)(t:TypeId)(x:AV)(lo hi mx:Option AV)(k:AV->O R):O R :=
 match P.underlying t,x with
|some .string,.str s=>cond mx.isSome none (CN lo hi none s.length fun l h=>k (.str ((s.drop l).take (h - l))))
|some (.slice el),.nsl=>(Cw P el).bind fun _=>CN lo hi mx 0 fun _ _=>k .nsl
| some (.slice el),.imm c n sz tight org=>(Cw P el).bind fun sz'=>cond (beq sz sz') (CN lo hi mx n fun l h =>
   k (.imm ((c.drop (l*sz)).take ((h - l)*sz)) (h - l) sz (Ad4 tight hi mx) org)) none
|some (.slice el),.own b off n=>(Cw P el).bind fun sz=>(K6 g b).bind fun y=>cond (beq sz y.sz) (CN lo hi mx n fun l h=>k (.own b (off+l*sz) (h - l))) none
|some (.array n el),.optr b off=>(Cw P el).bind fun _=>(K6 g b).bind fun y=>cond (beq y.sz 0&&(ble (off+n) y.cells.length&&(lo.isNone&&(hi.isNone&&mx.isNone)))) (k (.own b off n)) none
|_,_=>none
def Aol(P:Program)(t:TypeId)(x:AV):Option AV :=
 match P.underlying t,x with
|some (.slice _),.nsl=>some (.int .i64 0)
|some (.slice _),.imm _ n _ _ _=>some (.int .i64 n)
|some (.slice _),.own _ _ n=>some (.int .i64 n)
|some .string,.str s=>some (.int .i64 s.length)
|some (.array n _),_=>some (.int .i64 n)
|_,_=>none
def tS(g:B7)(sz:Nat):AV->Option (LA×Nat×Bool)
|.nsl=>some ([],0,false)
|.imm c n sz' _ org=>cond (beq sz sz') (some (c,n,org)) none
|.own b off n=>(K6 g b).bind fun x=>cond (x.pure&&beq sz x.sz) (some ((x.cells.drop off).take (n*sz),n,x.taint)) none
|.str s=>cond (beq sz 1) (some (s.map fun b=>.int .u8 (b.toNat:Int),s.length,false)) none
|_=>none
def bX{R:Type}(P:Program)(el:TypeId)(g:B7)(sz:Nat)(x:AV)(k:LA×Nat×Bool->O R):O R:=(tS g sz x).bind fun q=>CM P el q.1 q.2.2 fun o=>k (q.1,q.2.1,o)
abbrev Ip:=List (Nat×Option Blk)
def aC(g:B7):AV->Option (AV×Ip×Bool)
|.own b off n=>(K6 g b).bind fun x=>cond x.pure (some (.imm ((x.cells.drop off).take (n*x.sz)) n x.sz false x.taint,[(b,some {x with sealed:=true})],x.taint)) none
|.optr ..|.agg _|.tup _|.undef|.fn ..|.omap _=>none
|.imm c n sz t org=>some (.imm c n sz t org,[],org)
|.iptr c org=>some (.iptr c org,[],org)
|.pagg _ _=>none
|v=>some (v,[],false)
def ED(g:B7):LA->Option (LA×Ip×Bool)
|[]=>some ([],[],false)
|v::r=>(aC g v).bind fun p=>(ED g r).bind fun q=>some (p.1::q.1,p.2.1++q.2.1,p.2.2||q.2.2)
def DM(g:B7):AV->Option (LA×Ip×Bool)
|.pagg c org=>some (c,[],org)
|.agg c=>ED g c
|v=>ED g [v]
def Ga(c:LA)(off:Nat)(vs:LA):LA:=c.take off++vs++c.drop (off+vs.length)
def Bi:Ip->Nat->Bool
|[],_=>false
|(i,_)::r,b=>cond (beq i b) true (Bi r b)
def KQ(g:B7):AV->Bool
|.own b _ _=>(K6 g b).isSome
|.optr b _=>(K6 g b).isSome
|.agg _=>false
|.pagg _ _=>false
|.tup _=>false
|.undef=>false
|.omap _=>false
|_=>true
def DN(g:B7):LA->Bool
|[]=>true
|v::r=>KQ g v&&DN g r
def setCells(c:LA)(off:Nat)(vs:LA):LA:=match vs with|[y]=>c.set off y|ys=>Ga c off ys
def iP {R:Type} (P:Program) (g:B7) (t:TypeId) (p v:AV) (k:AV->Ip->O R):O R :=
  match p with
  | .optr b off=>(K6 g b).bind fun x=>(Cw P t).bind fun n =>
    cond x.sealed none
    (cond x.pure
      ((DM g v).bind fun q=>cond (beq q.1.length n&&(ble (off+n) x.cells.length&&!Bi q.2.1 b))
        (k .undef (q.2.1++[(b,some { x with cells:=setCells x.cells off q.1,taint:=x.taint||q.2.2 })])) none)
      (match v with
        |.agg c=>cond (DN g c&&(beq c.length n&&ble (off+n) x.cells.length)) (k .undef [(b,some {x with cells:=Ga x.cells off c})]) none
        |.pagg c org=>cond (beq off 0&&(beq c.length n&&beq x.cells.length n)) (k .undef [(b,some {x with pure:=true,taint:=org,cells:=c})]) none
        | v=>cond (KQ g v&&(beq n 1&&Nat.blt off x.cells.length)) (k .undef [(b,some { x with cells:=x.cells.set off v })]) none))
  |_=>none
def Jg:Nat:=1000000
def nid(d:Nat):Nat:=1000000+d*16
def ux(P:Program)(t:TypeId):Option (Nat×Nat) :=
 match P.underlying t with
| some (.struct fs)=>(fs[0]?).bind fun f=>match P.underlying f.type with
  |some (.pointer u)=>cond (beq u t) ((Cw P t).map fun n=>(t,n)) none
  |some (.struct gs)=>(gs[0]?).bind fun g=>match P.underlying g.type with
   |some (.pointer u)=>cond (beq u f.type) ((Cw P t).map fun n=>(t,n)) none
   |_=>none
  |_=>none
|_=>none
def Zh(d:Nat)(pure taint:Bool)(sz:Nat)(cells:LA):Ip:=[(nid d,some {dead:=false,sealed:=false,pure,taint,sz,cells})]
def xj{R:Type}(P:Program)(g:B7)(d:Nat)(t:TypeId)(v:AV)(k:AV->Ip->O R):O R :=
 match v with
|.pagg c org=>k (.optr (nid d) 0) (Zh d true org 0 c)
| .agg c =>
  cond (Ad3 P t) (cond (DN g c&&beq c.length ((Cw P t).getD 0)) (k (.optr (nid d) 0) [(nid d,some {dead:=false,sealed:=false,pure:=false,taint:=false,sz:=0,cells:=c,ty:=ux P t})]) none)
   ((ED g c).bind fun q=>k (.optr (nid d) 0) (q.2.1++Zh d true q.2.2 0 q.1))
|v=>cond (KQ g v) (k (.optr (nid d) 0) (Zh d false false 0 [v])) none
def Hu(sz:Nat):Blk:={dead:=false,sealed:=false,pure:=true,taint:=false,sz,cells:=[]}
def Aip(co:Bool)(v:AV):AV:=match co,v with
|true,.agg c=>cond (Bg c) (.pagg c false) (.agg c)
|_,v=>v
def iQ{R:Type}(P:Program)(g:B7)(co:Bool)(d:Nat)(t:TypeId)(k:AV->Ip->O R):O R :=
 match P.underlying t,xi P t with
|some (.slice el),some .nsl=>(Cw P el).bind fun sz=>k (.optr (nid d) 0) [(nid d+1,some (Hu sz)),(nid d,some {dead:=false,sealed:=false,pure:=false,taint:=false,sz:=0,cells:=[.own (nid d+1) 0 0]})]
|_,some z=>xj P g d t (Aip co z) k
|_,none=>none
def Wk(place:Nat->Option (Nat×Nat)):List (Nat×LA)->LA->Option LA
|[],c=>some c
|(i,vs)::r,c=>(place i).bind fun p=>cond (beq vs.length p.2&&ble (p.1+p.2) c.length) (Wk place r (setCells c p.1 vs)) none
def kI{R:Type}(place:Nat->Option (Nat×Nat)):List (Nat×LA)->LA->(LA->O R)->O R
|[],c,k=>k c
|(i,vs)::r,c,k=>(place i).bind fun p=>cond (beq vs.length p.2&&ble (p.1+p.2) c.length) (kI place r (setCells c p.1 vs) k) none
def Sp(n:Nat)(z:LA):LA:=match z with|[v]=>replicate n v|z=>(replicate n z).flatten
def DO(g:B7):List (Nat×AV)->Option (List (Nat×LA)×Ip×Bool)
|[]=>some ([],[],false)
|(i,v)::r=>(DM g v).bind fun q=>(DO g r).bind fun q'=>some ((i,q.1)::q'.1,q.2.1++q'.2.1,q.2.2||q'.2.2)
def Up{R:Type}(P:Program)(g:B7)(d:Nat)(t:TypeId)(len:Nat)(parts:List (Nat×AV))(k:AV->Ip->O R):O R :=
 match P.underlying t with
| some (.slice el)=>(Cw P el).bind fun sz=>(kE P el).bind fun z=>(DO g parts).bind fun q =>
  cond (ble (len*sz) 16777216) (kI (fun i=>some (i*sz,sz)) q.1 (Sp len z) fun cells =>
   k (.own (nid d) 0 len) (q.2.1++Zh d true q.2.2 sz cells)) none
|_=>none
def bY:AV->Bool
|.own ..|.optr ..|.fn ..|.undef|.agg _|.pagg _ _|.tup _|.omap _=>true
|_=>false
def oB:AV->Bool
|.agg c=>c.any bY
|.pagg _ _=>false
|v=>bY v
def cellsOf:AV->LA
|.agg c=>c
|.pagg c _=>c
|v=>[v]
def uy:AV->Bool
|.imm _ _ _ _ o=>o
|.iptr _ o=>o
|_=>false
def kJ:AV->Bool
|.pagg _ o=>o
|.agg c=>c.any uy
|v=>uy v
def M':AV->Bool
|.pagg _ _=>true
|_=>false
def SU(P:Program)(t:TypeId):Option (Nat->Option (Nat×Nat)) :=
 match P.underlying t with
|some (.array _ e)=>(P.info? e).map fun ie=>fun i=>some (i*ie.size,ie.size)
|some (.struct fs)=>(fs.toList.mapM fun f=>(P.info? f.type).map fun i=>(f.offset,i.size)).map fun pl=>fun i=>pl[i]?
|_=>none
def tT(P:Program)(t:TypeId):Option LA:=(P.info? t).bind fun i=>(i.zero).map fun v=>T2 v.cells.toList
def Hh:List (Nat×AV)->List (Nat×LA)
|[]=>[]
|(i,v)::r=>(i,cellsOf v)::Hh r
def xk(o:Bool):AV->AV
|.imm c n s t _=>.imm c n s t o
|.iptr c _=>.iptr c o
|v=>v
def oC:AV->LA
|.agg c=>c
|.pagg c o=>c.map (xk o)
|v=>[v]
def M6:List (Nat×AV)->List (Nat×LA)
|[]=>[]
|(i,v)::r=>(i,oC v)::M6 r
def SV:AV->Bool
|.undef=>false
|.tup _=>false
|.omap _=>false
|_=>true
def uz(P:Program)(t:TypeId)(parts:List (Nat×AV)):Option AV :=
 (SU P t).bind fun place=>cond (parts.all fun p=>SV p.2) (
 cond (parts.any fun p=>M' p.2)
  (cond (parts.any fun p=>oB p.2) ((tT P t).bind fun z=>(Wk place (M6 parts) z).map fun c=>.agg c) ((kE P t).bind fun z=>(Wk place (Hh parts) z).map fun c=>.pagg c (parts.any fun p=>kJ p.2)))
  ((tT P t).bind fun z=>(Wk place (Hh parts) z).map fun c=>.agg c)) none
def vA{R:Type}(P:Program)(t:TypeId)(parts:List (Nat×AV))(k:AV->O R):O R :=
 (SU P t).bind fun place=>cond (parts.all fun p=>SV p.2) (
 cond (parts.any fun p=>M' p.2)
  (cond (parts.any fun p=>oB p.2) ((tT P t).bind fun z=>kI place (M6 parts) z fun c=>k (.agg c)) ((kE P t).bind fun z=>kI place (Hh parts) z fun c=>k (.pagg c (parts.any fun p=>kJ p.2))))
  ((tT P t).bind fun z=>kI place (Hh parts) z fun c=>k (.agg c))) none
def WU{R:Type}(P:Program)(g:B7)(t:TypeId)(parts:List (Nat×AV))(k:AV->Ip->O R):O R:=(SU P t).bind fun place=>(kE P t).bind fun z=>(DO g parts).bind fun q=>kI place q.1 z fun c=>k (.pagg c q.2.2) q.2.1
def Afs(P:Program)(t:TypeId):List (Nat×Nat) :=
 match P.underlying t with
|some (.struct fs)=>fs.toList.filterMap fun f=>match P.underlying f.type with|some (.slice el)=>(Cw P el).map fun s=>(f.offset,s)|_=>none
|_=>[]
def Ad5(P:Program)(n:Nat)(e:TypeId)(off:Nat):List (Nat×Nat) :=
 match P.underlying e with
|some (.slice el)=>((Cw P el).map fun s=>(List.range n).map fun i=>(off+i,s)).getD []
|_=>[]
def U4(P:Program)(t:TypeId):List (Nat×Nat) :=
 match P.underlying t with
|some (.array n e)=>Ad5 P n e 0
|some (.struct fs)=>fs.toList.flatMap fun f=>match P.underlying f.type with
  |some (.slice el)=>((Cw P el).map fun s=>(f.offset,s)).toList
  |some (.struct _)=>(Afs P f.type).map fun p=>(f.offset+p.1,p.2)
  |some (.array n e)=>Ad5 P n e f.offset
  |_=>[]
|_=>[]
def Hz(d:Nat):List (Nat×Nat)->Nat->LA->LA×Ip
|[],_,c=>(c,[])
|(o,sz)::r,j,c=>match c[o]? with
  |some .nsl=>((Hz d r (j+1) (c.set o (.own (nid d+j) 0 0))).1,(nid d+j,some (Hu sz))::(Hz d r (j+1) (c.set o (.own (nid d+j) 0 0))).2)
  |_=>Hz d r (j+1) c
def Aft{R:Type}(P:Program)(t:TypeId)(co:Bool)(d:Nat)(v:AV)(k:AV->Ip->O R):O R :=
 match co,v with
|true,.agg c=>cond (ble (U4 P t).length 15) (k (.agg (Hz d (U4 P t) 1 c).1) (Hz d (U4 P t) 1 c).2) none
|_,v=>k v []
def WV{R:Type}(P:Program)(g:B7)(d:Nat)(t:TypeId)(k:AV->Ip->O R):O R :=
 match xi P t with
|some (.agg c)=>cond (ble (U4 P t).length 15&&DN g c) (k (.optr (nid d) 0) ((Hz d (U4 P t) 1 c).2++Zh d false false 0 (Hz d (U4 P t) 1 c).1)) none
|_=>none
def Ad6(P:Program):Nat->TypeId->Nat->List (Nat×TypeId)
|0,t,off=>[(off,t)]
|d+1,t,off=>match P.underlying t with
  |some (.struct fs)=>fs.toList.flatMap fun f=>Ad6 P d f.type (off+f.offset)
  |_=>[(off,t)]
def Aiq(P:Program)(t:TypeId):Bool:=match P.underlying t with
|some (.int _)=>true|some .bool=>true|some .string=>true|some (.slice _)=>true|_=>false
def eK{R:Type}(P:Program)(c:LA)(org:Bool):List (Nat×TypeId)->LA->(LA->O R)->O R
|[],acc,k=>k acc
|(off,t)::r,acc,k=>cond (beq off acc.length&&Aiq P t) (SR P t (c.drop off) org fun v=>eK P c org r (acc++[v]) k) none
def iR{R:Type}(P:Program)(co:Bool)(t:TypeId)(v:AV)(k:AV->O R):O R :=
 match co,v with
|true,.pagg c org=>eK P c org (Ad6 P 4 t 0) [] fun l=>cond (beq c.length l.length) (k (.agg l)) none
|_,v=>k v
def tU{R:Type}(P:Program)(d:Nat)(t:TypeId)(len cap:AV)(k:AV->Ip->O R):O R :=
 match P.underlying t,len,cap with
| some (.slice el),.int .i64 l,.int .i64 c=>(Cw P el).bind fun sz=>(uu P el).bind fun by_=>(kE P el).bind fun z =>
  cond (decide (0<=l)&&(decide (l<=c)&&(decide (c<=140737488355328)&&decide (c*(by_:Int)<=140737488355328)))) (
   k (.own (nid d) 0 l.toNat) (Zh d true false sz (Sp l.toNat z))) none
|_,_,_=>none
def Ad7(g:B7)(sz:Nat)(s:AV):Option (LA×Nat×Bool×Ip) :=
 match s with
|.nsl=>some ([],0,false,[])
|.imm _ n _ true _=>cond (beq n 0) (some ([],0,false,[])) none
|.own b off n=>(K6 g b).bind fun x=>cond (x.pure&&(!x.sealed&&beq sz x.sz)) (some ((x.cells.drop off).take (n*sz),n,x.taint,[(b,none)])) none
|_=>none
def kK(P:Program)(g:B7)(el tx:TypeId)(s:AV):Option (Nat×Nat) :=
 match s with
|.nsl=>match P.underlying tx with|some .string=>some (el,0)|_=>none
|.own b off _=>(K6 g b).bind fun x=>(x.ty).bind fun q=>cond (beq q.1 el&&(beq q.2 0&&beq off 0)) (some (el,0)) none
|_=>none
def vB(P:Program)(t:TypeId):Bool:=match P.underlying t with|some (.slice _)=>true|some .string=>true|_=>false
def WW{R:Type}(P:Program)(g:B7)(d:Nat)(t tx:TypeId)(s x:AV)(k:AV->Ip->O R):O R :=
 match P.underlying t with
| some (.slice el)=>cond (vB P tx) ( (Cw P el).bind fun sz=>(uu P el).bind fun by_=>(kE P el).bind fun _ =>
  (Ad7 g sz s).bind fun old=>bX P el g sz x fun new =>
  cond (ble (old.2.1+new.2.1) 140737488355328&&ble ((old.2.1+new.2.1)*by_) 140737488355328) (
   k (.own (nid d) 0 (old.2.1+new.2.1)) (old.2.2.2++[(nid d,some { dead:=false,sealed:=false,pure:=true,taint:=old.2.2.1||new.2.2,sz,cells:=old.1++new.1,ty:=kK P g el tx s })])) none) none
|_=>none
def tV{R:Type}(P:Program)(g:B7)(t:TypeId)(s x:AV)(k:AV->Ip->O R):O R :=
 match P.underlying t,s with
| some (.slice el),.own b off n=>(Cw P el).bind fun sz=>(K6 g b).bind fun y=>bX P el g sz x fun new =>
  cond (y.pure&&(!y.sealed&&beq sz y.sz)) (
   k (.int .i64 (min new.2.1 n:Nat)) [(b,some { y with cells:=Ga y.cells off (new.1.take ((min new.2.1 n)*sz)),taint:=y.taint||new.2.2 })]) none
|some (.slice el),.nsl=>(Cw P el).bind fun sz=>bX P el g sz x fun _=>k (.int .i64 0) []
|_,_=>none
def tW {R:Type} (P:Program) (g:B7) (d:Nat) (src dst:TypeId) (x:AV) (k:AV->Ip->O R):O R :=
 match P.underlying dst with
|some (.int kd)=>match x with|.int _ n=>cond (P.underlying src).isSome (k (.int kd (kd.wrap n)) []) none|_=>none
| some .string=>match P.underlying src with
  |some .string=>match x with|.str s=>k (.str s) []|_=>none
  | some (.slice el)=>match P.underlying el with
   |some (.int .u8)=>match x with
    |.str _=>none
    |x=>(tS g 1 x).bind fun q=>(eI q.1).bind fun s=>k (.str s) []
   |_=>none
  |_=>none
|some (.slice el)=>match P.underlying src,P.underlying el,x with
  |some (.slice _),some (.int .u8),.own b off n=>cond (beq src dst&&ble 1 n) ((K6 g b).bind fun x=>cond x.sealed none (k (.own b off n) [])) none
  |some .string,some (.int .u8),.str s=>k (.own (nid d) 0 s.length) (Zh d true false 1 (s.map fun b=>.int .u8 (b.toNat:Int)))
  |_,_,_=>none
|_=>none
def AU(s:Lu)(p:Int):Nat×Nat:=Utf8.decode ⟨⟨s⟩⟩ p.toNat
def iS{R:Type}(P:Program)(d:Nat)(t:TypeId)(x:AV)(k:AV->Ip->O R):O R :=
 match P.underlying t,x with
|some .string,.str s=>k (.omap (nid d)) [(nid d,some {dead:=false,sealed:=false,pure:=true,taint:=false,sz:=1,cells:=[.str s,.int .i64 0],mp:=true})]
|_,_=>none
def tX{R:Type}(g:B7)(it:AV)(isString:Bool)(k:AV->Ip->O R):O R :=
 match it,isString with
| .omap b,true=>(K6 g b).bind fun x=>cond (x.mp&&beq x.sz 1)
  (match x.cells with
   | [.str s,.int .i64 p]=>cond (decide (p<(s.length:Int)))
     (k (.tup [.bool true,.int .i64 p,.int .i32 ((AU s p).1:Nat)]) [(b,some {x with cells:=[.str s,.int .i64 (p+((AU s p).2:Nat))]})]) (k (.tup [.bool false]) [])
   | _=>none) none
|_,_=>none
mutual
def Ir:AV->List Nat
|.own b _ _=>[b]
|.optr b _=>[b]
|.omap b=>[b]
|.agg c=>K8 c
|.tup c=>K8 c
|.fn _ c=>K8 c
|_=>[]
def K8:List AV->List Nat
|[]=>[]
|v::r=>Ir v++K8 r
end
mutual
def YQ(ρ:Nat->Nat):AV->AV
|.own b off n=>.own (ρ b) off n
|.optr b off=>.optr (ρ b) off
|.omap b=>.omap (ρ b)
|.agg c=>.agg (BJ ρ c)
|.tup c=>.tup (BJ ρ c)
|.fn f c=>.fn f (BJ ρ c)
|v=>v
def BJ(ρ:Nat->Nat):List AV->List AV
|[]=>[]
|v::r=>YQ ρ v::BJ ρ r
end
def NA(g:B7):AV->Option (AV×Bool)
|.own b off n=>(K6 g b).bind fun x=>cond x.pure (some (.imm ((x.cells.drop off).take (n*x.sz)) n x.sz false (!x.sealed||x.taint),!x.sealed||x.taint)) none
|.imm c n sz _ org=>some (.imm c n sz false org,org)
|.iptr c org=>some (.iptr c org,org)
|.optr ..|.agg _|.tup _|.undef|.fn ..|.pagg ..|.omap _=>none
|v=>some (v,false)
def SW(g:B7):LA->Option (LA×Bool)
|[]=>some ([],false)
|v::r=>(NA g v).bind fun p=>(SW g r).bind fun q=>some (p.1::q.1,p.2||q.2)
def vC(g:B7):AV->Option (AV×Bool)
|.own b off n=>(K6 g b).bind fun x=>cond x.pure (some (.imm ((x.cells.drop off).take (n*x.sz)) n x.sz false (!x.sealed||x.taint),!x.sealed)) none
|.imm c n sz _ org=>some (.imm c n sz false org,false)
|.optr b off=>(K6 g b).bind fun x=>cond x.pure (some (.iptr (x.cells.drop off) (!x.sealed||x.taint),!x.sealed)) none
|.agg c=>(SW g c).bind fun q=>some (.pagg q.1 q.2,true)
|.fn f []=>some (.fn f [],false)
|.fn _ _|.tup _|.undef|.omap _=>none
|v=>some (v,false)
def Lw(d:Nat):List (Nat×Nat)->Nat->Nat
|[],_=>d
|(i,x)::r,b=>cond (beq i b) x (Lw d r b)
def Jp:List Nat->Nat->Bool
|[],_=>false
|i::r,b=>cond (beq i b) true (Jp r b)
def kL:List Nat->List Nat->List Nat
|[],acc=>acc.reverse
|i::r,acc=>cond (Jp acc i) (kL r acc) (kL r (i::acc))
def SX:List Nat->Bool
|[]=>true
|i::r=>!Jp r i&&SX r
def Bc(base:Nat):List Nat->List (Nat×Nat)
|[]=>[]
|i::r=>(i,base)::Bc (base+1) r
def Oe(g:B7):List Nat->List Nat
|[]=>[]
|b::r=>(match g b with|some x=>cond x.pure [] (K8 x.cells)|none=>[])++Oe g r
def EE(g:B7)(ids:List Nat):List Nat:=kL (ids++Oe g (ids++Oe g ids)) []
def SY(g:B7):List Nat->Bool
|[]=>true
|b::r=>(match g b with|some x=>!x.dead|none=>false)&&SY g r
def GY(ρ:Nat->Nat)(x:Blk):Blk:={x with cells:=cond x.pure x.cells (BJ ρ x.cells)}
def sub(g:B7)(ρ:Nat->Nat):List Nat->Az
|[]=>[]
|b::r=>match g b with
  |some x=>Hs (sub g ρ r) (ρ b) (GY ρ x)
  |none=>sub g ρ r
structure Tw where
 runK:{R:Type}->List AV->Az->(AV->Az->O R)->O R
 eq:∀{R:Type}(args:List AV)(h:Az)(k:AV->Az->O R),runK args h k=(runK args h fun v h'=>some (v,h')).bind fun p=>k p.1 p.2
def eM{R:Type}:List (Nat×Tw)->Nat->LA->Az->(AV->Az->O R)->O R
|[],_,_,_,_=>none
|(g,t)::r,f,args,h,k=>cond (beq g f) (t.runK args h k) (eM r f args h k)
structure Env where
 P:Program
 nt:Nat
 muts:Nat->List Bool
 nils:List (Nat×Nat)
 free:List Nat
 cob:List Nat
 tbl:List (Nat×Tw)
mutual
def JJ:AV->Bool
|.imm _ _ _ _ o=>o
|.iptr _ o=>o
|.pagg _ o=>o
|.agg c=>Ye c
|.tup c=>Ye c
|.fn _ c=>Ye c
|_=>false
def Ye:List AV->Bool
|[]=>false
|v::r=>JJ v||Ye r
end
def eN:Az->Bool
|[]=>false
|(_,x)::r=>x.taint||(cond x.pure false (Ye x.cells))||eN r
def M7(g:B7):LA->List Nat
|[]=>[]
|.own b _ _::r=>match g b with|some x=>cond x.sealed (M7 g r) (b::M7 g r)|none=>M7 g r
|_::r=>M7 g r
def KR(g:B7):AV->List Nat
|.own b _ _=>match g b with|some x=>cond x.sealed [] [b]|none=>[]
|.optr b _=>match g b with|some x=>cond x.sealed [] [b]|none=>[]
|.agg c=>M7 g c
|_=>[]
def KS(g:B7):List Bool->LA->Option (LA×List Nat×List Nat)
|_,[]=>some ([],[],[])
| ms,v::r =>
  cond (ms.headD false)
   ((KS g ms.tail r).bind fun q=>some (v::q.1,Ir v++q.2.1,q.2.2))
   ((vC g v).bind fun p=>(KS g ms.tail r).bind fun q=>some (p.1::q.1,q.2.1,KR g v++q.2.2))
def QP(ids:List Nat):List Nat->Bool
|[]=>true
|b::r=>Jp ids b&&QP ids r
def xl:List Nat->List Nat->Bool
|[],_=>true
|i::r,l=>!Jp l i&&xl r l
def vD:List Nat->Bool
|[]=>true
|_=>false
def tY {R:Type} (E:Env) (g:B7) (d:Nat) (f:Nat) (args:LA) (k:AV->Ip->O R):O R :=
 (KS g (E.muts f) args).bind fun q =>
 let ids:=EE g q.2.1
 let tin:=Bc 100000 ids
 let outs:=tin.map (·.2)
 cond (SY g ids&&(QP ids q.2.1&&(QP ids (Oe g ids)&&(xl q.2.2 ids&&(SX (ids.map (Lw 0 tin))&&ble ids.length 100000))))) (
  eM E.tbl f (BJ (Lw 0 tin) q.1) (sub g (Lw 0 tin) ids) fun rv rh =>
  let all:=EE (Al rh) (Ir rv++outs)
  let new:=all.filter fun b=>!Jp outs b
  let tnew:=Bc (nid d) new
  let σ:=Lw 0 ((tin.map fun p=>(p.2,p.1))++tnew)
  cond (!vD q.2.2&&(JJ rv||eN rh)) none
   (cond (SY (Al rh) new&&(ble new.length 16&&(QP all (Ir rv)&&(QP all outs&&(QP all (Oe (Al rh) all)&&SX (all.map σ))))))
    (k (YQ σ rv) ((tin.map fun p=>(p.1,(Al rh p.2).map (GY σ)))++tnew.map fun p=>(p.2,(Al rh p.1).map (GY σ)))) none)) none
def tZ{R:Type}(c a b:AV)(k:AV->O R):O R :=
 match c,a,b with
|.bool t,.bool x,.bool y=>k (.bool (cond t x y))
|.bool t,x,.tup []=>cond t (k x) none
|.bool t,.tup [],y=>cond t none (k y)
|.bool t,x,y=>cond t (k x) (k y)
|_,_,_=>none
def vE(P : Program)(f : Nat): Bool := match P.funcs[f]? with|some fn => fn.body.isSome && !(fn.name == "runtime.NumGoroutine")|none => false
def Pa(a b:Int):Int:=cond (decide (b<a)) b a
def mO(a b:Int):Int:=cond (decide (b>a)) b a
def Ap8:AV->AV->Option AV
|.int k a,.int _ b=>some (.int k (Pa a b))
|_,_=>none
def Ap9:AV->AV->Option AV
|.int k a,.int _ b=>some (.int k (mO a b))
|_,_=>none
def rp{R:Type}(E:Env)(g:B7)(d:Nat)(v:Operand->AV)(o:Op)(k:AV->Ip->O R):O R :=
 match o with
|.move x=>k (v x) []
|.assign x=>k (v x) []
|.pick c a b=>tZ (v c) (v a) (v b) fun r=>k r []
|.alloc t=>cond (Jp E.cob (d+1000000)) (WV E.P g d t k) (iQ E.P g (Jp E.cob d) d t k)
|.box t x=>iR E.P (Jp E.cob d) t (v x) fun u=>xj E.P g d t u k
|.build t parts=>cond (Jp E.cob (d+4000000)) (WU E.P g t (parts.toList.map fun p=>(p.1,v p.2)) k) (vA E.P t (parts.toList.map fun p=>(p.1,v p.2)) fun r=>Aft E.P t (Jp E.cob d) d r k)
|.buildSlice t len parts=>Up E.P g d t len (parts.toList.map fun p=>(p.1,v p.2)) k
|.load t a=>oA E.P g t (v a) fun r=>k r []
|.store t a x=>iP E.P g t (v a) (v x) k
|.nilCheck x=>match v x with|.iptr c o=>k (.iptr c o) []|.optr b o=>k (.optr b o) []|_=>none
|.binOp op t x y _=>tR E.P t op (v x) (v y) fun r=>k r []
|.unOp op _ x=>(Arb op (v x)).bind fun r=>k r []
|.convert s t x=>tW E.P g d s t (v x) k
|.makeFunc (.func f) first caps=>cond (Nat.blt f 1000000) (k (.fn (f+1000000*first.toList.length) ((first.toList++caps.toList).map v)) []) none
|.makeSlice t l c=>tU E.P d t (v l) (v c) k
|.slice t x lo hi mx=>iO E.P g t (v x) (lo.map v) (hi.map v) (mx.map v) fun r=>k r []
|.fieldAddr t x f=>W5 E.P t (v x) f fun r=>k r []
|.field t x f=>iM E.P t (v x) f fun r=>k r []
|.indexAddr t x i=>W4 E.P t (v x) (v i) fun r=>k r []
|.index t x i=>iN E.P t (v x) (v i) fun r=>k r []
|.range t x=>iS E.P d t (v x) k
|.next it s=>tX g (v it) s k
|.extract t i=>match v t with|.tup vs=>(vs[i]?).bind fun r=>k r []|_=>none
| .call c=>match c.callee with
  |.builtin .len=>match c.args.toList,c.argTypes.toList with|[x],[t]=>(Aol E.P t (v x)).bind fun r=>k r []|_,_=>none
  |.builtin .append=>match c.args.toList,c.argTypes.toList with|[s,x],[t,tx]=>WW E.P g d t tx (v s) (v x) k|_,_=>none
  |.builtin .copy=>match c.args.toList,c.argTypes.toList with|[s,x],[t,_]=>tV E.P g t (v s) (v x) k|_,_=>none
  |.builtin .min=>match c.args.toList with|[x,y]=>(Ap8 (v x) (v y)).bind fun r=>k r []|_=>none
  |.builtin .max=>match c.args.toList with|[x,y]=>(Ap9 (v x) (v y)).bind fun r=>k r []|_=>none
  |.value fo=>match v fo with
   |.fn f caps=>cond (vE E.P (f%1000000)) (tY E g d (f%1000000) (caps.take (f/1000000)++(c.args.toList.map v++caps.drop (f/1000000))) k) none
   |_=>none
  |_=>none
|_=>none
structure Foot where
 r:List Nat
 w:Option Nat
 f:List Nat
 u:List Nat
def bZ:List Operand->List Nat
|[]=>[]
|.tmp t::r=>t::bZ r
|_::r=>bZ r
def Am:Ip->Az->Az
|[],h=>h
|(b,some x)::r,h=>Am r (Hs h b x)
|(b,none)::r,h=>Am r (match Al h b with|some x=>Hs h b {x with dead:=true,pure:=true,cells:=[]}|none=>h)
def WX(ops:Array Oper)(o:Oper):Option (Nat×Bool) :=
 match o.guard with
|none=>none
|some (j,want)=>((ops[j]?).bind (·.dst)).map fun t=>(t,want)
def NB(ops:Array Oper)(s:Iq)(o:Oper):Option Bool :=
 match o.guard with
|none=>some true
| some (j,want)=>match (ops[j]?).bind (·.dst) with
  |some t=>match Ht s t with
   |.bool b=>some (b==want)
   |.tup []=>some false
   |_=>none
  |none=>some false
def Aa1(nt:Nat)(s:Iq)(d:Option Nat)(v:AV):Iq:=match d with|some d=>cond (Nat.blt d nt) (bW s d v) s|none=>s
def Ad8:Op->Bool
|.binOp op ..=>match op with|.eql|.neq=>true|_=>false
|.move _|.assign _|.pick ..|.unOp ..|.makeFunc ..|.fieldAddr ..|.field ..|.indexAddr ..|.index ..|.extract ..|.nilCheck _=>false
|.call c=>match c.callee with
  |.builtin .len|.builtin .min|.builtin .max=>false
  |_=>true
|_=>true
def Ad9:Op->Bool
|.load ..|.binOp ..=>true
|_=>false
def AW(h:Az)(op:Op)(vals:LA):List Nat:=cond (Ad8 op) (cond (Ad9 op) (kL (K8 vals) []) (EE (Al h) (K8 vals))) []
def KT(d b:Nat):Bool:=ble (nid d) b&&Nat.blt b (nid d+16)
def aD(d:Nat)(F:List Nat)(h:Az):Ip->Bool
|[]=>true
|(b,_)::r=>cond (KT d b) (Al h b).isNone (Jp F b&&(Al h b).isSome)&&aD d F h r
def xm{R:Type}(E:Env)(ops:Array Oper)(o:Oper)(st:St)(k:St->Foot->O R):O R :=
 (NB ops st.s o).bind fun wanted=>cond wanted (
  rp E (fun b=>cond (Jp (AW st.h o.op (o.op.operands.toList.map (ev st.s))) b) (Al st.h b) none) (o.dst.getD 50000) (ev st.s) o.op fun v ups =>
  cond (aD (o.dst.getD 50000) (AW st.h o.op (o.op.operands.toList.map (ev st.s))) st.h ups)
   (k { s:=Aa1 E.nt st.s o.dst v,h:=Am ups st.h } { r:=(match WX ops o with | some p=>[p.1] | none=>[])++bZ o.op.operands.toList,w:=o.dst,f:=AW st.h o.op (o.op.operands.toList.map (ev st.s)),u:=ups.map (·.1) }) none)
  (k {st with s:=Aa1 E.nt st.s o.dst (.tup [])} {r:=(match WX ops o with|some p=>[p.1]|none=>[]),w:=o.dst,f:=[],u:=[]})
def iT{R:Type}(ops:Array Oper)(o:Oper)(st:St)(k:St->O R):O R :=
 match o.guard with
|none=>k st
| some (j,want)=>match (ops[j]?).bind (·.dst) with
  |none=>k st
  |some t=>match Ht st.s t with
   |.bool b=>cond (b==want) (k {s:=bW st.s t (.bool want),h:=st.h}) (k {s:=bW st.s t (.bool (!want)),h:=st.h})
   |_=>k st
def oD{R:Type}(E:Env)(ops:Array Oper):List Oper->St->List Foot->(St->List Foot->O R)->O R
|[],st,tr,k=>k st tr
|o::r,st,tr,k=>iT ops o st fun st=>xm E ops o st fun st f=>oD E ops r st (f::tr) k
def wIn:Option Nat->List Nat->Bool
|none,_=>false
|some d,l=>Jp l d
def kM(a b:Foot):Bool:=!wIn a.w b.r&&!wIn b.w a.r&&(match a.w,b.w with|some x,some y=>!beq x y|_,_=>true)&&xl a.u (b.f++b.u)&&xl b.u a.f
def SZ(e:Edge):Bool:=match e.ground with|.textOnly _=>false|.gcOnly _=>false|_=>true
def NC(o:Oper):List Nat:=(o.after.toList.filter SZ).map (·.on)
def vF{α:Type}:List Nat->(List Nat->α)->α
|[],k=>k []
|i::r,k=>vF r fun s=>k (i::s)
def KU{α:Type}:∀(l:List Nat)(k:List Nat->α),vF l k=k l
|[],_=>rfl
|i::r,k=>by rw[vF,KU r]
def Ij:List Oper->List (List Nat)->List (List Nat)
|[],acc=>acc
|o::r,acc=>vF (kL (NC o++((NC o).flatMap fun i=>(acc[i]?).getD [])) []) fun a=>Ij r (acc++[a])
def DP:Nat->List Oper->Bool
|_,[]=>true
|i,o::r=>(o.after.toList.all fun e=>!SZ e||Nat.blt e.on i)&&DP (i+1) r
def eO(f:Foot)(anc:List Nat):Nat->List Foot->Bool
|_,[]=>true
|i,g::r=>(Jp anc i||kM g f)&&eO f anc (i+1) r
def WY:List Foot->List (List Nat)->List Foot->Bool
|[],_,_=>true
|f::r,a::az9,seen=>eO f a 0 seen&&WY r az9 (seen++[f])
|_::_,[],_=>false
def Of(b:Nat):Nat:=cond (ble Jg b) (b - Jg) b
mutual
def EF(g:B7):AV->AV
|.own b off n=>match K6 g b with|some _=>.own (Of b) off n|none=>.undef
|.optr b off=>match K6 g b with|some _=>.optr (Of b) off|none=>.undef
|.omap b=>match K6 g b with|some _=>.omap (Of b)|none=>.undef
|.agg c=>.agg (M8 g c)
|.tup c=>.tup (M8 g c)
|.fn f c=>.fn f (M8 g c)
|v=>v
def M8(g:B7):List AV->List AV
|[]=>[]
|v::r=>EF g v::M8 g r
end
def iU(g:B7)(K:List Nat):Iq->Iq
|[]=>[]
|(t,v)::r=>cond (Jp K t) ((t,EF g v)::iU g K r) (iU g K r)
def oE(K:List Nat):Iq->List Nat
|[]=>[]
|(t,v)::r=>cond (Jp K t) (Ir v++oE K r) (oE K r)
def EG(g:B7):List Nat->Az
|[]=>[]
|b::r=>match K6 g b with
  |some x=>Hs (EG g r) (Of b) {x with cells:=cond x.pure x.cells (M8 g x.cells)}
  |none=>EG g r
def HB(g:B7)(ids:List Nat):List Nat:=ids.filter fun b=>match K6 g b with|some _=>true|none=>false
def oF(g:B7)(ids:List Nat):List Nat->Bool
|[]=>true
|b::r=>(Jp ids b||(K6 g b).isNone)&&oF g ids r
def Aea:List Nat->Bool
|[]=>true
|b::r=>cond (ble Jg b) (Nat.blt (Of b) 100000) true&&Aea r
def clean(K roots:List Nat)(st:St):Option St :=
 let g:=Al st.h
 let ids:=HB g (EE g (oE K st.s++roots))
 cond (SX (ids.map Of)&&(oF g ids (oE K st.s)&&(oF g ids (Oe g ids)&&Aea ids))) (some {s:=iU g K st.s,h:=EG g ids}) none
def ND{R:Type}(E:Env)(roots:List Nat)(ops:Array Oper)(draw:Bool)(st:St)(k:St->O R):O R :=
 oD E ops ops.toList st [] fun st tr =>
  cond (!draw||(DP 0 ops.toList&&WY tr.reverse (Ij ops.toList []) [])) ((clean (st.s.map (·.1)) roots st).bind k) none
def oG(b:Nat):Bool:=ble 100000 b&&Nat.blt b 200000
def NE(live:List Nat):List (Nat×Nat)->St->Option St
|[],st=>some st
|(t,sz)::r,st=>cond (ble 1000000 sz)
  (match Jp live t,Ht st.s t with
  |true,.nsl=>NE live r {s:=bW st.s t (.imm [] 0 (sz - 1000000) false false),h:=st.h}
  |true,.own b off n=>(aC (Al st.h) (.own b off n)).bind fun q=>NE live r {s:=bW st.s t q.1,h:=Am q.2.1 st.h}
  | _,_=>NE live r st)
  (match Jp live t,Ht st.s t with
  |true,.nsl=>cond (Al st.h (nid t+15)).isSome none (NE live r {s:=bW st.s t (.own (nid t+15) 0 0),h:=Hs st.h (nid t+15) (Hu sz)})
  | _,_=>NE live r st)
def KV(free:List Nat)(b:Nat):Bool:=oG b&&!Jp free b
def Air(free ids:List Nat):List (Nat×Nat):=Bc 300000 (ids.filter fun b=>!KV free b)
def EH(free ids:List Nat)(b:Nat):Nat:=cond (KV free b) b (Lw 0 (Air free ids) b)
def Ais(ρ:Nat->Nat)(K:List Nat):Iq->Iq
|[]=>[]
|(t,v)::r=>cond (Jp K t) ((t,YQ ρ v)::Ais ρ K r) (Ais ρ K r)
def QQ(E:Env)(live roots:List Nat)(st:St):Option St :=
 (NE live E.nils st).bind fun st =>
 let g:=Al st.h
 let ids:=HB g (EE g (oE live st.s++roots))
 cond (SX (ids.map (EH E.free ids))&&(QP ids (oE live st.s)&&(QP ids (Oe g ids)&&ble ids.length 100000))) (some {s:=Ais (EH E.free ids) live st.s,h:=sub g (EH E.free ids) ids}) none
inductive Hint where
|leaf
|node (live:List Nat) (a b:Hint)
|join (live:List Nat) (a b:Hint)
def Hint.live:Hint->List Nat
|.leaf=>[]
|.node l _ _=>l
|.join l _ _=>l
def Hint.a:Hint->Hint
|.leaf=>.leaf
|.node _ a _=>a
|.join _ a _=>a
def Hint.b:Hint->Hint
|.leaf=>.leaf
|.node _ _ b=>b
|.join _ _ b=>b
def Hint.isJoin:Hint->Bool
|.join _ _ _=>true
|_=>false
noncomputable def Ae{α:Type}(a:α):{x:α // x=a}:=Classical.choice ⟨⟨a,rfl⟩⟩
noncomputable def Ait{R:Type}(j:Bool)(f:St->O R):St->O R:=cond j (Ae f).1 f
def Yf{R:Type}(j:Bool)(f:St->O R):Ait j f=f:=by cases j;rfl;exact(Ae f).2
noncomputable def xn{R:Type}(E:Env)(roots:List Nat)(H:Hint)(f:St->O R)(st:St):O R:=cond H.isJoin ((QQ E H.live roots st).bind (Ait true f)) (f st)
def QR{R:Type}(cn:St->Option St)(body:(St->O R)->St->O R):Nat->St->O R
|0,_=>none
|n+1,st=>body (fun st=>(cn st).bind (QR cn body n)) st
noncomputable def Fq{R:Type}(E:Env)(roots:List Nat)(N:Nat):Code->Hint->(St->O R)->(Nat->St->O R)->(St->O R)->St->O R
|.skip,_,k,_,_,st=>k st
|.region _ ops draw,_,k,_,_,st=>ND E roots ops draw st k
|.seq a b,H,k,x,r,st=>Fq E roots N a H.a (xn E roots H fun st=>Fq E roots N b H.b k x r st) x r st
|.cond c a b,H,k,x,r,st=>match ev st.s c with
  |.bool t=>cond t (Fq E roots N a H.a k x r st) (Fq E roots N b H.b k x r st)
  |_=>none
|.block id c,H,k,x,r,st=>Fq E roots N c H.a k (fun j st=>cond (beq j id) (k st) (x j st)) r st
|.loop c,H,_,x,r,st=>(QQ E H.live roots st).bind (Ait true (QR (QQ E H.live roots) (fun k st=>Fq E roots N c H.a k x r st) N))
|.exit id,_,_,x,_,st=>x id st
|.ret,_,_,_,r,st=>r st
|_,_,_,_,_,_=>none
def Rk{R:Type}(E:Env)(st:St):List ResultVar->LA->(LA->O R)->O R
|[],acc,k=>k acc.reverse
|.tmp t::r,acc,k=>Rk E st r (Ht st.s t::acc) k
|.cell a t::r,acc,k=>oA E.P (Al st.h) t (Ht st.s a) fun v=>Rk E st r (v::acc) k
def Aom(g:B7)(i:Nat)(m:Nat×Nat)(v:AV):Option (AV×Ip) :=
 cond (beq m.1 0) (some (v,[]))
 (cond (beq m.1 1) (match v with
  |.nsl=>some (.imm [] 0 m.2 false false,[])
  |.imm c n sz _ o=>some (.imm c n sz false o,[])
  |.own b off n=>(aC g (.own b off n)).bind fun q=>some (q.1,q.2.1)
  | _=>none)
 (cond (beq m.1 2) (match v with
  |.nsl=>cond (g (nid 90000+i)).isSome none (some (.own (nid 90000+i) 0 0,[(nid 90000+i,some (Hu m.2))]))
  | v=>some (v,[]))
 (match v with
  |.agg c=>(ED g c).bind fun q=>some (.pagg q.1 q.2.2,q.2.1)
  |.pagg c o=>some (.pagg c o,[])
  | _=>none)))
def xo(h:Az):Nat->List (Nat×Nat)->LA->Option (LA×Az)
|_,_,[]=>some ([],h)
|i,ms,v::r=>(Aom (Al h) i (ms.headD (0,0)) v).bind fun p=>(xo (Am p.2 h) (i+1) ms.tail r).bind fun q=>some (p.1::q.1,q.2)
def Aon(l:LA):AV:=match l with|[v]=>v|l=>.tup l
def Yg{R:Type}(E:Env)(fn:Func)(modes:List (Nat×Nat))(outs:List Nat)(k:AV->Az->O R)(st:St):O R :=
 Rk E st fn.results.toList [] fun l =>
 (xo st.h 0 modes l).bind fun q =>
 let v:=Aon q.1
 let g:=Al q.2
 let ids:=HB g (EE g (Ir v++outs))
 cond (SX (ids.map (EH E.free ids))&&(QP ids (Ir v)&&(QP ids (Oe g ids)&&ble ids.length 100000))) (k (YQ (EH E.free ids) v) (sub g (EH E.free ids) ids)) none
def oH:Nat->LA->Iq
|_,[]=>[]
|i,v::r=>(i,v)::oH (i+1) r
structure Hints where
 H:Hint
 nils:List (Nat×Nat):=[]
 modes:List (Nat×Nat):=[]
 free:List Nat:=[]
 cob:List Nat:=[]
def eP:Az->Bool
|[]=>true
|(b,_)::r=>oG b&&eP r
noncomputable def kN{R:Type}(P:Program)(muts:Nat->List Bool)(T:List (Nat×Tw))(hs:Hints)(N f:Nat)(args:LA)(h:Az)(k:AV->Az->O R):O R :=
 match P.funcs[f]? with
|none=>none
| some fn=>match fn.body with
  |none=>none
  |some c =>
   let E:Env:={P,nt:=fn.ntmps,muts,nils:=hs.nils,free:=hs.free,cob:=hs.cob,tbl:=T}
   let outs:=h.map (·.1)
   let fin:=Yg E fn hs.modes outs k
   cond (ble args.length fn.ntmps&&eP h) (Fq E outs N c hs.H fin (fun _ _=>none) fin {s:=oH 0 args,h}) none
end Gx
namespace Gx
open Go
mutual
def RepC(J:Nat->Prop)(w:World):AV->Value->Prop
|.int k n,v=>v=.int k n
|.bool b,v=>v=.bool b
|.str s,v=>v=.string ⟨⟨s⟩⟩
|.nsl,v=>v=.slice none 0 0
| .imm c len sz tight _,v=>c.length=len*sz/\∃ A cap,v=.slice A len cap/\len<=cap/\(tight=true->cap=len) /\
   (len=0\/∃ a,A=some a/\J a.block/\RepCs J w c (fun j=>w.cell? (a.add j)) 0)
|.iptr c _,v=>∃ a,v=.pointer (some a)/\J a.block/\RepCs J w c (fun j=>w.cell? (a.add j)) 0
|.nilptr,v=>v=.pointer none
|.nilfn,v=>v=.nilFunc
|.fn f [],v=>v=.func (.func (f%1000000)) #[] #[]
|_,_=>False
def RepCs(J:Nat->Prop)(w:World):List AV->(Nat->Option Value)->Nat->Prop
|[],_,_=>True
|x::r,rd,i=>(∃ u,rd i=some u/\RepC J w x u)/\RepCs J w r rd (i+1)
end
def C6{J:Nat->Prop}{w:World}:∀{c:LA}{rd:Nat->Option Value}{i:Nat},
  RepCs J w c rd i↔∀ j x,c[j]?=some x->∃ u,rd (i+j)=some u/\RepC J w x u:=by
 intro c
 induction c with
|nil=>intro rd i;simp[RepCs]
| cons x r f =>
  intro rd i
  rw[RepCs,f]
  constructor
  ·rintro⟨l,n⟩ j y d
   cases j with
   |zero=>simp at d;subst d;simpa using l
   |succ j=>have:=n j y (by simpa using d);rwa [show i+1+j=i+(j+1) by omega]at this
  ·intro h
   refine⟨by simpa using h 0 x (by simp),fun j y d=>?_⟩
   have:=h (j+1) y (by simpa using d)
   rwa [show i+(j+1)=i+1+j by omega]at this
def xp(J:Nat->Prop)(w w':World):Prop:=∀ k,J k->w'.heap[k]?=w.heap[k]?
def iV{J:Nat->Prop}{w w':World}(h:xp J w w'){a:Addr}(d:J a.block):w'.cell? a=w.cell? a:=by unfold World.cell?;rw[h a.block d]
def W6(a:Addr)(n:Nat):(a.add n).block=a.block:=by unfold Addr.add;split<;>rfl
mutual
def RepC.keep{J J':Nat->Prop}{w w':World}(hJ:∀ k,J k->J' k)(hk:xp J w w'):∀{x:AV}{v:Value},RepC J w x v->RepC J' w' x v
|.int ..,_,h=>h
|.bool _,_,h=>h
|.str _,_,h=>h
|.nsl,_,h=>h
| .imm c _ _ _ _,_,h=>by
  rw[RepC]at h ⊢
  obtain⟨h1,A,cap,h2,h3,h4,h5⟩:=h
  refine⟨h1,A,cap,h2,h3,h4,?_⟩
  rcases h5 with h5|⟨a,ha,hj,hc⟩
  ·exact .inl h5
  ·refine .inr ⟨a,ha,hJ _ hj,RepCs.keep hJ hk (c:=c) (fun j=>?_) hc⟩
   exact iV hk (by rw[W6];exact hj)
|.iptr c _,_,h=>by
  rw[RepC]at h ⊢
  obtain⟨a,ha,hj,hc⟩:=h
  exact⟨a,ha,hJ _ hj,RepCs.keep hJ hk (c:=c) (fun j=>iV hk (by rw[W6];exact hj)) hc⟩
|.nilptr,_,h=>h
|.nilfn,_,h=>h
|.fn _ [],_,h=>h
|.fn _ (_::_),_,h=>by simp[RepC]at h
|.pagg ..,_,h=>by simp[RepC]at h
|.agg _,_,h=>by simp[RepC]at h
|.tup _,_,h=>by simp[RepC]at h
|.own ..,_,h=>by simp[RepC]at h
|.optr ..,_,h=>by simp[RepC]at h
|.undef,_,h=>by simp[RepC]at h
|.omap _,_,h=>by simp[RepC]at h
def RepCs.keep{J J':Nat->Prop}{w w':World}(hJ:∀ k,J k->J' k)(hk:xp J w w'):∀{c:List AV}{rd rd':Nat->Option Value}{i:Nat},(∀ j,rd' j=rd j)->RepCs J w c rd i->RepCs J' w' c rd' i
|[],_,_,_,_,_=>trivial
|x::r,rd,rd',i,he,h=>by
  rw[RepCs]at h ⊢
  obtain⟨⟨u,hu,hx⟩,hr⟩:=h
  exact⟨⟨u,by rw[he];exact hu,RepC.keep hJ hk (x:=x) hx⟩,RepCs.keep hJ hk (c:=r) he hr⟩
end
abbrev C3:=Nat->Option (Nat×Nat)
def Bn(w:World)(k:Nat):Nat:=match w.heap[k]? with|some (.cells cs _ _)=>cs.size|_=>0
def Aqa(sz k:Nat):Value:=match sz with|0=>.map (some k)|_+1=>.pointer (some ⟨k,0,none⟩)
mutual
def Rep(J:Bool->Nat->Prop)(β:C3)(h:Az)(w:World):AV->Value->Prop
| .own b off n,v=>∃ x A cap,(Al h b=some x/\x.mp=false)/\v=.slice A n cap/\n<=cap/\(cap=0\/∃ k o,A=some ⟨k,o+off,none⟩ /\
   (x.dead=true\/(β b=some (k,o)/\o+off+cap*x.sz<=Bn w k/\off+n*x.sz<=x.cells.length)))
|.omap b,v=>∃ x k,(Al h b=some x/\x.mp=true)/\(x.dead=true\/(β b=some (k,0)/\v=Aqa x.sz k))
|.optr b off,v=>∃ x k o,(Al h b=some x/\x.mp=false)/\v=.pointer (some ⟨k,o+off,none⟩)/\(x.dead=true\/β b=some (k,o))
|.pagg c org,v=>∃ cs,v=.agg ⟨cs⟩/\cs.length=c.length/\RepCs (J org) w c (fun j=>cs[j]?) 0
|.agg c,v=>∃ cs,v=.agg ⟨cs⟩/\Reps J β h w c cs
|.tup c,v=>∃ cs,v=.tuple ⟨cs⟩/\Reps J β h w c cs
|.fn f c,v=>∃ cs:List Value,v=.func (.func (f%1000000)) ⟨cs.take (f/1000000)⟩ ⟨cs.drop (f/1000000)⟩/\Reps J β h w c cs
|.undef,_=>True
|.imm c n sz t org,v=>RepC (J org) w (.imm c n sz t org) v
|.iptr c org,v=>RepC (J org) w (.iptr c org) v
|.int k n,v=>v=.int k n
|.bool b,v=>v=.bool b
|.str s,v=>v=.string ⟨⟨s⟩⟩
|.nsl,v=>v=.slice none 0 0
|.nilptr,v=>v=.pointer none
|.nilfn,v=>v=.nilFunc
def Reps(J:Bool->Nat->Prop)(β:C3)(h:Az)(w:World):List AV->List Value->Prop
|[],cs=>cs=[]
|x::r,cs=>∃ u us,cs=u::us/\Rep J β h w x u/\Reps J β h w r us
end
structure Ext(J:Bool->Nat->Prop)(β:C3)(h:Az)(w:World)(J':Bool->Nat->Prop)(β':C3)(h':Az)(w':World):Prop where
 jsub:∀ o k,J o k->J' o k
 keep:∀ o,xp (J o) w w'
 blk:∀ b x,Al h b=some x->∃ x',(Al h' b=some x'/\x'.mp=x.mp)/\(x'.dead=true\/(x.dead=false/\β' b=β b/\x'.sz=x.sz/\(x.mp=false->x'.cells.length=x.cells.length)))
 size:∀ b k o,β b=some (k,o)->Bn w k<=Bn w' k
mutual
def Rep.ext{J J':Bool->Nat->Prop}{β β':C3}{h h':Az}{w w':World}(E:Ext J β h w J' β' h' w'):∀{x:AV}{v:Value},Rep J β h w x v->Rep J' β' h' w' x v
| .own b off n,v,hr=>by
  rw[Rep]at hr ⊢
  obtain⟨x,A,cap,⟨hx,hm⟩,h1,h2,hr⟩:=hr
  obtain⟨x',⟨hx',hm'⟩,hd⟩:=E.blk b x hx
  refine⟨x',A,cap,⟨hx',by rw[hm',hm]⟩,h1,h2,?_⟩
  rcases hr with hr|⟨k,o,h3,hr⟩
  ·exact .inl hr
  ·refine .inr ⟨k,o,h3,?_⟩
   rcases hd with hd|⟨hd,hβ,hs,hl⟩
   ·exact .inl hd
   ·rcases hr with hr|⟨h4,h5,h6⟩
    ·simp[hd]at hr
    ·exact .inr ⟨by rw[hβ];exact h4,by rw[hs];exact Av2 h5 (E.size b k o h4),by rw[hs,hl hm];exact h6⟩
| .optr b off,v,hr=>by
  rw[Rep]at hr ⊢
  obtain⟨x,k,o,⟨hx,hm⟩,h1,hr⟩:=hr
  obtain⟨x',⟨hx',hm'⟩,hd⟩:=E.blk b x hx
  refine⟨x',k,o,⟨hx',by rw[hm',hm]⟩,h1,?_⟩
  rcases hd with hd|⟨hd,hβ,hs,hl⟩
  ·exact .inl hd
  ·rcases hr with hr|hr
   ·simp[hd]at hr
   ·exact .inr (by rw[hβ];exact hr)
| .omap b,v,hr=>by
  rw[Rep]at hr ⊢
  obtain⟨x,k,⟨hx,hm⟩,hr⟩:=hr
  obtain⟨x',⟨hx',hm'⟩,hd⟩:=E.blk b x hx
  refine⟨x',k,⟨hx',by rw[hm',hm]⟩,?_⟩
  rcases hd with hd|⟨hd,hβ,hs,hl⟩
  ·exact .inl hd
  ·rcases hr with hr|⟨hr,hv⟩
   ·simp[hd]at hr
   ·exact .inr ⟨by rw[hβ];exact hr,by rw[hs];exact hv⟩
|.pagg c org,v,hr=>by
  rw[Rep]at hr ⊢
  obtain⟨cs,h1,h2,h3⟩:=hr
  exact⟨cs,h1,h2,RepCs.keep (E.jsub org) (E.keep org) (fun _=>rfl) h3⟩
|.agg c,v,hr=>by
  rw[Rep]at hr ⊢
  obtain⟨cs,h1,h2⟩:=hr
  exact⟨cs,h1,Reps.ext E (c:=c) h2⟩
|.tup c,v,hr=>by
  rw[Rep]at hr ⊢
  obtain⟨cs,h1,h2⟩:=hr
  exact⟨cs,h1,Reps.ext E (c:=c) h2⟩
|.fn f c,v,hr=>by
  rw[Rep]at hr ⊢
  obtain⟨cs,h1,h2⟩:=hr
  exact⟨cs,h1,Reps.ext E (c:=c) h2⟩
|.undef,_,_=>by rw[Rep];trivial
|.imm c n sz t org,v,hr=>by rw[Rep]at hr ⊢;exact RepC.keep (E.jsub org) (E.keep org) hr
|.iptr c org,v,hr=>by rw[Rep]at hr ⊢;exact RepC.keep (E.jsub org) (E.keep org) hr
|.int ..,_,hr=>hr
|.bool _,_,hr=>hr
|.str _,_,hr=>hr
|.nsl,_,hr=>hr
|.nilptr,_,hr=>hr
|.nilfn,_,hr=>hr
def Reps.ext{J J':Bool->Nat->Prop}{β β':C3}{h h':Az}{w w':World}(E:Ext J β h w J' β' h' w'):∀{c:List AV}{cs:List Value},Reps J β h w c cs->Reps J' β' h' w' c cs
|[],_,hr=>hr
|x::r,cs,hr=>by
  rw[Reps]at hr ⊢
  obtain⟨u,us,h1,h2,h3⟩:=hr
  exact⟨u,us,h1,Rep.ext E (x:=x) h2,Reps.ext E (c:=r) h3⟩
end
end Gx
namespace Gx
open Go
def An5:List (Nat×List Value):=[(1,(List.range 20).map fun i=>.int .u64 ((10 ^ i:Nat):Int))]
def Aa2:List Nat:=[0]
end Gx
namespace Gx
open Go
def CellsRep(J:Bool->Nat->Prop)(β:C3)(h:Az)(w:World)(x:Blk)(rd:Nat->Option Value):Prop :=
 (x.pure=true->RepCs (J x.taint) w x.cells rd 0) /\
 (x.pure=false->∀ j c,x.cells[j]?=some c->∃ u,rd j=some u/\Rep J β h w c u/\u.oneCell'=true)
def FrOk(n:Nat)(fr:Nat×Nat):Prop:=fr.1=fr.2\/n<=fr.1
def FrOk.at{n:Nat}{fr:Nat×Nat}(h:FrOk n fr)(j:Nat)(d:j<n):¬ (fr.1<=j/\j<fr.2):=by rcases h with h|h<;>omega
def TyOk(X:Option (Nat×Nat))(ty:TypeId)(o n:Nat):Prop:=∀ t m,X=some (t,m)->ty=t/\o=0/\(m=0\/n=m)
def FrTy(X:Option (Nat×Nat))(ty:TypeId)(o n:Nat)(fr:Nat×Nat):Prop:=FrOk n fr/\TyOk X ty o n
def TyOk.none{ty:TypeId}{o n:Nat}:TyOk .none ty o n:=fun _ _ h=>by cases h
def FrOk.un{n:Nat}{fr:Nat×Nat}(h:FrOk n fr){ty:TypeId}{o:Nat}:FrTy .none ty o n fr:=⟨h,TyOk.none⟩
def FrTy.un0{ty:TypeId}{o n a:Nat}:FrTy .none ty o n (a,a):=⟨.inl rfl,TyOk.none⟩
def Aoo(J:Bool->Nat->Prop)(β:C3)(h:Az)(w:World)(b:Nat)(x:Blk):Prop :=
 (β b=none/\x.cells=[])\/∃ k o cs ty fr,β b=some (k,o)/\w.heap[k]?=some (.cells cs ty fr) /\
  FrTy x.ty ty o cs.size fr/\o+x.cells.length<=cs.size/\CellsRep J β h w x (fun j=>cs[o+j]?) /\
  (x.sealed=false->∀ g,¬ J g k)/\(x.sealed=true->J x.taint k)
def Arc(c:LA)(es:Array MapEntry):Prop:=∃ l:List Int,c=l.map (fun n=>.int .i64 n)/\es.toList.map (fun e=>(e.key,e.val))=l.map (fun n=>(.int .i64 n,.bool true))
def ObjIs(x:Blk)(ob:Obj):Prop:=(x.sz=0/\∃ es clk,ob=.map es clk/\Arc x.cells es)\/(x.sz=1/\∃ s pos,ob=.stringIter ⟨⟨s⟩⟩ pos/\x.cells=[.str s,.int .i64 (pos:Int)])
def MapRep(J:Bool->Nat->Prop)(β:C3)(w:World)(b:Nat)(x:Blk):Prop:=x.pure=true/\x.sealed=false/\∃ k ob,β b=some (k,0)/\w.heap[k]?=some ob/\ObjIs x ob/\∀ g,¬ J g k
def ObjIs.row{x:Blk}{ob:Obj}(h:ObjIs x ob){cs:Array Value}{ty:TypeId}{fr:Nat×Nat}:ob≠.cells cs ty fr:=by rcases h with⟨_,es,clk,rfl,_⟩|⟨_,s,pos,rfl,_⟩<;>exact fun h=>by cases h
def GlobOk(J:Bool->Nat->Prop)(w:World):Prop:=(∀ p∈An5,J false p.1/\∃ ty fr,w.heap[p.1]?=some (.cells p.2.toArray ty fr))/\∀ g∈Aa2,J false g/\∃ m,w.cell? ⟨g,0,none⟩=some (.int .i64 m)
def GlobOk.to {J J':Bool->Nat->Prop} {w w':World} (h:GlobOk J w) (l:∀ k,J false k->J' false k) (n:xp (J false) w w'):GlobOk J' w':=⟨fun p d =>
 ⟨l _ (h.1 p d).1,by rw[n _ (h.1 p d).1];exact(h.1 p d).2⟩,fun g f=>⟨l _ (h.2 g f).1,by rw[iV n (by exact(h.2 g f).1)];exact(h.2 g f).2⟩⟩
def GlobOk.ext{J J':Bool->Nat->Prop}{β β':C3}{h h':Az}{w w':World}(G:GlobOk J w)(E:Ext J β h w J' β' h' w'):GlobOk J' w':=G.to (E.jsub false) (E.keep false)
structure SimH(J:Bool->Nat->Prop)(β:C3)(h:Az)(w:World):Prop where
 jlt:∀ o k,J o k->k<w.heap.size
 jft:∀ k,J false k->J true k
 gl:GlobOk J w
 blk:∀ b x,Al h b=some x->x.dead=false->x.mp=false->Aoo J β h w b x
 mblk:∀ b x,Al h b=some x->x.dead=false->x.mp=true->MapRep J β w b x
 sep:∀ b b' x x' k o o',Al h b=some x->Al h b'=some x'->x.dead=false->x'.dead=false->x.sealed=false->β b=some (k,o)->β b'=some (k,o')->b=b'
mutual
def WZ{J:Bool->Nat->Prop}{β:C3}{h:Az}{w:World}:∀ v:Value,Rep J β h w (iK v) v
|.int ..=>by simp[iK,Rep]
|.bool _=>by simp[iK,Rep]
|.string ⟨⟨s⟩⟩=>by simp[iK,Rep]
|.slice none 0 0=>by simp[iK,Rep]
|.slice none 0 (_+1)=>by simp[iK,Rep]
|.slice none (_+1) _=>by simp[iK,Rep]
|.slice (some _) _ _=>by simp[iK,Rep]
|.pointer none=>by simp[iK,Rep]
|.pointer (some _)=>by simp[iK,Rep]
|.nilFunc=>by simp[iK,Rep]
|.agg ⟨cs⟩=>by rw[iK,Rep];exact⟨cs,rfl,W_ cs⟩
|.float ..=>by simp[iK,Rep]
|.complex ..=>by simp[iK,Rep]
|.map _=>by simp[iK,Rep]
|.chan _=>by simp[iK,Rep]
|.func ..=>by simp[iK,Rep]
|.iface ..=>by simp[iK,Rep]
|.nilIface=>by simp[iK,Rep]
|.tuple _=>by simp[iK,Rep]
def W_{J:Bool->Nat->Prop}{β:C3}{h:Az}{w:World}:∀ cs:List Value,Reps J β h w (T2 cs) cs
|[]=>by simp[T2,Reps]
|v::r=>by rw[T2,Reps];exact⟨v,r,rfl,WZ v,W_ r⟩
end
structure SimS(J:Bool->Nat->Prop)(β:C3)(h:Az)(w:World)(s:Iq)(t:Array Value):Prop where
 slot:∀ i v,t[i]?=some v->Rep J β h w (Ht s i) v
 out:∀ i,t.size<=i->Ht s i=.undef
def Cr{J:Bool->Nat->Prop}{β:C3}{h:Az}{w:World}{s:Iq}{a:Act}(H:SimS J β h w s a.tmps)(x:Operand):Rep J β h w (ev s x) (a.eval x):=by
 cases x with
| tmp t =>
  rw[ev,Act.eval,Awn]
  cases d:a.tmps[t]? with
  |some v=>exact H.slot t v d
  |none =>
   have:a.tmps.size<=t:=by simpa using d
   rw[H.out t this];simp[Rep]
|const v=>exact WZ v
|global g=>simp[ev,Rep]
| func f =>
  rw[ev]
  cases l:Nat.blt f 1000000 with
  |false=>simp[Rep]
  |true =>
   have:f<1000000:=by simpa using l
   simp[Rep,Act.eval,Reps,Avg this]
section
variable{R:Type}{r:R}{P:Program}{J:Bool->Nat->Prop}{β:C3}{h:Az}{w:World}
def vG{t:TypeId}{op:BinOp}{k:IntKind}{a b:Int}{v:AV}(d:iL op k a b=some v):
  ∃ vc,(binOp op t (.int k a) (.int k b)).run P w=.ok vc w/\Rep J β h w v vc:=by cases op<;>simp[iL]at d<;>subst d<;>simp[binOp,Op.intArith,Op.intBits,Op.intCmp,Rep]
def Aa3{op:BinOp}{t:TypeId}{x y:AV}{k:AV->O R}{vx vy:Value}(f:Afr P t op x y k=some r)(hx:Rep J β h w x vx)(z:Rep J β h w y vy)(ox oy:Operand):
  ∃ v vc,k v=some r/\(do eqGuard op t ox oy vx vy;binOp op t vx vy:Sem Value).run P w=.ok vc w/\Rep J β h w v vc:=by
 unfold Afr at f
 split at f
 ·rename_i s a k2 b
  rw[Rep]at hx z;subst hx z
  have n:(eqGuard op t ox oy (.int s a) (.int k2 b)).run P w=.ok () w:=by
   unfold eqGuard;cases op<;>simp
  split at f
  ·cases l:decide (b<0)<;>rw[l]at f<;>simp at f l
   refine⟨_,_,f,?_,by rw[Rep]⟩
   simp[n,binOp,Op.shift];intro D;omega
  ·cases l:decide (b<0)<;>rw[l]at f<;>simp at f l
   refine⟨_,_,f,?_,by rw[Rep]⟩
   simp[n,binOp,Op.shift];intro D;omega
  ·cases u:Sc s k2<;>rw[u]at f<;>simp at f
   have q:s=k2:=by simpa[Sc]using u
   subst q
   cases l:(b==0)<;>rw[l]at f<;>simp at f l
   refine⟨_,_,f,?_,by rw[Rep]⟩
   simp[n,binOp,Op.intDiv,l]
  ·cases u:Sc s k2<;>rw[u]at f<;>simp at f
   have q:s=k2:=by simpa[Sc]using u
   subst q
   cases l:(b==0)<;>rw[l]at f<;>simp at f l
   refine⟨_,_,f,?_,by rw[Rep]⟩
   simp[n,binOp,Op.intDiv,l]
  ·cases u:Sc s k2<;>rw[u]at f<;>simp at f
   have q:s=k2:=by simpa[Sc]using u
   subst q
   cases hi:iL op s a b with
   |none=>rw[hi]at f;simp at f
   |some v =>
    rw[hi]at f
    obtain⟨vc,F,G⟩:=vG (P:=P) (J:=J) (β:=β) (h:=h) (w:=w) (t:=t) hi
    exact⟨v,vc,by simpa using f,by simp[n,F],G⟩
 ·rename_i a b
  rw[Rep]at hx z;subst hx z
  split at f
  ·cases l:WT P t<;>rw[l]at f<;>simp at f
   have A:P.underlying t=some .bool:=by unfold WT at l;split at l<;>simp_all
   refine⟨_,_,f,?_,by rw[Rep]⟩
   have C:(Op.equal t (.bool a) (.bool b)).run P w=.ok (a==b) w:=by
    have:∀ d,(Op.equalIn (d+1) t (.bool a) (.bool b)).run P w=.ok (a==b) w:=fun d=>by
     unfold Op.equalIn;simp only[Sem.run_bind,run_underlying A,Result.andThen_ok,Sem.run_pure]
    exact this 9999
   have n:∀ op,(eqGuard op t ox oy (.bool a) (.bool b)).run P w=.ok () w:=fun op=>by unfold eqGuard;cases op<;>simp
   simp only[Sem.run_bind,n,Result.andThen_ok,binOp,C,Sem.run_pure]
  ·cases l:WT P t<;>rw[l]at f<;>simp at f
   have A:P.underlying t=some .bool:=by unfold WT at l;split at l<;>simp_all
   refine⟨_,_,f,?_,by rw[Rep]⟩
   have C:(Op.equal t (.bool a) (.bool b)).run P w=.ok (a==b) w:=by
    have:∀ d,(Op.equalIn (d+1) t (.bool a) (.bool b)).run P w=.ok (a==b) w:=fun d=>by
     unfold Op.equalIn;simp only[Sem.run_bind,run_underlying A,Result.andThen_ok,Sem.run_pure]
    exact this 9999
   have n:∀ op,(eqGuard op t ox oy (.bool a) (.bool b)).run P w=.ok () w:=fun op=>by unfold eqGuard;cases op<;>simp
   simp only[Sem.run_bind,n,Result.andThen_ok,binOp,C,Sem.run_pure]
  ·simp at f
 ·rename_i a b
  rw[Rep]at hx z;subst hx z
  have I:(⟨⟨a⟩⟩:ByteArray).toList=a:=by simp[ByteArray.toList_eq]
  have eb:(⟨⟨b⟩⟩:ByteArray).toList=b:=by simp[ByteArray.toList_eq]
  have n:∀ op,(eqGuard op t ox oy (.string ⟨⟨a⟩⟩) (.string ⟨⟨b⟩⟩)).run P w=.ok () w:=fun op=>by unfold eqGuard;cases op<;>simp
  split at f
  ·cases l:ble (a.length+b.length) 140737488355328<;>rw[l]at f<;>simp at f l
   refine⟨_,_,f,?_,by rw[Rep]⟩
   have M:¬ (((⟨⟨a⟩⟩:ByteArray).size+(⟨⟨b⟩⟩:ByteArray).size:Nat):Int)>IntKind.i64.max:=by
    show ¬ ((a.length+b.length:Nat):Int)>9223372036854775807
    omega
   have S:(⟨⟨a⟩⟩:ByteArray)++⟨⟨b⟩⟩=⟨⟨a++b⟩⟩:=by
    apply ByteArray.ext;simp[ByteArray.data_append]
   simp only[Sem.run_bind,n,Result.andThen_ok,binOp,Op.stringOp,if_neg M,Sem.run_pure,S]
  all_goals first
   |(refine⟨_,_,f,?_,by rw[Rep]⟩;simp only[Sem.run_bind,n,Result.andThen_ok,binOp,Op.stringOp,Sem.run_pure,I,eb];done)
   |simp at f
 ·simp at f
end
end Gx
namespace Gx
open Go
section
variable{R:Type}{r:R}{P:Program}{J:Bool->Nat->Prop}{β:C3}{h:Az}{w:World}
def ub{α:Type}{o:Option α}{f:α->O R}(d:o.bind f=some r):∃ x,o=some x/\f x=some r:=by
 cases o with
|none=>simp at d
|some x=>exact⟨x,rfl,by simpa using d⟩
def uc{b:Bool}{x:O R}(d:cond b x none=some r):b=true/\x=some r:=by cases b<;>simp at d;exact⟨rfl,d⟩
def Aa4{b:Bool}{x:O R}(d:cond b none x=some r):b=false/\x=some r:=by cases b<;>simp at d;exact⟨rfl,d⟩
def Afu{op:UnOp}{x v:AV}{vx:Value}(d:Arb op x=some v)(hx:Rep J β h w x vx):
  ∃ vc,(Op.unary op vx).run P w=.ok vc w/\Rep J β h w v vc:=by
 unfold Arb at d
 split at d
 ·rename_i k n
  rw[Rep]at hx;subst hx;simp at d;subst d
  refine⟨.int k (k.wrap (-n)),by simp[Op.unary,Op.intArith],?_⟩
  rw[Rep]
 ·rename_i k n
  rw[Rep]at hx;subst hx
  have f:=d
  rw[iL]at f
  simp only[Awf]at f;subst f
  refine⟨_,rfl,?_⟩
  rw[Rep];cases k.signed<;>rfl
 ·rename_i b
  rw[Rep]at hx;subst hx;simp at d;subst d
  exact⟨.bool (!b),by simp[Op.unary],by rw[Rep]⟩
 ·simp at d
def kO(P:Program)(J:Bool->Nat->Prop)(β:C3)(h:Az)(w:World)(t:TypeId)(rd:Nat->Option Value)(v:AV):Prop :=
 (∃ d,P.underlying t=some d/\d.isRow=false/\∃ u,rd 0=some u/\Rep J β h w v u) \/
 (∃ d,P.underlying t=some d/\d.isRow=true/\∃ us:List Value,(P.info? t).map (·.size)=some us.length/\(∀ j u,us[j]?=some u->rd j=some u)/\Rep J β h w v (.agg us.toArray))
def RepCs.at{J:Nat->Prop}{c:LA}{rd:Nat->Option Value}(d:RepCs J w c rd 0){j:Nat}{x:AV}(f:c[j]?=some x):∃ u,rd j=some u/\RepC J w x u:=by have:=C6.1 d j x f;simpa using this
def RepCs.drop{J:Nat->Prop}{c:LA}{rd:Nat->Option Value}(d:RepCs J w c rd 0)(n:Nat):RepCs J w (c.drop n) (fun j=>rd (n+j)) 0:=by
 rw[C6]at d ⊢
 intro j x f
 rw[Awd]at f
 simpa using d (n+j) x f
def RepCs.take{J:Nat->Prop}{c:LA}{rd:Nat->Option Value}(f:RepCs J w c rd 0)(n:Nat):RepCs J w (c.take n) rd 0:=by
 rw[C6]at f ⊢
 intro j x d
 rw[Awj]at d
 split at d
 ·exact f j x d
 ·simp at d
def RepCs.list{J:Nat->Prop}{c:LA}{rd:Nat->Option Value}(l:RepCs J w c rd 0):
  ∃ us:List Value,us.length=c.length/\(∀ j u,us[j]?=some u->rd j=some u)/\RepCs J w c (fun j=>us[j]?) 0:=by
 refine⟨c.zipIdx.map fun p=>(rd p.2).getD undef,by simp,fun j u d=>?_,?_⟩
 ·rw[Awb,Ayw]at d
  cases hx:c[j]? with
  |none=>rw[hx]at d;simp at d
  |some x =>
   rw[hx]at d
   obtain⟨n,f,_⟩:=l.at hx
   simp[f]at d
   rw[f,d]
 ·rw[C6]
  intro j x d
  obtain⟨u,f,hr⟩:=l.at d
  refine⟨u,?_,hr⟩
  simp[d,f]
def kP{J1 J2:Nat->Prop}:∀{c:LA}{rd:Nat->Option Value}{i:Nat},Bg c=true->RepCs J1 w c rd i->RepCs J2 w c rd i
|[],_,_,_,_=>trivial
|x::r,rd,i,d,f=>by
  rw[RepCs]at f ⊢
  obtain⟨⟨u,l,q⟩,n⟩:=f
  have hr:Bg r=true:=by unfold Bg at d;split at d<;>simp_all
  refine⟨⟨u,l,?_⟩,kP hr n⟩
  unfold Bg at d
  split at d<;>simp_all[RepC]
def aE{t:TypeId}{c:LA}{org:Bool}{k:Bool->O R}{rd:Nat->Option Value}{i:Nat}(d:CM P t c org k=some r)(f:RepCs (J org) w c rd i):∃ o,k o=some r/\RepCs (J o) w c rd i:=by
 unfold CM at d
 cases l:Ad3 P t with
|true=>rw[l]at d;exact⟨org,d,f⟩
|false =>
  rw[l,cond_false]at d
  obtain⟨n,q⟩:=uc d
  refine⟨false,q,?_⟩
  cases org with
  |false=>exact f
  |true=>exact kP (by simpa using n) f
def Zi{t:TypeId}{c:LA}{org:Bool}{k:AV->O R}{rd:Nat->Option Value}(f:SR P t c org k=some r)(z:RepCs (J org) w c rd 0):
  ∃ v,k v=some r/\kO P J β h w t rd v:=by
 unfold SR at f
 have agg:∀{d:TypeDesc},P.underlying t=some d->d.isRow=true->((Cw P t).bind fun n=>cond (ble n c.length) (CM P t (c.take n) org fun o=>k (.pagg (c.take n) o)) none)=some r ->
   ∃ v,k v=some r/\kO P J β h w t rd v:=by
  intro d q T f
  obtain⟨n,hn,f⟩:=ub f
  obtain⟨G,f⟩:=uc f
  have S:n<=c.length:=by simpa using G
  obtain⟨us,s,l,I⟩:=(z.take n).list
  have U:us.length=n:=by rw[s];simp;omega
  obtain⟨o,f,M⟩:=aE f I
  refine⟨_,f,.inr ⟨d,q,T,us,?_,l,?_⟩⟩
  ·rw[U];exact hn
  ·rw[Rep];exact⟨us,rfl,by rw[s],M⟩
 split at f
 ·rename_i kd q
  obtain⟨x,hx,f⟩:=ub f
  obtain⟨n,hn,f⟩:=ub f
  obtain⟨u,s,l⟩:=z.at (by rw[<-Ave];exact hx)
  refine⟨_,f,.inl ⟨_,q,rfl,u,s,?_⟩⟩
  unfold kF at hn
  split at hn
  ·obtain⟨C,D⟩:=uc hn
   simp[Sc]at C D;subst C;subst D
   rw[RepC]at l;rw[Rep];exact l
  ·simp at hn
 ·rename_i q
  obtain⟨x,hx,f⟩:=ub f
  obtain⟨n,hn,f⟩:=ub f
  obtain⟨u,s,l⟩:=z.at (by rw[<-Ave];exact hx)
  refine⟨_,f,.inl ⟨_,q,rfl,u,s,?_⟩⟩
  unfold asBool at hn
  split at hn
  ·simp at hn;subst hn
   rw[RepC]at l;rw[Rep];exact l
  ·simp at hn
 ·rename_i q
  obtain⟨x,hx,f⟩:=ub f
  obtain⟨n,hn,f⟩:=ub f
  obtain⟨u,s,l⟩:=z.at (by rw[<-Ave];exact hx)
  refine⟨_,f,.inl ⟨_,q,rfl,u,s,?_⟩⟩
  unfold kG at hn
  split at hn
  ·simp at hn;subst hn
   rw[RepC]at l;rw[Rep];exact l
  ·simp at hn
 ·rename_i e q
  obtain⟨sz,V,f⟩:=ub f
  obtain⟨x,hx,f⟩:=ub f
  obtain⟨p,y,f⟩:=ub f
  obtain⟨u,s,l⟩:=z.at (by rw[<-Ave];exact hx)
  refine⟨_,f,.inl ⟨_,q,rfl,u,s,?_⟩⟩
  unfold Aim at y
  rw[Rep,RepC]
  split at y
  ·obtain⟨C,F⟩:=uc y
   simp at C F;subst C;subst F
   rw[RepC]at l
   obtain⟨I,A,cap,M,X,h6,Y⟩:=l
   exact⟨I,A,cap,M,X,by simp,Y⟩
  ·simp at y;subst y
   rw[RepC]at l
   exact⟨by simp,none,0,l,by simp,by simp,.inl rfl⟩
  ·simp at y
 ·rename_i q;exact agg q rfl f
 ·rename_i q;exact agg q rfl f
 ·simp at f
def C4:∀{c:LA}{cs:List Value},Reps J β h w c cs↔cs.length=c.length/\∀(j:Nat)(x:AV)(u:Value),c[j]?=some x->cs[j]?=some u->Rep J β h w x u
|[],cs=>by rw[Reps];simp
| x::r,cs=>by
  rw[Reps]
  constructor
  ·rintro⟨u,us,rfl,l,n⟩
   rw[C4]at n
   refine⟨by simp[n.1],fun j y v d f=>?_⟩
   cases j with
   |zero=>simp at d f;subst d f;exact l
   |succ j=>exact n.2 j y v (by simpa using d) (by simpa using f)
  ·rintro⟨q,l⟩
   cases cs with
   |nil=>simp at q
   |cons u us =>
    refine⟨u,us,rfl,l 0 x u (by simp) (by simp),?_⟩
    rw[C4]
    exact⟨by simpa using q,fun j y v d f=>l (j+1) y v (by simpa using d) (by simpa using f)⟩
def S_{t:TypeId}{c:LA}{k:AV->O R}{rd:Nat->Option Value}(f:kH P t c k=some r)
  (z:∀ j x,c[j]?=some x->∃ u,rd j=some u/\Rep J β h w x u) :
  ∃ v,k v=some r/\kO P J β h w t rd v:=by
 unfold kH at f
 have agg:∀{d:TypeDesc},P.underlying t=some d->d.isRow=true->((Cw P t).bind fun n=>cond (ble n c.length) (k (.agg (c.take n))) none)=some r ->
   ∃ v,k v=some r/\kO P J β h w t rd v:=by
  intro d l C f
  obtain⟨n,hn,f⟩:=ub f
  obtain⟨A,f⟩:=uc f
  have y:n<=c.length:=by simpa using A
  refine⟨_,f,.inr ⟨d,l,C,(c.take n).zipIdx.map fun p=>(rd p.2).getD undef,?_,fun j u s=>?_,?_⟩⟩
  ·simp;rw[Avo y];exact Axn.1 hn
  ·rw[Awb,Ayw]at s
   cases hx:(c.take n)[j]? with
   |none=>rw[hx]at s;simp at s
   | some x =>
    rw[hx]at s
    rw[Awj]at hx
    split at hx
    ·obtain⟨D,q,_⟩:=z j x hx
     simp[q]at s
     rw[q,s]
    ·simp at hx
  ·rw[Rep]
   refine⟨_,rfl,C4.2 ⟨by simp,fun j x u hx l=>?_⟩⟩
   simp[hx]at l
   rw[Awj]at hx
   split at hx
   ·obtain⟨D,q,hr⟩:=z j x hx
    simp[q]at l;subst l;exact hr
   ·simp at hx
 split at f
 ·rename_i l;exact agg l rfl f
 ·rename_i l;exact agg l rfl f
 ·rename_i d _ _ l
  obtain⟨x,hx,f⟩:=ub f
  obtain⟨u,F,G⟩:=z 0 x (by rw[<-Ave];exact hx)
  refine⟨x,f,.inl ⟨d,l,?_,u,F,G⟩⟩
  cases d<;>simp_all
 ·simp at f
def t6{n:Nat}{k:AV->O R}:∀{c:LA}{i:Nat},M_ n k c i=some r->i<=n/\∃ x,c[n - i]?=some x/\k x=some r
|[],i,d=>by simp[M_]at d
| v::c,i,d=>by
  rw[M_]at d
  cases f:beq n i with
  |true =>
   rw[f]at d
   have:n=i:=Aus f
   subst this
   exact⟨Aui _,v,by simp,d⟩
  |false =>
   rw[f]at d
   obtain⟨s,x,l,q⟩:=t6 (c:=c) d
   refine⟨by omega,x,?_,q⟩
   rw[show n - i=(n - (i+1))+1 by omega];simpa using l
def eQ{t:TypeId}{c:LA}{off:Nat}{k:AV->O R}(f:ST P t c off k=some r):kH P t (c.drop off) k=some r:=by
 unfold ST at f
 unfold kH
 split at f
 ·exact f
 ·exact f
 ·rename_i d s u v
  obtain⟨_,x,l,n⟩:=t6 f
  have q:(c.drop off).head?=some x:=by rw[Ave,Awd];simpa using l
  rw[q];exact n
 ·simp at f
def XA{t:TypeId}{d:TypeDesc}(f:P.underlying t=some d):(isAgg t).run P w=.ok d.isRow w:=by
 unfold isAgg
 rw[Sem.run_bind,run_underlying f w]
 cases d<;>simp
def aF{t:TypeId}{a:Addr}{v:AV}(hr:kO P J β h w t (fun j=>w.cell? (a.add j)) v):∃ vc,(loadVar t a).run P w=.ok vc w/\Rep J β h w v vc:=by
 rcases hr with⟨d,l,n,u,f,q⟩|⟨d,l,n,us,f,q,x⟩
 ·refine⟨u,?_,q⟩
  have s:w.cell? a=some u:=by simpa[Addr.add]using f
  simp[loadVar,XA l,n,s]
 ·refine⟨_,?_,x⟩
  have y:=run_loadCells_list (P:=P) w a us q
  cases hq:P.info? t with
  |none=>simp[hq]at f
  |some i =>
   have hs:i.size=us.length:=by simpa[hq]using f
   simp[loadVar,Sem.run_bind,XA l,n,Go.sizeOf,typeInfo,hq,hs,y]
def Yh{t:TypeId}{cs:List Value}{off:Nat}{v:AV}(hr:kO P J β h w t (fun j=>cs[off+j]?) v):∃ vc,(part t ⟨cs⟩ off).run P w=.ok vc w/\Rep J β h w v vc:=by
 rcases hr with⟨d,l,n,u,f,q⟩|⟨d,l,n,us,f,q,x⟩
 ·refine⟨u,?_,q⟩
  simp at f
  simp[part,XA l,n,f]
 ·refine⟨_,?_,x⟩
  cases hq:P.info? t with
  |none=>simp[hq]at f
  | some i =>
   have hs:i.size=us.length:=by simpa[hq]using f
   have:(⟨cs⟩:Array Value).extract off (off+us.length)=us.toArray:=by
    apply Aww
    simp
    apply List.ext_getElem?
    intro j
    rw[Awj,Awd]
    split
    ·rename_i s
     rw[Aug s]
     exact q j _ (Aug s)
    ·rename_i s
     rw[Av4 (by omega)]
   simp only[part,Sem.run_bind,XA l,n,Go.sizeOf,typeInfo,run_program,Result.andThen_ok,hq,Sem.run_pure,hs,if_true,this]
end
end Gx
namespace Gx
open Go
section
variable{R:Type}{r:R}{P:Program}{J:Bool->Nat->Prop}{β:C3}{h:Az}{w:World}{g:B7}
def Zj{k:Nat}{cs:Array Value}{ty:TypeId}{fr:Nat×Nat}(d:w.heap[k]?=some (.cells cs ty fr))(i:Nat):w.cell? ⟨k,i,none⟩=cs[i]?:=by simp[World.cell?,d]
def Looks(g:B7)(h:Az):Prop:=∀ b x,g b=some x->Al h b=some x
def Ox{b:Nat}{x:Blk}(f:Looks g h)(d:K6 g b=some x):Al h b=some x/\x.dead=false:=by
 unfold K6 at d
 obtain⟨y,l,d⟩:=ub d
 obtain⟨n,d⟩:=Aa4 d
 simp at d;subst d
 exact⟨f b _ l,n⟩
def vH{b off:Nat}{x:Blk}{v:Value}(S:SimH J β h w)(n:Al h b=some x)(q:x.dead=false)(hr:Rep J β h w (.optr b off) v):
  ∃ k o cs ty fr,β b=some (k,o)/\v=.pointer (some ⟨k,o+off,none⟩)/\w.heap[k]?=some (.cells cs ty fr) /\
  FrTy x.ty ty o cs.size fr/\o+x.cells.length<=cs.size/\CellsRep J β h w x (fun j=>cs[o+j]?) /\
  (x.sealed=false->∀ g,¬ J g k)/\(x.sealed=true->J x.taint k):=by
 rw[Rep]at hr
 obtain⟨y,k,o,⟨f,s⟩,t,hr⟩:=hr
 rw[n]at f;simp at f;subst f
 rcases hr with hr|l
 ·simp[q]at hr
 ·rcases S.blk b x n q s with⟨hn,_⟩|⟨G,o',cs,ty,fr,d,u,z,A,C,D,F⟩
  ·rw[l]at hn;simp at hn
  ·rw[l]at d;simp at d;obtain⟨rfl,rfl⟩:=d
   exact⟨k,o,cs,ty,fr,l,t,u,z,A,C,D,F⟩
def CellsRep.reads{t:TypeId}{x:Blk}{cs:Array Value}{o off:Nat}{k:AV->O R}(q:CellsRep J β h w x (fun j=>cs[o+j]?))
  (d:cond x.pure (SR P t (x.cells.drop off) x.taint k) (ST P t x.cells off k)=some r) :
  ∃ v,k v=some r/\kO P J β h w t (fun j=>cs[o+off+j]?) v:=by
 cases f:x.pure with
|true =>
  rw[f]at d
  have:=(q.1 f).drop off
  obtain⟨v,l,n⟩:=Zi (β:=β) (h:=h) d this
  exact⟨v,l,by simpa[Avj]using n⟩
| false =>
  rw[f]at d
  obtain⟨v,l,n⟩:=S_ (J:=J) (β:=β) (h:=h) (w:=w) (rd:=fun j=>cs[o+(off+j)]?) (eQ d) (fun j y s=>by
   rw[Awd]at s
   obtain⟨u,z,hr,_⟩:=q.2 f _ _ s
   exact⟨u,z,hr⟩)
  exact⟨v,l,by simpa[Avj]using n⟩
def kQ{t:TypeId}{p:AV}{vp:Value}{k:AV->O R}(S:SimH J β h w)(z:Looks g h)(d:oA P g t p k=some r)(f:Rep J β h w p vp):
  ∃ v vc,k v=some r/\(Instr.loadAt t vp).run P w=.ok vc w/\Rep J β h w v vc:=by
 unfold oA at d
 split at d
 ·rename_i c org
  rw[Rep,RepC]at f
  obtain⟨a,rfl,_,l⟩:=f
  obtain⟨v,n,q⟩:=Zi (β:=β) (h:=h) d l
  obtain⟨vc,s,u⟩:=aF q
  exact⟨v,vc,n,by simp[Instr.loadAt,Instr.sureAddr,s],u⟩
 ·rename_i b off
  obtain⟨x,hx,d⟩:=ub d
  obtain⟨A,C⟩:=Ox z hx
  obtain⟨kk,o,cs,ty,fr,F,rfl,D,_,_,l,_⟩:=vH S A C f
  obtain⟨v,n,q⟩:=l.reads d
  have y:kO P J β h w t (fun j=>w.cell? ((⟨kk,o+off,none⟩:Addr).add j)) v:=by
   simpa only[Addr.add_mid,Zj D]using q
  obtain⟨vc,s,u⟩:=aF y
  exact⟨v,vc,n,by simp[Instr.loadAt,Instr.sureAddr,s],u⟩
 ·simp at d
def Ez{t:TypeId}{n:Nat}(hs:Cw P t=some n)(w:World):(Go.sizeOf t).run P w=.ok n w:=by
 unfold Cw at hs
 cases hq:P.info? t with
|none=>simp[hq]at hs
|some i=>simp[hq]at hs;simp[Go.sizeOf,typeInfo,hq,hs]
def W7{i:Int}{n:Nat}(hi:Ai i n=true):0<=i/\i<(n:Int):=by simpa[Ai]using hi
def eR{J:Nat->Prop}{c:LA}{a:Addr}(d:RepCs J w c (fun j=>w.cell? (a.add j)) 0)(n:Nat):RepCs J w (c.drop n) (fun j=>w.cell? ((a.add n).add j)) 0:=by
 have e:∀ j,(a.add n).add j=a.add (n+j):=fun j=>by
  unfold Addr.add
  by_cases f:n=0<;>by_cases l:j=0<;>simp[f,l,Avj]
 simpa[e]using d.drop n
def Amd{b off n:Nat}{v:Value}(m:Nat)(hr:Rep J β h w (.own b off n) v)(hn:n≠0):
  ∃ k o cap,v=.slice (some ⟨k,o,none⟩) n cap/\Rep J β h w (.optr b (off+m)) (.pointer (some ⟨k,o+m,none⟩)):=by
 rw[Rep]at hr
 obtain⟨x,A,cap,hx,rfl,d,hr⟩:=hr
 rcases hr with hr|⟨k,o,rfl,hr⟩
 ·omega
 ·refine⟨k,o+off,cap,rfl,?_⟩
  rw[Rep];exact⟨x,k,o,hx,by rw[Avj],hr.imp id (·.1)⟩
def aG{t d:TypeId}{kd:IntKind}{i:Int}{len cap sz:Nat}{a:Addr}(f:P.underlying t=some (.slice d))(hs:Cw P d=some sz)(l:Ai i len=true):
  (Instr.indexAt t (.slice (some a) len cap) (.int kd i)).run P w=.ok (.pointer (some (a.add (i.toNat*sz)))) w:=by
 obtain⟨n,q⟩:=W7 l
 simp[Instr.indexAt,asIntOf,run_underlying f,n,q,Ez hs]
def aH{t d:TypeId}{kd:IntKind}{i:Int}{len sz:Nat}{a:Addr}(f:P.underlying t=some (.array len d))(hs:Cw P d=some sz)(l:Ai i len=true):
  (Instr.indexAt t (.pointer (some a)) (.int kd i)).run P w=.ok (.pointer (some (a.add (i.toNat*sz)))) w:=by
 obtain⟨n,q⟩:=W7 l
 simp[Instr.indexAt,asIntOf,run_underlying f,n,q,Ez hs,Instr.sureAddr]
def iW{t:TypeId}{x i:AV}{vx vi:Value}{k:AV->O R}(f:W4 P t x i k=some r)(hx:Rep J β h w x vx)(hi:Rep J β h w i vi):
  ∃ v vc,k v=some r/\(Instr.indexAt t vx vi).run P w=.ok vc w/\Rep J β h w v vc:=by
 unfold W4 at f
 split at f
 ·rename_i s c len sz tight org kd i l
  obtain⟨u,hs,n⟩:=ub f
  obtain⟨G,S⟩:=uc n
  obtain⟨d,q⟩:=uc S
  have z:u=sz:=by simp at G;exact G.symm
  subst z
  rw[Rep]at hi;subst hi
  rw[Rep,RepC]at hx
  obtain⟨I,A,cap,rfl,M,_,hA⟩:=hx
  rcases hA with hA|⟨a,rfl,C,D⟩
  ·have:=W7 d;omega
  refine⟨_,_,q,aG l hs d,?_⟩
  rw[Rep,RepC]
  exact⟨_,rfl,by rw[W6];exact C,eR D _⟩
 ·rename_i s b off len kd i l
  obtain⟨sz,hs,n⟩:=ub f
  obtain⟨d,q⟩:=uc n
  rw[Rep]at hi;subst hi
  obtain⟨kk,o,cap,rfl,F⟩:=Amd (i.toNat*sz) hx (by have:=W7 d;omega)
  exact⟨_,_,q,aG l hs d,by rw[Addr.add_mid];exact F⟩
 ·rename_i len s c org kd i l
  obtain⟨sz,hs,n⟩:=ub f
  obtain⟨d,q⟩:=uc n
  rw[Rep]at hi;subst hi
  rw[Rep,RepC]at hx
  obtain⟨a,rfl,C,D⟩:=hx
  refine⟨_,_,q,aH l hs d,?_⟩
  rw[Rep,RepC]
  exact⟨_,rfl,by rw[W6];exact C,eR D _⟩
 ·rename_i len s b off kd i l
  obtain⟨sz,hs,n⟩:=ub f
  obtain⟨d,q⟩:=uc n
  rw[Rep]at hi;subst hi
  rw[Rep]at hx
  obtain⟨y,kk,o,T,rfl,F⟩:=hx
  refine⟨_,_,q,aH l hs d,?_⟩
  rw[Rep,Addr.add_mid]
  exact⟨y,kk,o,T,by rw[Avj],F⟩
 ·simp at f
def eS{t:TypeId}{f:Nat}{p:Nat×TypeId}(d:ng P t f=some p):∃ fs fd,P.underlying t=some (.struct fs)/\fs[f]?=some fd/\fd.offset=p.1/\fd.type=p.2:=by
 unfold ng at d
 split at d
 ·rename_i fs l
  cases hq:fs[f]? with
  |none=>simp[hq]at d
  |some fd=>simp[hq]at d;subst d;exact⟨fs,fd,l,hq,rfl,rfl⟩
 ·simp at d
def iX{t:TypeId}{x:AV}{f:Nat}{vx:Value}{k:AV->O R}(q:W5 P t x f k=some r)(hx:Rep J β h w x vx):
  ∃ v vc,k v=some r/\(Instr.fieldAt t vx f).run P w=.ok vc w/\Rep J β h w v vc:=by
 unfold W5 at q
 obtain⟨p,s,u⟩:=ub q
 obtain⟨n,hn,z⟩:=ub u
 obtain⟨A,d⟩:=Aa4 z
 obtain⟨fs,fd,C,D,F,G⟩:=eS s
 have l:n≠0:=by intro e;subst e;simp at A
 have run:∀ a:Addr,(Instr.fieldAt t (.pointer (some a)) f).run P w=.ok (.pointer (some (a.add p.1))) w:=fun a=>by
  simp[Instr.fieldAt,run_underlying C,D,Instr.sureAddr,fieldPlace,G,Ez hn,l,F]
 split at d
 ·rw[Rep,RepC]at hx
  obtain⟨a,rfl,I,M⟩:=hx
  refine⟨_,_,d,run a,?_⟩
  rw[Rep,RepC]
  exact⟨_,rfl,by rw[W6];exact I,eR M _⟩
 ·rw[Rep]at hx
  obtain⟨y,kk,o,S,rfl,T⟩:=hx
  refine⟨_,_,d,run _,?_⟩
  rw[Rep,Addr.add_mid]
  exact⟨y,kk,o,S,by rw[Avj],T⟩
 ·simp at d
def vI{t:TypeId}{x:AV}{f:Nat}{vx:Value}{k:AV->O R}(A:iM P t x f k=some r)(hx:Rep J β h w x vx):
  ∃ v vc,k v=some r/\(Instr.field t vx f).run P w=.ok vc w/\Rep J β h w v vc:=by
 unfold iM at A
 obtain⟨p,I,l⟩:=ub A
 obtain⟨fs,fd,C,D,F,G⟩:=eS I
 split at l
 ·rename_i c org
  rw[Rep]at hx
  obtain⟨cs,rfl,M,d⟩:=hx
  obtain⟨v,n,q⟩:=Zi (β:=β) (h:=h) l (d.drop p.1)
  obtain⟨vc,s,u⟩:=Yh q
  exact⟨v,vc,n,by simp[Instr.field,run_underlying C,D,asAgg,G,F,s],u⟩
 ·rename_i c
  rw[Rep]at hx
  obtain⟨cs,rfl,d⟩:=hx
  rw[C4]at d
  obtain⟨v,n,q⟩:=S_ (J:=J) (β:=β) (h:=h) (w:=w) (rd:=fun j=>cs[p.1+j]?) l (fun j y z=>by
   rw[Awd]at z
   have:p.1+j<cs.length:=by
    rw[d.1];exact(Auw.1 z).1
   exact⟨cs[p.1+j],Aug this,d.2 _ _ _ z (Aug this)⟩)
  obtain⟨vc,s,u⟩:=Yh q
  exact⟨v,vc,n,by simp[Instr.field,run_underlying C,D,asAgg,G,F,s],u⟩
 ·simp at l
def vJ{t:TypeId}{x i:AV}{vx vi:Value}{k:AV->O R}(d:iN P t x i k=some r)(hx:Rep J β h w x vx)(hi:Rep J β h w i vi):
  ∃ v vc,k v=some r/\(Instr.index t vx vi).run P w=.ok vc w/\Rep J β h w v vc:=by
 unfold iN at d
 split at d
 ·rename_i s kd i f
  obtain⟨l,n⟩:=uc d
  obtain⟨q,A⟩:=W7 l
  rw[Rep]at hi;rw[Rep]at hx;subst hi hx
  have u:i.toNat<s.length:=by omega
  refine⟨_,.int .u8 ((s.getD i.toNat 0).toNat:Int),n,?_,by rw[Rep]⟩
  have S:(⟨⟨s⟩⟩:ByteArray)[i.toNat]?=some s[i.toNat]:=by
   have:i.toNat<(⟨⟨s⟩⟩:ByteArray).size:=u
   rw[getElem?_pos (⟨⟨s⟩⟩:ByteArray) i.toNat this];rfl
  simp only[Instr.index,asIntOf,Sem.run_bind,Sem.run_pure,Result.andThen_ok,run_underlying f,q,if_true,S,Auo,Aug u,Option.getD_some]
 ·rename_i len T c org kd i f
  obtain⟨sz,hs,n⟩:=ub d
  obtain⟨l,A⟩:=uc n
  obtain⟨q,C⟩:=W7 l
  rw[Rep]at hi;rw[Rep]at hx;subst hi
  obtain⟨cs,rfl,U,z⟩:=hx
  obtain⟨v,D,F⟩:=Zi (β:=β) (h:=h) A (z.drop (i.toNat*sz))
  obtain⟨vc,G,I⟩:=Yh F
  exact⟨v,vc,D,by simp[Instr.index,asIntOf,run_underlying f,q,C,Ez hs,G],I⟩
 ·rename_i len T c kd i f
  obtain⟨sz,hs,n⟩:=ub d
  obtain⟨l,A⟩:=uc n
  obtain⟨q,C⟩:=W7 l
  rw[Rep]at hi;rw[Rep]at hx;subst hi
  obtain⟨cs,rfl,z⟩:=hx
  rw[C4]at z
  obtain⟨v,D,F⟩:=S_ (J:=J) (β:=β) (h:=h) (w:=w) (rd:=fun j=>cs[i.toNat*sz+j]?) (eQ A) (fun j y M=>by
   rw[Awd]at M
   have:i.toNat*sz+j<cs.length:=by
    rw[z.1];exact(Auw.1 M).1
   exact⟨cs[i.toNat*sz+j],Aug this,z.2 _ _ _ M (Aug this)⟩)
  obtain⟨vc,G,I⟩:=Yh F
  exact⟨v,vc,D,by simp[Instr.index,asIntOf,run_underlying f,q,C,Ez hs,G],I⟩
 ·simp at d
def AX(J:Bool->Nat->Prop)(β:C3)(h:Az)(w:World):Option AV->Option Value->Prop
|none,none=>True
|some x,some v=>Rep J β h w x v
|_,_=>False
def TA{o:Option AV}{vo:Option Value}{d:Nat}{i:Int}(f:eJ o d=some i)(l:AX J β h w o vo):
  (o=none/\vo=none/\i=d)\/∃ k,vo=some (.int k i):=by
 unfold eJ at f
 split at f
 ·simp at f;subst f
  cases vo with
  |none=>exact .inl ⟨rfl,rfl,rfl⟩
  |some v=>simp[AX]at l
 ·rename_i k j
  simp at f;subst f
  cases vo with
  |none=>simp[AX]at l
  |some v=>rw[AX,Rep]at l;subst l;exact .inr ⟨k,rfl⟩
 ·simp at f
def Yi{lo hi mx:Option AV}{vlo vhi vmx:Option Value}{n cap:Nat}{k:Nat->Nat->O R}{isSlice:Bool}(x:CN lo hi mx n k=some r)
  (u:AX J β h w lo vlo)
  (q:AX J β h w hi vhi)
  (s:AX J β h w mx vmx) (z:n<=cap) :
  ∃ l f m,k l f=some r/\l<=f/\f<=n/\f<=m/\m<=cap/\(mx=none->m=cap)/\(∀ kd i,vmx=some (.int kd i)->(m:Int)=i)/\(∀ kd i,vhi=some (.int kd i)->(f:Int)=i)/\(hi=none->f=n) /\
   (Instr.sliceBounds isSlice n cap vlo vhi vmx).run P w=.ok (l,f,m) w:=by
 unfold CN at x
 obtain⟨l,F,G⟩:=ub x
 obtain⟨d,I,M⟩:=ub G
 obtain⟨m,S,v⟩:=ub M
 obtain⟨A,v⟩:=Aa4 v
 obtain⟨C,D⟩:=uc v
 simp at C A
 obtain⟨c1,c2,c3,c4⟩:=C
 have run:∀(kd:IntKind)(i:Int)(y:Nat)(code:BoundsCode),0<=i->i<=(y:Int)->(Instr.sliceBound (.int kd i) y code).run P w=.ok i.toNat w:=fun kd i y code a b=>by
  simp[Instr.sliceBound,asIntOf,a,b]
 have bl:=TA (J:=J) (β:=β) (h:=h) (w:=w) F u
 have bh:=TA (J:=J) (β:=β) (h:=h) (w:=w) I q
 have bm:=TA (J:=J) (β:=β) (h:=h) (w:=w) S s
 rcases bm with⟨rfl,rfl,rfl⟩|⟨km,rfl⟩
 ·refine⟨l.toNat,d.toNat,cap,D,by omega,by omega,by omega,by omega,fun _=>rfl,by simp,?_,?_,?_⟩
  ·intro kd i t
   rcases bh with⟨_,rfl,_⟩|⟨kh,rfl⟩
   ·simp at t
   ·simp at t;omega
  ·intro hn
   rcases bh with⟨_,_,rfl⟩|⟨kh,rfl⟩
   ·simp
   ·subst hn;simp[AX]at q
  ·rcases bh with⟨_,rfl,rfl⟩|⟨kh,rfl⟩<;>rcases bl with⟨_,rfl,rfl⟩|⟨kl,rfl⟩
   ·simp[Instr.sliceBounds]
   ·simp[Instr.sliceBounds,run _ l n _ c1 (by omega)]
   ·simp[Instr.sliceBounds,run _ d cap _ (by omega) (by omega)]
   ·simp[Instr.sliceBounds,run _ d cap _ (by omega) (by omega),run _ l d.toNat _ c1 (by omega)]
 ·rcases bh with⟨rfl,rfl,rfl⟩|⟨kh,rfl⟩
  ·have:mx.isSome=true:=by
    cases mx with
    |none=>simp[AX]at s
    |some _=>rfl
   have:=A this;simp at this
  ·refine⟨l.toNat,d.toNat,m.toNat,D,by omega,by omega,by omega,by omega,?_,?_,?_,?_,?_⟩
   ·intro hn;subst hn;simp[AX]at s
   ·intro kd i t;simp at t;omega
   ·intro kd i t;simp at t;omega
   ·intro hn;subst hn;simp[AX]at q
   ·rcases bl with⟨_,rfl,rfl⟩|⟨kl,rfl⟩
    ·simp[Instr.sliceBounds,run _ m cap _ (by omega) (by omega),run _ d m.toNat _ (by omega) (by omega)]
    ·simp[Instr.sliceBounds,run _ m cap _ (by omega) (by omega),run _ d m.toNat _ (by omega) (by omega),run _ l d.toNat _ c1 (by omega)]
def vK {t:TypeId} {x:AV} {lo hi mx:Option AV} {vx:Value} {vlo vhi vmx:Option Value} {k:AV->O R} (S:SimH J β h w) (hl:Looks g h) (D:iO P g t x lo hi mx k=some r)
  (hx:Rep J β h w x vx) (F:AX J β h w lo vlo) (f:AX J β h w hi vhi) (u:AX J β h w mx vmx) :
  ∃ v vc,k v=some r/\(Instr.sliceAt t vx vlo vhi vmx).run P w=.ok vc w/\Rep J β h w v vc:=by
 unfold iO at D
 split at D
 ·rename_i s G
  obtain⟨hm,V⟩:=Aa4 D
  have hmn:mx=none:=by cases mx<;>simp_all
  subst hmn
  have hv:vmx=none:=by cases vmx<;>simp_all[AX]
  subst hv
  rw[Rep]at hx;subst hx
  obtain⟨l,d,m,I,X,h4,_,_,h5,_,_,_,h6⟩:=Yi (P:=P) (isSlice:=false) V F f (vmx:=none) (by simp[AX]) (Aui _)
  refine⟨_,_,I,?_,by rw[Rep]⟩
  have hs:(⟨⟨s⟩⟩:ByteArray).size=s.length:=rfl
  have M:(⟨⟨s⟩⟩:ByteArray).extract l d=⟨⟨(s.drop l).take (d - l)⟩⟩:=by
   apply ByteArray.ext
   rw[ByteArray.data_extract]
   simp
  simp[Instr.sliceAt,Instr.slice,run_underlying G,hs,h6,M]
 ·rename_i el G
  rw[Rep]at hx;subst hx
  obtain⟨sz,hs,D⟩:=ub D
  obtain⟨l,d,m,I,X,h4,h5,h6,_,_,_,_,h7⟩:=Yi (P:=P) (isSlice:=true) D F f u (Aui _)
  have:l=0:=by omega
  have:d=0:=by omega
  have:m=0:=by omega
  subst l;subst d;subst m
  refine⟨_,.slice none 0 0,I,?_,by rw[Rep]⟩
  simp[Instr.sliceAt,Instr.slice,run_underlying G,h7,Ez hs]
 ·rename_i el c n sz tight org G
  obtain⟨Y,hs,V⟩:=ub D
  obtain⟨M,I⟩:=uc V
  have T:Y=sz:=by simp at M;exact M.symm
  subst T
  rw[Rep,RepC]at hx
  obtain⟨hlen,A,cap,rfl,z,ht,hA⟩:=hx
  obtain⟨l,d,m,X,h4,h5,h6,h7,h8,h9,h10,h11,h12⟩:=Yi (P:=P) (isSlice:=true) I F f u z
  refine⟨_,.slice (if m=l then A else A.map (·.add (l*Y))) (d - l) (m - l),X,?_,?_⟩
  ·simp[Instr.sliceAt,Instr.slice,run_underlying G,h12,Ez hs]
  ·rw[Rep,RepC]
   refine⟨?_,_,_,rfl,by omega,?_,?_⟩
   ·simp;rw[hlen,<-Nat.sub_mul]
    exact Avo (Au8 _ (by omega))
   ·intro C
    unfold Ad4 at C
    split at C
    ·have:=ht C
     have:=h8 rfl
     have:=h11 rfl
     omega
    ·rename_i ka a kb b
     cases vhi with
     |none=>simp[AX]at f
     | some u1=>cases vmx with
      |none=>simp[AX]at u
      |some u2 =>
       rw[AX,Rep]at f u;subst f u
       have e1:=h10 _ _ rfl
       have e2:=h9 _ _ rfl
       simp at C
       omega
    ·simp at C
   ·by_cases hz:d - l=0
    ·exact .inl hz
    ·right
     rcases hA with hA|⟨a,rfl,hj,hc⟩
     ·omega
     ·refine⟨a.add (l*Y),by rw[if_neg (by omega)];rfl,by rw[W6];exact hj,(eR hc _).take _⟩
 ·rename_i el b off n G
  obtain⟨sz,hs,V⟩:=ub D
  obtain⟨y,hy,I⟩:=ub V
  obtain⟨M,X⟩:=uc I
  obtain⟨hb,hd⟩:=Ox hl hy
  have T:sz=y.sz:=by simpa using M
  rw[Rep]at hx
  obtain⟨x,A,cap,⟨q,U⟩,rfl,z,hr⟩:=hx
  rw[hb]at q;simp at q;subst q
  obtain⟨l,d,m,h4,h5,h6,h7,h8,_,_,_,_,h9⟩:=Yi (P:=P) (isSlice:=true) X F f u z
  refine⟨_,.slice (if m=l then A else A.map (·.add (l*sz))) (d - l) (m - l),h4,?_,?_⟩
  ·simp[Instr.sliceAt,Instr.slice,run_underlying G,h9,Ez hs]
  ·rw[Rep]
   refine⟨y,_,_,⟨hb,U⟩,rfl,by omega,?_⟩
   by_cases hz:m - l=0
   ·exact .inl hz
   ·right
    rcases hr with hr|⟨kk,o,rfl,hr⟩
    ·omega
    ·refine⟨kk,o,by rw[if_neg (by omega)];simp[Addr.add_mid,Avj],?_⟩
     rcases hr with hr|⟨r1,r2,r3⟩
     ·simp[hd]at hr
     ·refine .inr ⟨r1,?_,?_⟩
      ·have:l*sz+(m - l)*y.sz<=cap*y.sz:=by
        rw[T,<-Av5];exact Au8 _ (by omega)
       omega
      ·have:l*sz+(d - l)*y.sz<=n*y.sz:=by
        rw[T,<-Av5];exact Au8 _ (by omega)
       omega
 ·rename_i n el b off G
  obtain⟨sz,hs,V⟩:=ub D
  obtain⟨y,hy,I⟩:=ub V
  obtain⟨M,X⟩:=uc I
  simp at M
  obtain⟨e1,e2,e3,e4,e5⟩:=M
  subst e3;subst e4;subst e5
  obtain⟨hb,hd⟩:=Ox hl hy
  have nlo:vlo=none:=by cases vlo<;>simp_all[AX]
  have nhi:vhi=none:=by cases vhi<;>simp_all[AX]
  have nmx:vmx=none:=by cases vmx<;>simp_all[AX]
  subst nlo;subst nhi;subst nmx
  rw[Rep]at hx
  obtain⟨x,kk,o,⟨q,U⟩,rfl,hr⟩:=hx
  rw[hb]at q;simp at q;subst q
  refine⟨_,.slice (some ⟨kk,o+off,none⟩) n n,X,?_,?_⟩
  ·have e1:(Addr.add ⟨kk,o+off,none⟩ 0)=⟨kk,o+off,none⟩:=rfl
   simp[Instr.sliceAt,Instr.sureAddr,run_underlying G,Instr.sliceBounds,Ez hs,e1]
  ·rw[Rep]
   refine⟨y,_,_,⟨hb,U⟩,rfl,Aui _,.inr ⟨kk,o,rfl,?_⟩⟩
   rcases hr with hr|hr
   ·exact .inl hr
   ·rcases S.blk b y hb hd U with⟨hn',_⟩|⟨k',o',cs,ty',fr,hβ',g1,g2,g3,_⟩
    ·rw[hr]at hn';simp at hn'
    ·rw[hr]at hβ';simp at hβ';obtain⟨rfl,rfl⟩:=hβ'
     refine .inr ⟨hr,?_,?_⟩
     ·rw[e1,show Bn w kk=cs.size by simp[Bn,g1]];omega
     ·rw[e1];omega
 ·simp at D
def Aa5{t:TypeId}{x v:AV}{vx:Value}{ty:TypeId}(d:Aol P t x=some v)(hx:Rep J β h w x vx):
  ∃ vc,(Builtin.len_ #[t] ty #[vx]).run P w=.ok vc w/\Rep J β h w v vc:=by
 unfold Aol at d
 split at d
 ·rename_i f
  simp at d;subst d;rw[Rep]at hx;subst hx
  exact⟨.int .i64 0,by simp[Builtin.len_,run_underlying f,goInt],by rw[Rep]⟩
 ·rename_i n _ _ _ f
  simp at d;subst d;rw[Rep,RepC]at hx
  obtain⟨_,A,cap,rfl,_⟩:=hx
  exact⟨.int .i64 n,by simp[Builtin.len_,run_underlying f,goInt],by rw[Rep]⟩
 ·rename_i n f
  simp at d;subst d;rw[Rep]at hx
  obtain⟨_,A,cap,_,rfl,_⟩:=hx
  exact⟨.int .i64 n,by simp[Builtin.len_,run_underlying f,goInt],by rw[Rep]⟩
 ·rename_i s f
  simp at d;subst d;rw[Rep]at hx;subst hx
  refine⟨.int .i64 s.length,?_,by rw[Rep]⟩
  have hs:(⟨⟨s⟩⟩:ByteArray).size=s.length:=rfl
  simp[Builtin.len_,run_underlying f,goInt,hs]
 ·rename_i n _ f
  simp at d;subst d
  exact⟨.int .i64 n,by simp[Builtin.len_,run_underlying f,goInt],by rw[Rep]⟩
 ·simp at d
def oI{J:Nat->Prop}:∀{x:AV}{u:Value},RepC J w x u->u.oneCell'=true
|.int ..,_,hr=>by rw[RepC]at hr;subst hr;rfl
|.bool _,_,hr=>by rw[RepC]at hr;subst hr;rfl
|.str _,_,hr=>by rw[RepC]at hr;subst hr;rfl
|.nsl,_,hr=>by rw[RepC]at hr;subst hr;rfl
|.imm ..,_,hr=>by rw[RepC]at hr;obtain⟨_,A,cap,rfl,_⟩:=hr;rfl
|.iptr ..,_,hr=>by rw[RepC]at hr;obtain⟨a,rfl,_⟩:=hr;rfl
|.nilptr,_,hr=>by rw[RepC]at hr;subst hr;rfl
|.nilfn,_,hr=>by rw[RepC]at hr;subst hr;rfl
|.fn _ [],_,hr=>by rw[RepC]at hr;subst hr;rfl
|.fn _ (_::_),_,hr=>by simp[RepC]at hr
|.pagg ..,_,hr=>by simp[RepC]at hr
|.agg _,_,hr=>by simp[RepC]at hr
|.tup _,_,hr=>by simp[RepC]at hr
|.own ..,_,hr=>by simp[RepC]at hr
|.optr ..,_,hr=>by simp[RepC]at hr
|.undef,_,hr=>by simp[RepC]at hr
|.omap _,_,hr=>by simp[RepC]at hr
def RepCs.one{J:Nat->Prop}{c:LA}{us:List Value}(l:RepCs J w c (fun j=>us[j]?) 0)(s:us.length=c.length):∀ u∈us,u.oneCell'=true:=by
 intro u n
 obtain⟨j,q,rfl⟩:=Aut n
 have f:j<c.length:=by omega
 obtain⟨t,d,hr⟩:=l.at (Aug f)
 simp[Aug q]at d
 rw[d];exact oI hr
structure Yield(P:Program)(w:World)(sz:Nat)(vx:Value)(n:Nat)(us:List Value):Prop where
 len:∀ w':World,(Builtin.lenOf vx).run P w'=.ok n w'
 cells:∀(w':World)(m:Nat),(∀ a,w'.cell? a=w.cell? a)->m<=n->(Builtin.firstCells sz m vx).run P w'=.ok (us.take (m*sz)).toArray w'
 length:us.length=n*sz
def kR{sz:Nat}{x:AV}{vx:Value}{q:LA×Nat×Bool}(S:SimH J β h w)(hl:Looks g h)(l:tS g sz x=some q)(hx:Rep J β h w x vx):
  ∃ us:List Value,Yield P w sz vx q.2.1 us/\q.1.length=us.length/\RepCs (J q.2.2) w q.1 (fun j=>us[j]?) 0:=by
 have ofSlice:∀(a:Addr)(n cap:Nat)(us:List Value),us.length=n*sz->(∀ j u,us[j]?=some u->w.cell? (a.add j)=some u)->Yield P w sz (.slice (some a) n cap) n us:=fun a n cap us d hu =>
  ⟨fun _=>rfl,fun w' m f T=>by
   have hle:m*sz<=n*sz:=Au8 _ T
   refine run_firstCells_some (P:=P) w' sz m a n cap (us.take (m*sz)) (by simp;omega) (fun j v F=>?_)
   rw[f]
   rw[Awj]at F
   split at F
   ·exact hu j v F
   ·simp at F,d⟩
 have ofEmpty:∀(A:Option Addr)(cap:Nat),Yield P w sz (.slice A 0 cap) 0 []:=fun A cap =>
  ⟨fun _=>rfl,fun w' m f T=>by
   have:m=0:=by omega
   subst this
   cases A with
   |none=>simp[run_firstCells_none]
   | some a=>have:=run_firstCells_some (P:=P) w' sz 0 a 0 cap [] (by simp) (fun j v F=>by simp at F);simpa using this,by simp⟩
 unfold tS at l
 split at l
 ·simp at l;subst l;rw[Rep]at hx;subst hx
  exact⟨[],ofEmpty _ _,rfl,by simp[RepCs]⟩
 ·rename_i c n U tight org
  obtain⟨f,z⟩:=uc l
  have V:U=sz:=by simp at f;exact f.symm
  subst V
  simp at z;subst z
  rw[Rep,RepC]at hx
  obtain⟨d,A,cap,rfl,G,ht,hA⟩:=hx
  rcases hA with rfl|⟨a,rfl,I,hc⟩
  ·have:c=[]:=by simpa using d
   subst this
   exact⟨[],ofEmpty _ _,rfl,by simp[RepCs]⟩
  ·obtain⟨us,t,X,Y⟩:=hc.list
   exact⟨us,ofSlice a n cap us (by rw[t,d]) X,t.symm,Y⟩
 ·rename_i b off n
  obtain⟨y,hy,z⟩:=ub l
  obtain⟨f,t⟩:=uc z
  obtain⟨M,hd⟩:=Ox hl hy
  simp at f t
  obtain⟨hp,f⟩:=f
  subst t;subst f
  rw[Rep]at hx
  obtain⟨x,A,cap,⟨C,hmp⟩,rfl,G,hr⟩:=hx
  rw[M]at C;simp at C;subst C
  rcases hr with hr|⟨kk,o,rfl,hr⟩
  ·have:n=0:=by omega
   subst this
   exact⟨[],ofEmpty _ _,by simp,by simp[RepCs]⟩
  ·rcases hr with hr|⟨r1,r2,r3⟩
   ·simp[hd]at hr
   ·rcases S.blk b y M hd hmp with⟨hn,_⟩|⟨k',o',cs,ty,fr,D,g1,g2,g3,g4,g5,g6⟩
    ·rw[r1]at hn;simp at hn
    ·rw[r1]at D;simp at D;obtain⟨rfl,rfl⟩:=D
     obtain⟨us,t,X,Y⟩:=(((g4.1 hp).drop off).take (n*y.sz)).list
     have d:us.length=n*y.sz:=by rw[t];simp;omega
     refine⟨us,ofSlice _ n cap us d (fun j u I=>?_),t.symm,Y⟩
     have:=X j u I
     rw[Addr.add_mid,Zj g1,Avj];exact this
 ·rename_i s
  obtain⟨f,z⟩:=uc l
  simp at f z
  subst f;subst z
  rw[Rep]at hx;subst hx
  refine⟨s.map fun b=>.int .u8 (b.toNat:Int),⟨fun _=>rfl,fun w' m _ T=>?_,by simp⟩,by simp,?_⟩
  ·simp[Builtin.firstCells]
  ·rw[C6]
   intro j x I
   simp at I
   obtain⟨b,M,rfl⟩:=I
   exact⟨_,by simp[M];rfl,by rw[RepC]⟩
 ·simp at l
def NF{n:TypeId}{sz:Nat}{x:AV}{vx:Value}{k:LA×Nat×Bool->O R}(S:SimH J β h w)(s:Looks g h)(l:bX P n g sz x k=some r)(hx:Rep J β h w x vx):
  ∃(q:LA×Nat×Bool)(us:List Value),k q=some r/\Yield P w sz vx q.2.1 us/\q.1.length=us.length/\RepCs (J q.2.2) w q.1 (fun j=>us[j]?) 0:=by
 unfold bX at l
 obtain⟨q,hq,t⟩:=ub l
 obtain⟨us,Y,d,f⟩:=kR (P:=P) S s hq hx
 obtain⟨o,u,v⟩:=aE t f
 exact⟨_,us,u,Y,d,v⟩
end
end Gx
namespace Gx
open Go
def TB{a b:Nat}(h:a≠b):beq a b=false:=by
 cases d:beq a b with
|false=>rfl
|true=>exact absurd (Aus d) h
def BK{a b:Nat}(h:beq a b=false):a≠b:=fun e=>by subst e;rw[Nat.beq_refl]at h;cases h
def Af:∀(h:Az)(b:Nat)(y:Blk)(c:Nat),Al (Hs h b y) c=if c=b then some y else Al h c
| [],b,y,c=>by
  by_cases e:c=b
  ·subst e;simp[Hs,Al]
  ·have:beq b c=false:=TB (fun f=>e f.symm)
   simp[Hs,Al,e,this]
| (i,x)::r,b,y,c=>by
  rw[Hs]
  cases n:beq i b with
  | true =>
   have d:i=b:=by simpa using n
   subst d
   by_cases e:c=i
   ·subst e;simp[Al]
   ·have:beq i c=false:=TB (fun f=>e f.symm)
    simp[Al,e,this]
  | false =>
   have d:i≠b:=BK n
   cases s:Nat.blt b i with
   | true =>
    by_cases e:c=b
    ·subst e;simp[Al]
    ·have:beq b c=false:=TB (fun f=>e f.symm)
     simp[Al,e,this]
   | false =>
    simp only[cond_false]
    rw[Al]
    cases q:beq i c with
    |true =>
     have l:i=c:=by simpa using q
     subst l
     simp[Al,d]
    |false=>simp[Al,q,Af r b y c]
def Rl:∀(h:Iq)(b:Nat)(y:AV)(c:Nat),Ht (bW h b y) c=if c=b then y else Ht h c
| [],b,y,c=>by
  by_cases e:c=b
  ·subst e;simp[bW,Ht]
  ·have:beq b c=false:=TB (fun f=>e f.symm)
   simp[bW,Ht,e,this]
| (i,x)::r,b,y,c=>by
  rw[bW]
  cases n:beq i b with
  | true =>
   have d:i=b:=by simpa using n
   subst d
   by_cases e:c=i
   ·subst e;simp[Ht]
   ·have:beq i c=false:=TB (fun f=>e f.symm)
    simp[Ht,e,this]
  | false =>
   have d:i≠b:=BK n
   cases s:Nat.blt b i with
   | true =>
    by_cases e:c=b
    ·subst e;simp[Ht]
    ·have:beq b c=false:=TB (fun f=>e f.symm)
     simp[Ht,e,this]
   | false =>
    simp only[cond_false]
    rw[Ht]
    cases q:beq i c with
    |true =>
     have l:i=c:=by simpa using q
     subst l
     simp[Ht,d]
    |false=>simp[Ht,q,Rl r b y c]
def xq(β:C3)(h:Az)(k:Nat):Prop:=∃ b x o,Al h b=some x/\x.dead=false/\x.sealed=false/\β b=some (k,o)
structure Step(J:Bool->Nat->Prop)(β:C3)(h:Az)(w:World)(J':Bool->Nat->Prop)(β':C3)(h':Az)(w':World):Prop where
 ext:Ext J β h w J' β' h' w'
 sim:SimH J' β' h' w'
 os:w'.os=w.os
 tape:w'.tape=w.tape
 output:w'.output=w.output
 size:w.heap.size<=w'.heap.size
 frame:∀ k,k<w.heap.size->¬ xq β h k->w'.heap[k]?=w.heap[k]?
 wr:∀ k,xq β' h' k->k<w.heap.size->xq β h k
 jup:∀ o k,J' o k->J o k\/xq β h k\/w.heap.size<=k
section
variable{J J' J'':Bool->Nat->Prop}{β β' β'':C3}{h h' h'':Az}{w w' w'':World}
def Ext.refl:Ext J β h w J β h w:=⟨fun _ _ d=>d,fun _ _ _=>rfl,fun b x f=>⟨x,⟨f,rfl⟩,by cases l:x.dead<;>simp⟩,fun _ _ _ _=>Aui _⟩
def Ext.trans(A:Ext J β h w J' β' h' w')(B:Ext J' β' h' w' J'' β'' h'' w'')(hs:∀ b k o,β b=some (k,o)->Bn w k<=Bn w'' k):Ext J β h w J'' β'' h'' w'' where
 jsub o k f:=B.jsub o k (A.jsub o k f)
 keep o k f:=(B.keep o k (A.jsub o k f)).trans (A.keep o k f)
 blk b x q:=by
  obtain⟨x',⟨s,m1⟩,l⟩:=A.blk b x q
  obtain⟨x'',⟨t,m3⟩,d⟩:=B.blk b x' s
  refine⟨x'',⟨t,m3.trans m1⟩,?_⟩
  rcases d with d|⟨d,u,v,y⟩
  ·exact .inl d
  ·rcases l with l|⟨z,C,D,F⟩
   ·simp[d]at l
   ·exact .inr ⟨z,u.trans C,v.trans D,fun n=>(y (m1.trans n)).trans (F n)⟩
 size:=hs
def Step.refl(S:SimH J β h w):Step J β h w J β h w:=⟨Ext.refl,S,rfl,rfl,rfl,Aui _,fun _ _ _=>rfl,fun _ d _=>d,fun _ _ f=>.inl f⟩
def Step.trans(A:Step J β h w J' β' h' w')(B:Step J' β' h' w' J'' β'' h'' w'')(hs:∀ b k o,β b=some (k,o)->Bn w k<=Bn w'' k):Step J β h w J'' β'' h'' w'' where
 ext:=A.ext.trans B.ext hs
 sim:=B.sim
 os:=B.os.trans A.os
 tape:=B.tape.trans A.tape
 output:=B.output.trans A.output
 size:=Av2 A.size B.size
 frame k d l:=(B.frame k (Av3 d A.size) (fun n=>l (A.wr k n d))).trans (A.frame k d l)
 wr k l d:=A.wr k (B.wr k l (Av3 d A.size)) d
 jup o k q:=by
  rcases B.jup o k q with f|f|f
  ·exact A.jup o k f
  ·by_cases d:k<w.heap.size
   ·exact .inr (.inl (A.wr k f d))
   ·exact .inr (.inr (by omega))
  ·exact .inr (.inr (Av2 A.size f))
def CellsRep.ext(E:Ext J β h w J' β' h' w'){x:Blk}{rd:Nat->Option Value}(f:CellsRep J β h w x rd):CellsRep J' β' h' w' x rd :=
 ⟨fun d=>RepCs.keep (E.jsub _) (E.keep _) (fun _=>rfl) (f.1 d),fun d j c l=>by
  obtain⟨u,n,q,s⟩:=f.2 d j c l
  exact⟨u,n,Rep.ext E q,s⟩⟩
def Ho{k:Nat}{cs:Array Value}{ty:TypeId}{fr:Nat×Nat}(d:w.heap[k]?=some (.cells cs ty fr)):Bn w k=cs.size:=by simp[Bn,d]
def XB{k:Nat}{o:Obj}(l:w.heap[k]?=some o):k<w.heap.size:=by
 rcases Ax0 k w.heap.size with d|f
 ·exact d
 ·rw[Avy f]at l;cases l
def MapRep.keep{b:Nat}{x:Blk}(M:MapRep J β w b x)(f:β' b=β b)(l:∀ k o,β b=some (k,o)->w'.heap[k]?=w.heap[k]?)(n:∀ g k o,β b=some (k,o)->J' g k->J g k):MapRep J' β' w' b x:=by
 obtain⟨q,s,k,ob,d,t,u,v⟩:=M
 exact⟨q,s,k,ob,by rw[f];exact d,by rw[l k 0 d];exact t,u,fun g y=>v g (n g k 0 d y)⟩
def Step.drew(S:SimH J β h w):Step J β h w J β h w.drew where
 ext:=⟨fun _ _ d=>d,fun _ _ _=>rfl,fun b x f=>⟨x,⟨f,rfl⟩,by cases l:x.dead<;>simp⟩,fun _ _ _ _=>Aui _⟩
 sim:=by
  have E:Ext J β h w J β h w.drew:=⟨fun _ _ d=>d,fun _ _ _=>rfl,fun b x f=>⟨x,⟨f,rfl⟩,by cases l:x.dead<;>simp⟩,fun _ _ _ _=>Aui _⟩
  refine⟨S.jlt,S.jft,S.gl.ext E,fun b x f l n=>?_,fun b x f l n=>(S.mblk b x f l n).keep rfl (fun _ _ _=>rfl) (fun _ _ _ _ d=>d),S.sep⟩
  rcases S.blk b x f l n with q|⟨k,o,cs,ty,fr,q,s,t,u,v,y⟩
  ·exact .inl q
  ·exact .inr ⟨k,o,cs,ty,fr,q,s,t,u,v.ext E,y⟩
 os:=rfl
 tape:=rfl
 output:=rfl
 size:=Aui _
 frame _ _ _:=rfl
 wr _ n _:=n
 jup _ _ d:=.inl d
def El(w:World)(o:Obj){k:Nat}(d:k<w.heap.size):(w.alloc o).heap[k]?=w.heap[k]?:=by
 show(w.heap.push o)[k]?=_
 rw[Array.getElem?_push,if_neg (by omega)]
def AY(S:SimH J β h w){b:Nat}{x:Blk}{k o:Nat}(n:Al h b=some x)(q:x.dead=false)(f:β b=some (k,o)):k<w.heap.size:=by
 cases s:x.mp with
|false =>
  rcases S.blk b x n q s with⟨hn,_⟩|⟨t,o',cs,ty,fr,d,l,_⟩
  ·rw[f]at hn;simp at hn
  ·rw[f]at d;simp at d;obtain⟨rfl,rfl⟩:=d;exact XB l
|true =>
  obtain⟨_,_,t,ob,d,l,_⟩:=S.mblk b x n q s
  rw[f]at d;simp at d;obtain⟨rfl,_⟩:=d;exact XB l
def Step.new(S:SimH J β h w){d:Nat}{x:Blk}{cs:Array Value}{ty:TypeId}{fr:Nat×Nat}(hn:Al h d=none)(hxd:x.dead=false)(F:x.sealed=false)
  (G:FrTy x.ty ty 0 cs.size fr) (V:x.cells.length<=cs.size) (hc:CellsRep J β h w x (fun j=>cs[j]?)) (I:x.mp=false:=by rfl) :
  Step J β h w J (fun b=>if b=d then some (w.heap.size,0)else β b) (Hs h d x) (w.alloc (.cells cs ty fr)):=by
 have ne:∀{b y},Al h b=some y->b≠d:=fun f e=>by subst e;rw[hn]at f;cases f
 have E:Ext J β h w J (fun b=>if b=d then some (w.heap.size,0)else β b) (Hs h d x) (w.alloc (.cells cs ty fr)):=by
  refine⟨fun _ _ n=>n,fun o k n=>El w _ (S.jlt o k n),fun b y f=>⟨y,⟨by rw[Af,if_neg (ne f)];exact f,rfl⟩,?_⟩,fun b k o l=>?_⟩
  ·cases t:y.dead
   ·exact .inr ⟨rfl,by simp[ne f],rfl,fun _=>rfl⟩
   ·exact .inl rfl
  ·by_cases v:k<w.heap.size
   ·simp[Bn,El w _ v]
   ·simp[Bn,Avy (Axb v)]
 have z:(w.alloc (.cells cs ty fr)).heap[w.heap.size]?=some (.cells cs ty fr):=by
  show(w.heap.push _)[_]?=_;simp
 have hsz:(w.alloc (.cells cs ty fr)).heap.size=w.heap.size+1:=by show(w.heap.push _).size=_;simp
 refine⟨E,⟨fun o k n=>by have:=S.jlt o k n;omega,S.jft,S.gl.ext E,fun b y f t C=>?_,fun b y f t C=>by
   rw[Af]at f
   by_cases e:b=d
   ·rw[if_pos e]at f;simp at f;subst f;simp[I]at C
   ·rw[if_neg e]at f
    exact(S.mblk b y f t C).keep (by simp[e]) (fun k o l=>El w _ (AY S f t l)) (fun _ _ _ _ n=>n),?_⟩,rfl,rfl,rfl,by omega,fun k v _=>El w _ v,?_,fun _ _ n=>.inl n⟩
 ·rw[Af]at f
  by_cases e:b=d
  ·subst e;simp at f;subst f
   exact .inr ⟨w.heap.size,0,cs,ty,fr,by simp,z,G,by omega,by simpa using hc.ext E,fun _ g n=>by have:=S.jlt g _ n;omega,fun hs=>by simp[F]at hs⟩
  ·rw[if_neg e]at f
   rcases S.blk b y f t C with D|⟨k,o,M,T,U,D,X,h3,h4,h5,h6⟩
   ·exact .inl ⟨by simp[e,D.1],D.2⟩
   ·exact .inr ⟨k,o,M,T,U,by simp[e,D],by rw[El w _ (XB X)];exact X,h3,h4,h5.ext E,h6⟩
 ·intro b Y y y' k o o' f q t A hs l s
  rw[Af]at f q
  by_cases e:b=d<;>by_cases u:Y=d
  ·rw[e,u]
  ·rw[if_neg u]at q
   simp[e]at l;simp[u]at s
   have:=AY S q A s;omega
  ·rw[if_neg e]at f
   simp[u]at s;simp[e]at l
   have:=AY S f t l;omega
  ·rw[if_neg e]at f;rw[if_neg u]at q
   simp[e]at l;simp[u]at s
   exact S.sep b Y y y' k o o' f q t A hs l s
 ·rintro k ⟨b,y,o,f,t,hs,l⟩ v
  rw[Af]at f
  by_cases e:b=d
  ·simp[e]at l;omega
  ·rw[if_neg e]at f;simp[e]at l
   exact⟨b,y,o,f,t,hs,l⟩
def Step.newNone(S:SimH J β h w){d:Nat}{x:Blk}(hn:Al h d=none)(M:x.cells=[])(z:x.mp=false:=by rfl):
  Step J β h w J (fun b=>if b=d then none else β b) (Hs h d x) w:=by
 have ne:∀{b y},Al h b=some y->b≠d:=fun f e=>by subst e;rw[hn]at f;cases f
 have E:Ext J β h w J (fun b=>if b=d then none else β b) (Hs h d x) w:=by
  refine⟨fun _ _ t=>t,fun o k t=>rfl,fun b y f=>⟨y,⟨by rw[Af,if_neg (ne f)];exact f,rfl⟩,?_⟩,fun b k o l=>Aui _⟩
  cases n:y.dead
  ·exact .inr ⟨rfl,by simp[ne f],rfl,fun _=>rfl⟩
  ·exact .inl rfl
 refine⟨E,⟨S.jlt,S.jft,S.gl.ext E,fun b y f n u=>?_,fun b y f n u=>by
   rw[Af]at f
   by_cases e:b=d
   ·rw[if_pos e]at f;simp at f;subst f;simp[z]at u
   ·rw[if_neg e]at f
    exact(S.mblk b y f n u).keep (by simp[e]) (fun k o l=>rfl) (fun _ _ _ _ t=>t),?_⟩,rfl,rfl,rfl,Aui _,fun k T _=>rfl,?_,fun _ _ t=>.inl t⟩
 ·rw[Af]at f
  by_cases e:b=d
  ·subst e;simp at f;subst f
   exact .inl ⟨by simp,M⟩
  ·rw[if_neg e]at f
   rcases S.blk b y f n u with v|⟨k,o,A,C,D,v,U,V,X,Y,h6⟩
   ·exact .inl ⟨by simp[e,v.1],v.2⟩
   ·exact .inr ⟨k,o,A,C,D,by simp[e,v],U,V,X,Y.ext E,h6⟩
 ·intro b I y y' k o o' f q n F hs l s
  rw[Af]at f q
  by_cases e:b=d
  ·simp[e]at l
  ·by_cases G:I=d
   ·simp[G]at s
   ·rw[if_neg e]at f;rw[if_neg G]at q
    simp[e]at l;simp[G]at s
    exact S.sep b I y y' k o o' f q n F hs l s
 ·rintro k ⟨b,y,o,f,n,hs,l⟩ T
  rw[Af]at f
  by_cases e:b=d
  ·simp[e]at l
  ·rw[if_neg e]at f;simp[e]at l
   exact⟨b,y,o,f,n,hs,l⟩
def Step.newObj(S:SimH J β h w){d:Nat}{x:Blk}{ob:Obj}(hn:Al h d=none)(hxd:x.dead=false)(F:x.sealed=false)(G:x.pure=true)(I:ObjIs x ob)(M:x.mp=true):
  Step J β h w J (fun b=>if b=d then some (w.heap.size,0)else β b) (Hs h d x) (w.alloc ob):=by
 have ne:∀{b y},Al h b=some y->b≠d:=fun f e=>by subst e;rw[hn]at f;cases f
 have E:Ext J β h w J (fun b=>if b=d then some (w.heap.size,0)else β b) (Hs h d x) (w.alloc ob):=by
  refine⟨fun _ _ n=>n,fun o k n=>El w _ (S.jlt o k n),fun b y f=>⟨y,⟨by rw[Af,if_neg (ne f)];exact f,rfl⟩,?_⟩,fun b k o l=>?_⟩
  ·cases t:y.dead
   ·exact .inr ⟨rfl,by simp[ne f],rfl,fun _=>rfl⟩
   ·exact .inl rfl
  ·by_cases v:k<w.heap.size
   ·simp[Bn,El w _ v]
   ·simp[Bn,Avy (Axb v)]
 have z:(w.alloc ob).heap[w.heap.size]?=some ob:=by
  show(w.heap.push _)[_]?=_;simp
 have hsz:(w.alloc ob).heap.size=w.heap.size+1:=by show(w.heap.push _).size=_;simp
 refine⟨E,⟨fun o k n=>by have:=S.jlt o k n;omega,S.jft,S.gl.ext E,fun b y f t C=>?_,fun b y f t C=>?_,?_⟩,rfl,rfl,rfl,by omega,fun k v _=>El w _ v,?_,fun _ _ n=>.inl n⟩
 ·rw[Af]at f
  by_cases e:b=d
  ·rw[if_pos e]at f;simp at f;subst f;simp[M]at C
  ·rw[if_neg e]at f
   rcases S.blk b y f t C with D|⟨k,o,T,U,V,D,X,h3,h4,h5,h6⟩
   ·exact .inl ⟨by simp[e,D.1],D.2⟩
   ·exact .inr ⟨k,o,T,U,V,by simp[e,D],by rw[El w _ (XB X)];exact X,h3,h4,h5.ext E,h6⟩
 ·rw[Af]at f
  by_cases e:b=d
  ·rw[if_pos e]at f;simp at f;subst f
   exact⟨G,F,w.heap.size,ob,by simp[e],z,I,fun g n=>by have:=S.jlt g _ n;omega⟩
  ·rw[if_neg e]at f
   exact(S.mblk b y f t C).keep (by simp[e]) (fun k o l=>El w _ (AY S f t l)) (fun _ _ _ _ n=>n)
 ·intro b Y y y' k o o' f q t A hs l s
  rw[Af]at f q
  by_cases e:b=d<;>by_cases u:Y=d
  ·rw[e,u]
  ·rw[if_neg u]at q
   simp[e]at l;simp[u]at s
   have:=AY S q A s;omega
  ·rw[if_neg e]at f
   simp[u]at s;simp[e]at l
   have:=AY S f t l;omega
  ·rw[if_neg e]at f;rw[if_neg u]at q
   simp[e]at l;simp[u]at s
   exact S.sep b Y y y' k o o' f q t A hs l s
 ·rintro k ⟨b,y,o,f,t,hs,l⟩ v
  rw[Af]at f
  by_cases e:b=d
  ·simp[e]at l;omega
  ·rw[if_neg e]at f;simp[e]at l
   exact⟨b,y,o,f,t,hs,l⟩
def Step.kill(S:SimH J β h w){d:Nat}{x y:Blk}(hx:Al h d=some x)(q:y.dead=true)(v:y.mp=x.mp:=by rfl):Step J β h w J β (Hs h d y) w:=by
 have E:Ext J β h w J β (Hs h d y) w:=by
  refine⟨fun _ _ s=>s,fun o k s=>rfl,fun b z f=>?_,fun b k o t=>Aui _⟩
  by_cases e:b=d
  ·subst e;rw[hx]at f;simp at f;subst f;exact⟨y,⟨by rw[Af,if_pos rfl],v⟩,.inl q⟩
  ·refine⟨z,⟨by rw[Af,if_neg e];exact f,rfl⟩,?_⟩
   cases n:z.dead
   ·exact .inr ⟨rfl,rfl,rfl,fun _=>rfl⟩
   ·exact .inl rfl
 refine⟨E,⟨S.jlt,S.jft,S.gl.ext E,fun b z f n A=>?_,fun b z f n A=>by
   rw[Af]at f
   by_cases e:b=d
   ·rw[if_pos e]at f;simp at f;subst f;simp[q]at n
   ·rw[if_neg e]at f
    exact(S.mblk b z f n A).keep rfl (fun k o t=>rfl) (fun _ _ _ _ s=>s),?_⟩,rfl,rfl,rfl,Aui _,fun k U _=>rfl,?_,fun _ _ s=>.inl s⟩
 ·rw[Af]at f
  by_cases e:b=d
  ·rw[if_pos e]at f;simp at f;subst f;simp[q]at n
  ·rw[if_neg e]at f
   rcases S.blk b z f n A with C|⟨k,o,D,F,G,C,V,X,Y,h5,h6⟩
   ·exact .inl C
   ·exact .inr ⟨k,o,D,F,G,C,V,X,Y,h5.ext E,h6⟩
 ·intro b M z z' k o o' f l n u hs t I
  rw[Af]at f l
  by_cases e:b=d
  ·rw[if_pos e]at f;simp at f;subst f;simp[q]at n
  ·by_cases T:M=d
   ·rw[if_pos T]at l;simp at l;subst l;simp[q]at u
   ·rw[if_neg e]at f;rw[if_neg T]at l
    exact S.sep b M z z' k o o' f l n u hs t I
 ·rintro k ⟨b,z,o,f,n,hs,t⟩ U
  rw[Af]at f
  by_cases e:b=d
  ·rw[if_pos e]at f;simp at f;subst f;simp[q]at n
  ·rw[if_neg e]at f
   exact⟨b,z,o,f,n,hs,t⟩
end
end Gx
namespace Gx
open Go
section
variable{J J' J'':Bool->Nat->Prop}{β β' β'':C3}{h h' h'':Az}{w w' w'':World}
def Step.shutB(S:SimH J β h w){d:Nat}{x:Blk}(hx:Al h d=some x)(t:x.dead=false)(C:x.mp=false):
  Step J β h w (fun o k=>J o k\/∃ o',β d=some (k,o')/\(x.taint=true->o=true)) β (Hs h d {x with sealed:=true}) w:=by
 have E:Ext J β h w (fun o k=>J o k\/∃ o',β d=some (k,o')/\(x.taint=true->o=true)) β (Hs h d {x with sealed:=true}) w:=by
  refine⟨fun _ _ n=>.inl n,fun o k n=>rfl,fun b z f=>?_,fun b k o l=>Aui _⟩
  by_cases e:b=d
  ·subst e;rw[hx]at f;simp at f;subst f
   exact⟨{x with sealed:=true},⟨by rw[Af,if_pos rfl],rfl⟩,.inr ⟨t,rfl,rfl,fun _=>rfl⟩⟩
  ·refine⟨z,⟨by rw[Af,if_neg e];exact f,rfl⟩,?_⟩
   cases t:z.dead
   ·exact .inr ⟨rfl,rfl,rfl,fun _=>rfl⟩
   ·exact .inl rfl
 refine⟨E,⟨?_,?_,S.gl.ext E,fun b z f s I=>?_,fun b z f s I=>by
   rw[Af]at f
   by_cases e:b=d
   ·rw[if_pos e]at f;simp at f;subst f;simp[C]at I
   ·rw[if_neg e]at f
    have M:=S.mblk b z f s I
    refine M.keep rfl (fun k o l=>rfl) (fun g k o l n=>?_)
    rcases n with n|⟨o',D,_⟩
    ·exact n
    ·exact absurd (S.sep b d z x k o o' f hx s t M.2.1 l D) e,?_⟩,rfl,rfl,rfl,Aui _,fun k hk _=>rfl,?_,?_⟩
 ·rintro o k (n|⟨o',l,_⟩)
  ·exact S.jlt o k n
  ·exact AY S hx t l
 ·rintro k (n|⟨o',l,ht⟩)
  ·exact .inl (S.jft k n)
  ·exact .inr ⟨o',l,fun _=>rfl⟩
 ·rw[Af]at f
  by_cases e:b=d
  ·rw[if_pos e]at f;simp at f;subst f;subst e
   rcases S.blk b x hx t C with q|⟨k,o,u,v,A,q,T,U,V,X,h6,Y⟩
   ·exact .inl q
   ·exact .inr ⟨k,o,u,v,A,q,T,U,V,X.ext E,fun hs=>by simp at hs,fun _=>.inr ⟨o,q,id⟩⟩
  ·rw[if_neg e]at f
   rcases S.blk b z f s I with q|⟨k,o,u,v,A,q,T,U,V,X,h6,Y⟩
   ·exact .inl q
   ·refine .inr ⟨k,o,u,v,A,q,T,U,V,X.ext E,fun hs g n=>?_,fun hs=>.inl (Y hs)⟩
    rcases n with n|⟨o',l,_⟩
    ·exact h6 hs g n
    ·exact e (S.sep b d z x k o o' f hx s t hs q l)
 ·intro b b' z z' k o o' f hb' hd1 hd2 hs l D
  have get:∀{c y},Al (Hs h d {x with sealed:=true}) c=some y->y.dead=false->∃ y',Al h c=some y'/\y'.dead=false/\(y.sealed=false->y'.sealed=false):=by
   intro c y G hyd
   rw[Af]at G
   by_cases e:c=d
   ·subst e;exact⟨x,hx,t,fun hs=>by simp at G;subst G;simp at hs⟩
   ·rw[if_neg e]at G;exact⟨y,G,hyd,id⟩
  obtain⟨y1,g1,g2,g3⟩:=get f hd1
  obtain⟨y2,g4,g5,g6⟩:=get hb' hd2
  exact S.sep b b' y1 y2 k o o' g1 g4 g2 g5 (g3 hs) l D
 ·rintro k ⟨b,z,o,f,s,hs,l⟩ hk
  rw[Af]at f
  by_cases e:b=d
  ·rw[if_pos e]at f;simp at f;subst f;simp at hs
  ·rw[if_neg e]at f
   exact⟨b,z,o,f,s,hs,l⟩
 ·rintro o k (n|⟨o',l,ht⟩)
  ·exact .inl n
  ·cases hs:x.sealed with
   |false=>exact .inr (.inl ⟨d,x,o',hx,t,hs,l⟩)
   | true =>
    left
    rcases S.blk d x hx t C with⟨q,_⟩|⟨k',o1,u,v,A,q,T,U,V,X,h6,Y⟩
    ·rw[l]at q;simp at q
    ·rw[l]at q;simp at q;obtain⟨rfl,rfl⟩:=q
     have:=Y hs
     cases F:x.taint with
     |true=>rw[F]at this;rw[ht F];exact this
     |false =>
      rw[F]at this
      cases o
      ·exact this
      ·exact S.jft _ this
structure OnlyBlk(w w':World)(k:Nat)(cs cs':Array Value)(ty:TypeId)(fr:Nat×Nat):Prop where
 old:w.heap[k]?=some (.cells cs ty fr)
 new:w'.heap[k]?=some (.cells cs' ty fr)
 sz:cs'.size=cs.size
 other:∀ j,j≠k->w'.heap[j]?=w.heap[j]?
 size:w'.heap.size=w.heap.size
 os:w'.os=w.os
 tape:w'.tape=w.tape
 output:w'.output=w.output
def OnlyBlk.setCell{k i:Nat}{cs:Array Value}{ty:TypeId}{fr:Nat×Nat}(d:w.heap[k]?=some (.cells cs ty fr))(u:Value):
  OnlyBlk w (w.setCell ⟨k,i,none⟩ u) k cs (cs.setIfInBounds i u) ty fr:=by
 refine⟨d,?_,by simp,fun j f=>?_,by simp[World.setCell],rfl,rfl,rfl⟩
 ·simp[World.setCell,Axf,d]
 ·simp only[World.setCell,Axf];rw[if_neg (fun e=>f e.symm)]
def OnlyBlk.setCells{k:Nat}{ty:TypeId}{fr:Nat×Nat}:∀(us:List Value)(i:Nat)(w:World)(cs:Array Value),w.heap[k]?=some (.cells cs ty fr) ->
  ∃ d,OnlyBlk w (w.setCells k i us) k cs d ty fr/\∀ j,d[j]?=if i<=j/\j<i+us.length/\j<cs.size then us[j - i]? else cs[j]?
|[],i,w,cs,f=>⟨cs,⟨f,f,rfl,fun _ _=>rfl,rfl,rfl,rfl,rfl⟩,fun j=>by rw[if_neg (by simp;omega)]⟩
| u::us,i,w,cs,f=>by
  have A:=OnlyBlk.setCell (i:=i) f u
  obtain⟨d,B,hB⟩:=OnlyBlk.setCells us (i+1) (w.setCell ⟨k,i,none⟩ u) _ A.new
  refine⟨d,⟨f,B.new,B.sz.trans A.sz,fun j l=>(B.other j l).trans (A.other j l),B.size.trans A.size,B.os.trans A.os,B.tape.trans A.tape,B.output.trans A.output⟩,fun j=>?_⟩
  rw[hB j]
  simp only[Ax9,Aub]
  by_cases l:j=i
  ·subst l
   rw[if_neg (by omega)]
   by_cases hs:j<cs.size
   ·rw[if_pos (by omega)];simp[hs]
   ·rw[if_neg (by omega)];simp[hs]
  ·by_cases n:i+1<=j/\j<i+1+us.length/\j<cs.size
   ·rw[if_pos n,if_pos (by omega),show j - i=(j - (i+1))+1 by omega];simp
   ·rw[if_neg n,if_neg (by omega),Axo (by omega)]
def Step.set(S:SimH J β h w){d k o:Nat}{x x':Blk}{cs t:Array Value}{ty:TypeId}{fr:Nat×Nat}(hx:Al h d=some x)(q:x.dead=false)(hs:x.sealed=false)(A:β d=some (k,o))
  (O:OnlyBlk w w' k cs t ty fr) (hd':x'.dead=false) (U:x'.sealed=false) (hz:x'.sz=x.sz) (hl:x'.cells.length=x.cells.length) (F:CellsRep J β h w x' (fun j=>t[o+j]?)) (G:x.mp=false) (s:x'.mp=x.mp:=by rfl) (hty:x'.ty=x.ty:=by rfl) :
  Step J β h w J β (Hs h d x') w':=by
 obtain⟨I,o',cs0,ty0,fr0,u,V,h3,h4,h5,h6,h7⟩:∃ I o' cs0 ty0 fr0,β d=some (I,o')/\w.heap[I]?=some (.cells cs0 ty0 fr0) /\
   FrTy x.ty ty0 o' cs0.size fr0/\o'+x.cells.length<=cs0.size/\CellsRep J β h w x (fun j=>cs0[o'+j]?)/\(x.sealed=false->∀ g,¬ J g I)/\(x.sealed=true->J x.taint I):=by
  rcases S.blk d x hx q G with⟨T,_⟩|T
  ·rw[A]at T;simp at T
  ·exact T
 rw[A]at u;simp at u;obtain⟨rfl,rfl⟩:=u
 rw[O.old]at V;simp at V;obtain⟨rfl,rfl,rfl⟩:=V
 have nj:∀ g j,J g j->j≠k:=fun g j n e=>by subst e;exact h6 hs g n
 have E:Ext J β h w J β (Hs h d x') w':=by
  refine⟨fun _ _ n=>n,fun o j n=>O.other j (nj o j n),fun b z f=>?_,fun b j oo f=>?_⟩
  ·by_cases e:b=d
   ·subst e;rw[hx]at f;simp at f;subst f
    exact⟨_,⟨by rw[Af,if_pos rfl],s⟩,.inr ⟨q,rfl,hz,fun _=>hl⟩⟩
   ·refine⟨z,⟨by rw[Af,if_neg e];exact f,rfl⟩,?_⟩
    cases q:z.dead
    ·exact .inr ⟨rfl,rfl,rfl,fun _=>rfl⟩
    ·exact .inl rfl
  ·by_cases e:j=k
   ·subst e;rw[Ho O.old,Ho O.new,O.sz];exact Aui _
   ·simp[Bn,O.other j e]
 refine⟨E,⟨fun g j n=>by rw[O.size];exact S.jlt g j n,S.jft,S.gl.ext E,fun b z f l C=>?_,fun b z f l C=>by
   rw[Af]at f
   by_cases e:b=d
   ·rw[if_pos e]at f;simp at f;subst f;simp[s,G]at C
   ·rw[if_neg e]at f
    exact(S.mblk b z f l C).keep rfl (fun k2 o2 v=>O.other k2 (fun X=>by subst X;exact e (S.sep d b x z k2 o o2 hx f q l hs A v).symm)) (fun _ _ _ _ n=>n),?_⟩,O.os,O.tape,O.output,by rw[O.size];exact Aui _,fun j n C=>?_,?_,fun _ _ n=>.inl n⟩
 ·rw[Af]at f
  by_cases e:b=d
  ·rw[if_pos e]at f;simp at f;subst f;subst e
   refine .inr ⟨k,o,t,ty,fr,A,O.new,?_,by rw[hl,O.sz];exact h4,F.ext E,fun _=>h6 hs,fun hh=>by simp[U]at hh⟩
   rw[O.sz,hty];exact h3
  ·rw[if_neg e]at f
   rcases S.blk b z f l C with D|⟨k2,o2,cs2,ty2,fr2,D,Y,g3,g4,g5,g6,g7⟩
   ·exact .inl D
   ·have hne:k2≠k:=fun X=>by
     subst X;exact e (S.sep d b x z k2 o o2 hx f q l hs A D).symm
    exact .inr ⟨k2,o2,cs2,ty2,fr2,D,by rw[O.other k2 hne];exact Y,g3,g4,g5.ext E,g6,g7⟩
 ·intro b b' z z' kk oo oo' f hb' hd1 hd2 hs1 hβ1 v
  have get:∀{c y},Al (Hs h d x') c=some y->y.dead=false->∃ y',Al h c=some y'/\y'.dead=false/\(y.sealed=false->y'.sealed=false):=by
   intro c y F hyd
   rw[Af]at F
   by_cases e:c=d
   ·subst e;exact⟨x,hx,q,fun _=>hs⟩
   ·rw[if_neg e]at F;exact⟨y,F,hyd,id⟩
  obtain⟨y1,D,Y,g3⟩:=get f hd1
  obtain⟨y2,g4,g5,g6⟩:=get hb' hd2
  exact S.sep b b' y1 y2 kk oo oo' D g4 Y g5 (g3 hs1) hβ1 v
 ·exact O.other j (fun e=>C (by subst e;exact⟨d,x,o,hx,q,hs,A⟩))
 ·rintro j ⟨b,z,oo,f,l,hsz,M⟩ n
  rw[Af]at f
  by_cases e:b=d
  ·subst e;exact⟨b,x,oo,hx,q,hs,M⟩
  ·rw[if_neg e]at f
   exact⟨b,z,oo,f,l,hsz,M⟩
def Step.setObj(S:SimH J β h w){d k:Nat}{x x':Blk}{ob A:Obj}(hx:Al h d=some x)(C:x.dead=false)(I:x.mp=true)(F:β d=some (k,0))
  (old:w.heap[k]?=some ob) (new:w'.heap[k]?=some A) (other:∀ j,j≠k->w'.heap[j]?=w.heap[j]?) (size:w'.heap.size=w.heap.size) (os:w'.os=w.os) (tape:w'.tape=w.tape) (output:w'.output=w.output)
  (T:ObjIs x' A) (hx'd:x'.dead=false) (U:x'.sealed=false) (V:x'.pure=true) (X:x'.sz=x.sz) (v:x'.mp=true):Step J β h w J β (Hs h d x') w':=by
 have M:=S.mblk d x hx C I
 have nJ:∀ g,¬ J g k:=by
  obtain⟨_,_,k',_,q,_,_,t⟩:=M
  rw[F]at q;simp at q;subst q;exact t
 have nj:∀ g j,J g j->j≠k:=fun g j l e=>by subst e;exact nJ g l
 have E:Ext J β h w J β (Hs h d x') w':=by
  refine⟨fun _ _ l=>l,fun o j l=>other j (nj o j l),fun b z f=>?_,fun b j oo f=>?_⟩
  ·by_cases e:b=d
   ·subst e;rw[hx]at f;simp at f;subst f
    exact⟨_,⟨by rw[Af,if_pos rfl],by rw[v,I]⟩,.inr ⟨C,rfl,X,fun h=>by simp[I]at h⟩⟩
   ·refine⟨z,⟨by rw[Af,if_neg e];exact f,rfl⟩,?_⟩
    cases C:z.dead
    ·exact .inr ⟨rfl,rfl,rfl,fun _=>rfl⟩
    ·exact .inl rfl
  ·by_cases e:j=k
   ·subst e
    have r0:∀ cs ty fr,ob≠.cells cs ty fr:=by
     obtain⟨_,_,k',ob0,q,t,h3,_⟩:=M
     rw[F]at q;simp at q;subst q
     rw[old]at t;simp at t;subst t
     exact fun _ _ _=>h3.row
    have z0:Bn w j=0:=by
     unfold Bn;rw[old]
     split
     ·rename_i e;simp at e;exact absurd e (r0 _ _ _)
     ·rfl
    rw[z0];exact Axl _
   ·simp[Bn,other j e]
 refine⟨E,⟨fun g j l=>by rw[size];exact S.jlt g j l,S.jft,S.gl.ext E,fun b z f n u=>?_,fun b z f n u=>?_,?_⟩,os,tape,output,by rw[size];exact Aui _,fun j l I=>?_,?_,fun _ _ l=>.inl l⟩
 ·rw[Af]at f
  by_cases e:b=d
  ·rw[if_pos e]at f;simp at f;subst f;simp[v]at u
  ·rw[if_neg e]at f
   rcases S.blk b z f n u with Y|⟨k2,o2,cs2,ty2,fr2,Y,G,g3,g4,g5,g6,g7⟩
   ·exact .inl Y
   ·have hne:k2≠k:=fun e2=>by
     subst e2;rw[old]at G;simp at G
     obtain⟨_,_,k',ob0,q,t,h3,_⟩:=M
     rw[F]at q;simp at q;subst q
     rw[old]at t;simp at t;subst t
     exact absurd G h3.row
    exact .inr ⟨k2,o2,cs2,ty2,fr2,Y,by rw[other k2 hne];exact G,g3,g4,g5.ext E,g6,g7⟩
 ·rw[Af]at f
  by_cases e:b=d
  ·rw[if_pos e]at f;simp at f;subst f;subst e
   exact⟨V,U,k,A,F,new,T,nJ⟩
  ·rw[if_neg e]at f
   exact(S.mblk b z f n u).keep rfl (fun k2 o2 D=>other k2 (fun e2=>by subst e2;exact e (S.sep d b x z k2 0 o2 hx f C n M.2.1 F D).symm)) (fun _ _ _ _ l=>l)
 ·intro b b' z z' kk oo oo' f hb' hd1 hd2 hs1 hβ1 D
  have get:∀{c y},Al (Hs h d x') c=some y->y.dead=false->∃ y',Al h c=some y'/\y'.dead=false/\(y.sealed=false->y'.sealed=false):=by
   intro c y T hyd
   rw[Af]at T
   by_cases e:c=d
   ·subst e;exact⟨x,hx,C,fun _=>M.2.1⟩
   ·rw[if_neg e]at T;exact⟨y,T,hyd,id⟩
  obtain⟨y1,Y,G,g3⟩:=get f hd1
  obtain⟨y2,g4,g5,g6⟩:=get hb' hd2
  exact S.sep b b' y1 y2 kk oo oo' Y g4 G g5 (g3 hs1) hβ1 D
 ·exact other j (fun e=>I (by subst e;exact⟨d,x,0,hx,C,M.2.1,F⟩))
 ·rintro j ⟨b,z,oo,f,n,hsz,hβz⟩ l
  rw[Af]at f
  by_cases e:b=d
  ·subst e;exact⟨b,x,oo,hx,C,M.2.1,hβz⟩
  ·rw[if_neg e]at f
   exact⟨b,z,oo,f,n,hsz,hβz⟩
def Step.mark(S:SimH J β h w){d k o:Nat}{x:Blk}{cs:Array Value}{ty:TypeId}{fr s:Nat×Nat}(hx:Al h d=some x)(v:x.dead=false)(hs:x.sealed=false)(y:β d=some (k,o))
  (old:w.heap[k]?=some (.cells cs ty fr)) (new:w'.heap[k]?=some (.cells cs ty s)) (V:FrOk cs.size s) (other:∀ j,j≠k->w'.heap[j]?=w.heap[j]?) (size:w'.heap.size=w.heap.size) (os:w'.os=w.os) (tape:w'.tape=w.tape) (output:w'.output=w.output) (u:x.mp=false) :
  Step J β h w J β h w':=by
 have nj:∀ g j,J g j->j≠k:=fun g j f e=>by
  subst e
  rcases S.blk d x hx v u with⟨F,_⟩|⟨k',o',cs0,ty0,fr0,t,h2,h3,h4,h5,X,h7⟩
  ·rw[y]at F;simp at F
  ·rw[y]at t;simp at t;obtain⟨rfl,rfl⟩:=t
   exact X hs g f
 have E:Ext J β h w J β h w':=by
  refine⟨fun _ _ f=>f,fun o j f=>other j (nj o j f),fun b z l=>⟨z,⟨l,rfl⟩,?_⟩,fun b j oo l=>?_⟩
  ·cases v:z.dead
   ·exact .inr ⟨rfl,rfl,rfl,fun _=>rfl⟩
   ·exact .inl rfl
  ·by_cases e:j=k
   ·subst e;rw[Ho old,Ho new];exact Aui _
   ·simp[Bn,other j e]
 refine⟨E,⟨fun g j f=>by rw[size];exact S.jlt g j f,S.jft,S.gl.ext E,fun b z l n q=>?_,fun b z l n q=>by
   refine(S.mblk b z l n q).keep rfl (fun k2 o2 D=>other k2 (fun Y=>?_)) (fun _ _ _ _ f=>f)
   subst Y
   have:=S.sep d b x z k2 o o2 hx l v n hs y D
   subst this
   rw[hx] at l;simp at l;subst l;simp[u] at q,S.sep⟩,os,tape,output,by rw[size];exact Aui _,fun j f q=>?_,fun _ q _=>q,fun _ _ f=>.inl f⟩
 ·rcases S.blk b z l n q with A|⟨k2,o2,cs2,ty2,fr2,A,C,G,I,M,T,U⟩
  ·exact .inl A
  ·by_cases e:k2=k
   ·subst e
    rw[old]at C;simp at C;obtain⟨rfl,rfl,rfl⟩:=C
    exact .inr ⟨k2,o2,cs,ty,s,A,new,⟨V,G.2⟩,I,M.ext E,T,U⟩
   ·exact .inr ⟨k2,o2,cs2,ty2,fr2,A,by rw[other k2 e];exact C,G,I,M.ext E,T,U⟩
 ·exact other j (fun e=>q (by subst e;exact⟨d,x,o,hx,v,hs,y⟩))
def Step.move(S:SimH J β h w){d d' k o o':Nat}{x x' y:Blk}{cs D:Array Value}{ty:TypeId}{fr:Nat×Nat}(hx:Al h d=some x)(v:x.dead=false)(hs:x.sealed=false)(A:β d=some (k,o))
  (hn:Al h d'=none) (hy:y.dead=true)
  (O:OnlyBlk w w' k cs D ty fr) (hd':x'.dead=false) (hs':x'.sealed=false) (hl:o'+x'.cells.length<=cs.size) (hc:CellsRep J β h w x' (fun j=>D[o'+j]?)) (hxm:x.mp=false) (hym:y.mp=x.mp:=by rfl) (T:x'.mp=false:=by rfl) (hty:TyOk x'.ty ty o' cs.size:=by exact TyOk.none) :
  Step J β h w J (fun b=>if b=d' then some (k,o')else β b) (Hs (Hs h d y) d' x') w':=by
 obtain⟨U,o1,cs0,ty0,fr0,F,h2,h3,h4,h5,h6,h7⟩:∃ U o' cs0 ty0 fr0,β d=some (U,o')/\w.heap[U]?=some (.cells cs0 ty0 fr0) /\
   FrTy x.ty ty0 o' cs0.size fr0/\o'+x.cells.length<=cs0.size/\CellsRep J β h w x (fun j=>cs0[o'+j]?)/\(x.sealed=false->∀ g,¬ J g U)/\(x.sealed=true->J x.taint U):=by
  rcases S.blk d x hx v hxm with⟨h1,_⟩|h1
  ·rw[A]at h1;simp at h1
  ·exact h1
 rw[A]at F;simp at F;obtain⟨rfl,rfl⟩:=F
 rw[O.old]at h2;simp at h2;obtain⟨rfl,rfl,rfl⟩:=h2
 have nj:∀ g j,J g j->j≠k:=fun g j q e=>by subst e;exact h6 hs g q
 have ndd:d≠d':=fun e=>by subst e;rw[hn]at hx;cases hx
 have ne:∀{b z},Al h b=some z->b≠d':=fun f e=>by subst e;rw[hn]at f;cases f
 have get:∀ b,Al (Hs (Hs h d y) d' x') b=if b=d' then some x' else if b=d then some y else Al h b:=fun b=>by rw[Af,Af]
 have E:Ext J β h w J (fun b=>if b=d' then some (k,o')else β b) (Hs (Hs h d y) d' x') w':=by
  refine⟨fun _ _ q=>q,fun o j q=>O.other j (nj o j q),fun b z f=>?_,fun b j oo f=>?_⟩
  ·by_cases e:b=d
   ·have hb0:=f;subst e;rw[hx]at f;simp at f;subst f;exact⟨y,⟨by rw[get,if_neg (ne hb0),if_pos rfl],hym⟩,.inl hy⟩
   ·refine⟨z,⟨by rw[get,if_neg (ne f),if_neg e];exact f,rfl⟩,?_⟩
    cases v:z.dead
    ·exact .inr ⟨rfl,by simp[ne f],rfl,fun _=>rfl⟩
    ·exact .inl rfl
  ·by_cases e:j=k
   ·subst e;rw[Ho O.old,Ho O.new,O.sz];exact Aui _
   ·simp[Bn,O.other j e]
 have live:∀{b z},Al (Hs (Hs h d y) d' x') b=some z->z.dead=false->(b=d'/\z=x')\/(b≠d'/\b≠d/\Al h b=some z):=by
  intro b z f hz
  rw[get]at f
  by_cases e:b=d'
  ·rw[if_pos e]at f;simp at f;exact .inl ⟨e,f.symm⟩
  ·rw[if_neg e]at f
   by_cases t:b=d
   ·rw[if_pos t]at f;simp at f;subst f;simp[hy]at hz
   ·rw[if_neg t]at f;exact .inr ⟨e,t,f⟩
 refine⟨E,⟨fun g j q=>by rw[O.size];exact S.jlt g j q,S.jft,S.gl.ext E,fun b z f l M=>?_,fun b z f l M=>by
   rcases live f l with⟨rfl,rfl⟩|⟨e1,t,f⟩
   ·simp[T]at M
   ·exact(S.mblk b z f l M).keep (by simp[e1]) (fun k2 o2 n=>O.other k2 (fun e=>by subst e;exact t (S.sep d b x z k2 o o2 hx f v l hs A n).symm)) (fun _ _ _ _ q=>q),?_⟩,O.os,O.tape,O.output,by rw[O.size];exact Aui _,fun j q M=>?_,?_,fun _ _ q=>.inl q⟩
 ·rcases live f l with⟨rfl,rfl⟩|⟨e1,t,f⟩
  ·refine .inr ⟨k,o',D,ty,fr,by simp,O.new,?_,by rw[O.sz];exact hl,hc.ext E,fun _=>h6 hs,fun hh=>by simp[hs']at hh⟩
   rw[O.sz];exact⟨h3.1,hty⟩
  ·rcases S.blk b z f l M with V|⟨k2,o2,cs2,ty2,fr2,V,g2,g3,g4,g5,g6,g7⟩
   ·exact .inl ⟨by simp[e1,V.1],V.2⟩
   ·have hne:k2≠k:=fun e=>by
     subst e;exact t (S.sep d b x z k2 o o2 hx f v l hs A V).symm
    exact .inr ⟨k2,o2,cs2,ty2,fr2,by simp[e1,V],by rw[O.other k2 hne];exact g2,g3,g4,g5.ext E,g6,g7⟩
 ·intro b b' z z' kk oo X f hb' G I hs1 s n
  rcases live f G with⟨e0,_⟩|⟨e1,t,Y⟩<;>rcases live hb' I with⟨e0',_⟩|⟨e3,e4,C⟩
  ·rw[e0,e0']
  ·simp[e0]at s;simp[e3]at n
   obtain⟨rfl,rfl⟩:=s
   exact absurd (S.sep d b' x z' k o X hx C v I hs A n).symm e4
  ·simp[e0']at n;simp[e1]at s
   obtain⟨rfl,rfl⟩:=n
   exact absurd (S.sep d b x z k o oo hx Y v G hs A s).symm t
  ·simp[e1]at s;simp[e3]at n
   exact S.sep b b' z z' kk oo X Y C G I hs1 s n
 ·exact O.other j (fun e=>M (by subst e;exact⟨d,x,o,hx,v,hs,A⟩))
 ·rintro j ⟨b,z,oo,f,l,hsz,u⟩ q
  rcases live f l with⟨rfl,rfl⟩|⟨e1,t,f⟩
  ·simp at u;obtain⟨rfl,rfl⟩:=u
   exact⟨d,x,o,hx,v,hs,A⟩
  ·simp[e1]at u;exact⟨b,z,oo,f,l,hsz,u⟩
end
end Gx
namespace Gx
open Go
def C9:∀(a b:Ip)(h:Az),Am (a++b) h=Am b (Am a h)
|[],_,_=>rfl
|(_,some _)::r,b,h=>by simp only[Aup,Am];exact C9 r b _
|(_,none)::r,b,h=>by simp only[Aup,Am];exact C9 r b _
def LooksS(g:B7)(h:Az):Prop:=∀ b x,g b=some x->∃ y,Al h b=some y/\{y with sealed:=true}={x with sealed:=true}
def Looks.s{g:B7}{h:Az}(d:Looks g h):LooksS g h:=fun b x f=>⟨x,d b x f,rfl⟩
section
variable{R:Type}{r:R}{P:Program}{J J':Bool->Nat->Prop}{β:C3}{h:Az}{w:World}{g:B7}
def LooksS.shutB(f:LooksS g h){b:Nat}{x:Blk}(l:g b=some x):LooksS g (Hs h b {x with sealed:=true}):=by
 intro c y d
 rw[Af]
 by_cases e:c=b
 ·subst e;rw[l]at d;simp at d;subst d
  exact⟨{x with sealed:=true},by simp,rfl⟩
 ·rw[if_neg e];exact f c y d
def Aeb(S:SimH J β h w){b off n:Nat}{y:Blk}{v:Value}(G:Al h b=some y)(I:y.dead=false)(M:y.pure=true)(hr:Rep J β h w (.own b off n) v)
  (hJ:∀ k o,β b=some (k,o)->J' y.taint k) (q:∀ o k,J o k->J' o k) (t o:Bool):RepC (J' y.taint) w (.imm ((y.cells.drop off).take (n*y.sz)) n y.sz t o) v↔(t=true->∃ A cap,v=.slice A n cap/\cap=n):=by
 rw[Rep]at hr
 obtain⟨x,A,cap,⟨f,u⟩,rfl,d,hr⟩:=hr
 rw[G]at f;simp at f;subst f
 rw[RepC]
 constructor
 ·rintro⟨_,A',cap',z,_,C,_⟩ D
  exact⟨A',cap',z,C D⟩
 ·intro C
  have s:t=true->cap=n:=fun D=>by
   obtain⟨A',cap',z,X⟩:=C D
   simp at z;omega
  rcases hr with hr|⟨kk,oo,rfl,hr⟩
  ·have:n=0:=by omega
   subst this
   exact⟨by simp,A,cap,rfl,d,s,.inl rfl⟩
  ·rcases hr with hr|⟨F,Y,r3⟩
   ·simp[I]at hr
   ·rcases S.blk b y G I u with⟨hn,_⟩|⟨k',o',cs,ty,fr,l,T,g2,g3,U,g5,g6⟩
    ·rw[F]at hn;simp at hn
    ·rw[F]at l;simp at l;obtain⟨rfl,rfl⟩:=l
     refine⟨by simp;omega,_,cap,rfl,d,s,.inr ⟨_,rfl,hJ _ _ F,?_⟩⟩
     have:=((U.1 M).drop off).take (n*y.sz)
     refine RepCs.keep (fun k V=>q _ k V) (fun _ _=>rfl) (fun j=>?_) this
     rw[Addr.add_mid,Zj T,Avj]
def Aiu{b off n:Nat}{y:Blk}{v:Value}(l:Al h b=some y)(hr:Rep J β h w (.own b off n) v):y.mp=false:=by
 rw[Rep]at hr
 obtain⟨x,A,cap,⟨d,f⟩,_⟩:=hr
 rw[l]at d;simp at d;subst d;exact f
def Ame{b off:Nat}{y:Blk}{v:Value}(l:Al h b=some y)(hr:Rep J β h w (.optr b off) v):y.mp=false:=by
 rw[Rep]at hr
 obtain⟨x,k,o,⟨d,f⟩,_⟩:=hr
 rw[l]at d;simp at d;subst d;exact f
def TC{v v':AV}{ups:Ip}{org:Bool}{vc:Value}(S:SimH J β h w)(s:LooksS g h)(f:aC g v=some (v',ups,org))(l:Rep J β h w v vc):
    ∃ J',Step J β h w J' β (Am ups h) w/\RepC (J' org) w v' vc/\LooksS g (Am ups h):=by
  unfold aC at f
  split at f
  · rename_i b off n
    obtain⟨x,hx,C⟩:=ub f
    obtain⟨D,u⟩:=uc C
    simp at u
    obtain⟨rfl,rfl,rfl⟩:=u
    unfold K6 at hx
    obtain⟨x0,q,hx⟩:=ub hx
    obtain⟨z,hx⟩:=Aa4 hx
    simp at hx;subst hx
    obtain⟨y,t,d⟩:=s b _ q
    have e1:y.cells=x0.cells:=by have:=congrArg Blk.cells d;simpa using this
    have F:y.sz=x0.sz:=by have:=congrArg Blk.sz d;simpa using this
    have e3:y.taint=x0.taint:=by have:=congrArg Blk.taint d;simpa using this
    have e4:y.dead=x0.dead:=by have:=congrArg Blk.dead d;simpa using this
    have G:y.pure=x0.pure:=by have:=congrArg Blk.pure d;simpa using this
    have A:=Step.shutB S t (by rw[e4];exact z) (Aiu t l)
    refine⟨_,by simp only[Am];rw[<-d];exact A,?_,by simp only[Am];exact s.shutB q⟩
    have:=(Aeb (J':=fun o k=>J o k\/∃ o',β b=some (k,o')/\(y.taint=true->o=true)) S t (by rw[e4];exact z) (by rw[G];exact D) l (fun k o I=>.inr ⟨o,I,id⟩) (fun o k M=>.inl M) false x0.taint).2 (by simp)
    rw[e1,F,e3]at this
    rw[e3]
    exact this
  all_goals first
    |(simp at f;done)
    | (simp at f; obtain ⟨rfl, rfl, rfl⟩ := f
       refine⟨J,Step.refl S,?_,s⟩
       first
         |(rw[Rep]at l;exact l)
         | skip)
  · cases v
    case imm=>rename_i hi _ _;exact absurd rfl (hi _ _ _ _ _)
    case iptr=>rename_i hi _;exact absurd rfl (hi _ _)
    case pagg=>rename_i hi;exact absurd rfl (hi _ _)
    all_goals first|(rw[Rep]at l;rw[RepC];exact l)|simp_all
def U5:∀{c f:LA}{ups:Ip}{org:Bool}{cs:List Value}{J:Bool->Nat->Prop}{h:Az},SimH J β h w->LooksS g h->ED g c=some (f,ups,org)->Reps J β h w c cs ->
  ∃ J',Step J β h w J' β (Am ups h) w/\RepCs (J' org) w f (fun j=>cs[j]?) 0/\f.length=cs.length/\LooksS g (Am ups h)
|[],f,ups,org,cs,J,h,S,s,l,n=>by
  simp[ED]at l;obtain⟨rfl,rfl,rfl⟩:=l
  rw[Reps]at n;subst n
  exact⟨J,Step.refl S,by simp[RepCs],rfl,s⟩
| v::r,f,ups,org,cs,J,h,S,s,l,n=>by
  rw[ED]at l
  obtain⟨⟨v1,u1,o1⟩,G,I⟩:=ub l
  obtain⟨⟨T,u2,o2⟩,hq,D⟩:=ub I
  simp at D
  obtain⟨rfl,rfl,rfl⟩:=D
  rw[Reps]at n
  obtain⟨u,us,rfl,t,y⟩:=n
  obtain⟨J1,A,hA,z⟩:=TC S s G t
  obtain⟨J2,B,hB,q,C⟩:=U5 A.sim z hq (Reps.ext A.ext y)
  refine⟨J2,by rw[C9];exact A.trans B (fun _ _ _ _=>Aui _),?_,by simp[q],by rw[C9];exact C⟩
  have mono:∀{a b:Bool}(k:Nat),J2 a k->J2 (a||b) k:=fun{a b} k d=>by
   cases a
   ·cases b
    ·exact d
    ·exact B.sim.jft k d
   ·exact d
  have mono':∀{a b:Bool}(k:Nat),J2 b k->J2 (a||b) k:=fun{a b} k d=>by rw[Ayl];exact mono k d
  rw[RepCs]
  refine⟨⟨u,by simp,?_⟩,?_⟩
  ·exact RepC.keep (J:=J1 o1) (fun k d=>mono k (B.ext.jsub _ k d)) (fun _ _=>rfl) hA
  ·have:=RepCs.keep (J':=J2 (o1||o2)) (w':=w) (fun k d=>mono' k d) (fun _ _=>rfl) (rd':=fun j=>us[j]?) (fun _=>rfl) hB
   rw[C6]at this ⊢
   intro j x M
   have F:=this j x M
   simp only[Aux]at F
   rw[show 1+j=j+1 by omega]
   simpa using F
def QS{v:AV}{l:LA}{ups:Ip}{org:Bool}{vc:Value}(S:SimH J β h w)(s:LooksS g h)(f:DM g v=some (l,ups,org))(n:Rep J β h w v vc):
  ∃ J',Step J β h w J' β (Am ups h) w/\RepCs (J' org) w l (fun j=>vc.cells.toList[j]?) 0/\l.length=vc.cells.toList.length/\LooksS g (Am ups h):=by
 unfold DM at f
 split at f
 ·rename_i c org'
  simp at f;obtain⟨rfl,rfl,rfl⟩:=f
  rw[Rep]at n
  obtain⟨cs,rfl,z,q⟩:=n
  exact⟨J,Step.refl S,q,by simp[Value.cells,z],s⟩
 ·rename_i c
  rw[Rep]at n
  obtain⟨cs,rfl,q⟩:=n
  exact U5 S s f q
 ·rename_i v z q
  obtain⟨J',A,hA,d,t⟩:=U5 (cs:=[vc]) S s f (by rw[Reps];exact⟨vc,[],rfl,n,by rw[Reps]⟩)
  have G:vc.oneCell'=true:=by
   have y:l.length=1:=d
   cases C:l with
   |nil=>simp[C]at y
   |cons x r =>
    obtain⟨u,D,hr⟩:=hA.at (j:=0) (x:=x) (by simp[C])
    simp at D;subst D
    exact oI hr
  have F:vc.cells=#[vc]:=by cases vc<;>simp_all[Value.cells,Value.oneCell']
  rw[F]
  exact⟨J',A,hA,d,t⟩
end
end Gx
namespace Gx
open Go
def Da:∀(ups:Ip)(h:Az)(b:Nat),Bi ups b=false->Al (Am ups h) b=Al h b
|[],_,_,_=>rfl
| (i,some x)::r,h,b,hi=>by
  rw[Bi]at hi
  cases d:beq i b with
  |true=>rw[d]at hi;simp at hi
  |false =>
   rw[d]at hi
   rw[Am,Da r _ b hi,Af,if_neg (fun e=>BK d e.symm)]
| (i,none)::r,h,b,hi=>by
  rw[Bi]at hi
  cases d:beq i b with
  |true=>rw[d]at hi;simp at hi
  |false =>
   rw[d]at hi
   rw[Am,Da r _ b hi]
   split
   ·rw[Af,if_neg (fun e=>BK d e.symm)]
   ·rfl
def b_{c vs:LA}{off:Nat}(l:off+vs.length<=c.length)(j:Nat):(Ga c off vs)[j]?=if off<=j/\j<off+vs.length then vs[j - off]? else c[j]?:=by
 unfold Ga
 rw[Aun,Avq]
 simp only[Avd,Avo (show off<=c.length by omega)]
 by_cases d:j<off
 ·rw[if_pos d,if_neg (by omega),Awj,if_pos d]
 ·rw[if_neg d,Avq]
  by_cases f:j - off<vs.length
  ·rw[if_pos f,if_pos (by omega)]
  ·rw[if_neg f,if_neg (by omega),Awd];congr 1;omega
def JK{c vs:LA}{off:Nat}(d:off+vs.length<=c.length):(Ga c off vs).length=c.length:=by unfold Ga;simp;omega
def NG{c vs:LA}{off:Nat}(d:off+vs.length<=c.length)(j:Nat):(setCells c off vs)[j]?=if off<=j/\j<off+vs.length then vs[j - off]? else c[j]?:=by
 unfold setCells
 split
 ·rename_i y
  simp at d
  rw[List.getElem?_set]
  by_cases e:off=j
  ·subst e;simp;omega
  ·rw[if_neg e,if_neg (by simp;omega)]
 ·exact b_ d j
def AZ{c vs:LA}{off:Nat}(d:off+vs.length<=c.length):(setCells c off vs).length=c.length:=by
 unfold setCells
 split
 ·simp
 ·exact JK d
section
variable{R:Type}{r:R}{P:Program}{J J':Bool->Nat->Prop}{β:C3}{h:Az}{w w':World}{g:B7}
def U6{v:AV}{vc:Value}(hs:KQ g v=true)(d:Rep J β h w v vc):vc.oneCell'=true:=by
 cases v<;>simp[KQ]at hs
 case own=>rw[Rep]at d;obtain⟨x,A,cap,_,rfl,_⟩:=d;rfl
 case optr=>rw[Rep]at d;obtain⟨x,k,o,_,rfl,_⟩:=d;rfl
 case fn=>rw[Rep]at d;obtain⟨cs,rfl,_⟩:=d;rfl
 case imm=>rw[Rep,RepC]at d;obtain⟨_,A,cap,rfl,_⟩:=d;rfl
 case iptr=>rw[Rep,RepC]at d;obtain⟨a,rfl,_⟩:=d;rfl
 all_goals (rw[Rep]at d;subst d;rfl)
def CO:∀{c:LA},DN g c=true->∀(j:Nat)(x:AV),c[j]?=some x->KQ g x=true
|[],_,j,x,d=>by simp at d
|v::r,hs,j,x,d=>by
  rw[DN]at hs;simp at hs
  cases j with
  |zero=>simp at d;subst d;exact hs.1
  |succ j=>exact CO hs.2 j x (by simpa using d)
def Aa6{k:Nat}{cs d:Array Value}{ty:TypeId}{fr:Nat×Nat}(O:OnlyBlk w w' k cs d ty fr):∀ j,Bn w j<=Bn w' j:=fun j=>by
 by_cases e:j=k
 ·subst e;rw[Ho O.old,Ho O.new,O.sz];exact Aui _
 ·simp[Bn,O.other j e]
def TD{t:TypeId}{k o:Nat}{vc:Value}{cs:Array Value}{ty:TypeId}{fr:Nat×Nat}(l:w.heap[k]?=some (.cells cs ty fr))(n:FrOk cs.size fr)
  (hs:Cw P t=some vc.cells.toList.length) (q:o+vc.cells.toList.length<=cs.size) (s:∀ u∈vc.cells.toList,u.oneCell'=true) :
  (Instr.storeAt t (.pointer (some ⟨k,o,none⟩)) vc).run P w=.ok () (w.setCells k o vc.cells.toList):=by
 have d:=run_storeCells_cells (P:=P) k o vc.cells.toList 0 w (fun j v=>by
   rw[Awu,Zj l];simp;omega)
  (fun j v=>by
   rw[Awu];simp only[World.frozen?,l]
   have:=n.at (o+j) (by omega)
   cases fr;simp at this ⊢;omega) s
 simp only[Awu]at d
 have f:=Ez hs w
 simp only[Axx]at f
 simp[Instr.storeAt,Instr.sureAddr,storeVar,f,d]
def vL{t:TypeId}{p v:AV}{vp vv:Value}{k:AV->Ip->O R}(S:SimH J β h w)(hl:Looks g h)(U:iP P g t p v k=some r)(hp:Rep J β h w p vp)(hv:Rep J β h w v vv):
  ∃ val ups,k val ups=some r/\∃ J' β' w',(Instr.storeAt t vp vv).run P w=.ok () w'/\Step J β h w J' β' (Am ups h) w'/\val=.undef:=by
 unfold iP at U
 split at U
 ·rename_i b off
  obtain⟨x,hx,h1⟩:=ub U
  obtain⟨n,hn,h2⟩:=ub h1
  obtain⟨hs,h3⟩:=Aa4 h2
  obtain⟨hb,hd⟩:=Ox hl hx
  have D:=Ame hb hp
  cases V:x.pure with
  | true =>
   rw[V]at h3
   obtain⟨⟨c',u1,org⟩,hq,h4⟩:=ub h3
   obtain⟨q,h5⟩:=uc h4
   simp at q
   obtain⟨F,G,X⟩:=q
   obtain⟨J1,A,hA,z,_⟩:=QS S hl.s hq hv
   have hb1:Al (Am u1 h) b=some x:=by rw[Da _ _ _ X];exact hb
   obtain⟨kk,o,cs,ty,fr,hβ,rfl,l,hf,hle,hcr,_,_⟩:=vH A.sim hb1 hd (Rep.ext A.ext hp)
   obtain⟨I,O,hO⟩:=OnlyBlk.setCells (k:=kk) vv.cells.toList (o+off) w cs l
   have M:off+c'.length<=x.cells.length:=by omega
   have hone:=RepCs.one hA z.symm
   have B:=Step.set (x':={ x with pure:=true,cells:=setCells x.cells off c',taint:=x.taint||org }) A.sim hb1 hd hs hβ O hd hs rfl (AZ M) (by
    refine⟨fun _=>?_,fun U=>by simp at U⟩
    have hold:=hcr.1 V
    rw[C6]
    intro j y d
    simp only[NG M]at d
    simp only[Aux]
    have mono:∀{a b:Bool}(k:Nat),J1 a k->J1 (a||b) k:=fun{a b} k l=>by
     cases a
     ·cases b
      ·exact l
      ·exact A.sim.jft k l
     ·exact l
    split at d
    ·rename_i hj'
     obtain⟨u,T,hr⟩:=hA.at d
     refine⟨u,?_,RepC.keep (J:=J1 org) (fun k l=>by rw[Ayl];exact mono k l) (fun _ _=>rfl) hr⟩
     rw[hO,if_pos (by omega),<-T];congr 1;omega
    ·rename_i hj'
     obtain⟨u,T,hr⟩:=hold.at d
     refine⟨u,?_,RepC.keep (J:=J1 x.taint) (fun k l=>mono k l) (fun _ _=>rfl) hr⟩
     rw[hO,if_neg (by omega)];exact T)
   refine⟨_,_,h5,J1,β,_,TD l hf.1 (by rw[<-z,F];exact hn) (by omega) hone,?_,rfl⟩
   rw[C9]
   exact A.trans (B D) (fun _ k _ _=>Aa6 O k)
  | false =>
   rw[V]at h3
   obtain⟨kk,o,cs,ty,fr,hβ,rfl,l,hf,hle,hcr,_,_⟩:=vH S hb hd hp
   have go:∀(c:LA)(cells':LA),(∀(j:Nat)(y:AV),c[j]?=some y->∃ u,vv.cells.toList[j]?=some u/\Rep J β h w y u/\u.oneCell'=true)->c.length=vv.cells.toList.length->c.length=n->off+c.length<=x.cells.length ->
     cells'.length=x.cells.length->(∀ j:Nat,cells'[j]?=if off<=j/\j<off+c.length then c[j - off]? else x.cells[j]?) ->
     ∃ J' β' w',(Instr.storeAt t (.pointer (some ⟨kk,o+off,none⟩)) vv).run P w=.ok () w'/\Step J β h w J' β' (Am [(b,some {x with pure:=false,cells:=cells'})] h) w':=by
    intro c cells' q z hcn hoff hcl hget'
    obtain⟨I,O,hO⟩:=OnlyBlk.setCells (k:=kk) vv.cells.toList (o+off) w cs l
    have B:=Step.set (x':={ x with pure:=false,cells:=cells' }) S hb hd hs hβ O hd hs rfl hcl (by
     refine⟨fun U=>by simp at U,fun _ j y d=>?_⟩
     simp only[hget']at d
     split at d
     ·rename_i hj'
      obtain⟨u,T,hr,ho⟩:=q _ _ d
      refine⟨u,?_,hr,ho⟩
      show I[o+j]?=some u
      rw[hO,if_pos (by omega),<-T];congr 1;omega
     ·rename_i hj'
      obtain⟨u,T,hr⟩:=hcr.2 V j y d
      refine⟨u,?_,hr⟩
      show I[o+j]?=some u
      rw[hO,if_neg (by omega)];exact T)
    refine⟨J,β,_,TD l hf.1 (by rw[hn,<-hcn,z]) (by omega) (fun u T=>?_),B D⟩
    obtain⟨j,d,rfl⟩:=Aut T
    obtain⟨u',hu',_,ho⟩:=q j c[j] (Aug (by omega))
    rw[Aug d]at hu';simp only[Awf]at hu';rw[hu'];exact ho
   simp only[cond_false]at h3
   split at h3
   ·rename_i c
    obtain⟨q,h5⟩:=uc h3
    simp at q
    obtain⟨F,G,X⟩:=q
    rw[Rep]at hv
    obtain⟨us,rfl,f⟩:=hv
    rw[C4]at f
    obtain⟨J',β',w',g1,g2⟩:=go c (Ga x.cells off c) (fun j y d=>by
      have Y:j<us.length:=by rw[f.1];exact(Auw.1 d).1
      refine⟨us[j],by simp[Value.cells,Aug Y],f.2 j y _ d (Aug Y),U6 (CO F j y d) (f.2 j y _ d (Aug Y))⟩)
     (by simp[Value.cells,f.1]) G (by omega) (JK (by omega)) (b_ (by omega))
    exact⟨_,_,h5,J',β',w',g1,g2,rfl⟩
   ·rename_i c org
    obtain⟨q,h5⟩:=uc h3
    simp at q
    obtain⟨rfl,G,X⟩:=q
    rw[Rep]at hv
    obtain⟨us,rfl,f,hrc⟩:=hv
    obtain⟨I,O,hO⟩:=OnlyBlk.setCells (k:=kk) us (o+0) w cs l
    have B:=Step.set (x':={ x with pure:=true,taint:=org,cells:=c }) S hb hd hs hβ O hd hs rfl (by simp;omega) (by
     refine⟨fun _=>?_,fun U=>by simp at U⟩
     rw[C6]
     intro j y d
     obtain⟨u,T,hr⟩:=hrc.at d
     have Y:j<us.length:=by rw[f];exact(Auw.1 d).1
     refine⟨u,?_,hr⟩
     show I[o+(0+j)]?=some u
     rw[hO,if_pos (by omega),<-T];congr 1;omega)
    exact⟨_,_,h5,J,β,_,TD (vc:=.agg ⟨us⟩) l hf.1 (by simp[Value.cells];rw[f,G];exact hn) (by simp[Value.cells];omega) (by simpa[Value.cells]using RepCs.one hrc f),B D,rfl⟩
   ·rename_i hna
    obtain⟨q,h5⟩:=uc h3
    simp at q
    obtain⟨F,G,X⟩:=q
    have ho:=U6 F hv
    have C:vv.cells=#[vv]:=by cases vv<;>simp_all[Value.cells,Value.oneCell']
    obtain⟨J',β',w',g1,g2⟩:=go [v] (x.cells.set off v) (fun j y d=>by
      cases j with
      |zero=>simp at d;subst d;exact⟨vv,by simp[C],hv,ho⟩
      |succ j=>simp at d) (by simp[C]) (by simp;omega) (by simp;omega) (by simp) (fun j=>by
      have:=NG (c:=x.cells) (vs:=[v]) (off:=off) (by simp;omega) j
      simpa[setCells] using this)
    exact⟨_,_,h5,J',β',w',g1,g2,rfl⟩
 ·simp at U
end
end Gx
namespace Gx
open Go
section
variable{R:Type}{r:R}{P:Program}{J J':Bool->Nat->Prop}{β:C3}{h:Az}{w w':World}{g:B7}
def t7{v v':AV}{ups:Ip}{org:Bool}(d:aC g v=some (v',ups,org))(b:Nat)(l:Bi ups b=true):∃ x,g b=some x:=by
 unfold aC at d
 split at d
 ·rename_i q off n
  obtain⟨x,hx,t⟩:=ub d
  obtain⟨u,s⟩:=uc t
  simp at s
  obtain⟨rfl,rfl,rfl⟩:=s
  unfold K6 at hx
  obtain⟨x0,f,hx⟩:=ub hx
  have:q=b:=by
   cases e:beq q b with
   |true=>exact Aus e
   |false=>simp[Bi,e]at l
  subst this;exact⟨x0,f⟩
 all_goals first
  |(simp at d;done)
  |(simp at d;obtain⟨rfl,rfl,rfl⟩:=d;simp[Bi]at l)
def J5:∀(a b:Ip)(c:Nat),Bi (a++b) c=(Bi a c||Bi b c)
|[],_,_=>by simp[Bi]
|(i,_)::r,b,c=>by
  rw[Aup,Bi,Bi,J5 r b c]
  cases beq i c<;>simp
def EI:∀{c l:LA}{ups:Ip}{org:Bool},ED g c=some (l,ups,org)->∀ b,Bi ups b=true->∃ x,g b=some x
|[],l,ups,org,d,b,f=>by simp[ED]at d;obtain⟨rfl,rfl,rfl⟩:=d;simp[Bi]at f
|v::r,l,ups,org,d,b,f=>by
  rw[ED]at d
  obtain⟨⟨v1,u1,o1⟩,s,t⟩:=ub d
  obtain⟨⟨u,u2,o2⟩,hq,n⟩:=ub t
  simp at n
  obtain⟨rfl,rfl,rfl⟩:=n
  rw[J5]at f
  cases q:Bi u1 b with
  |true=>exact t7 s b q
  |false=>rw[q]at f;exact EI hq b (by simpa using f)
def rq{v:AV}{l:LA}{ups:Ip}{org:Bool}(d:DM g v=some (l,ups,org))(b:Nat)(f:Bi ups b=true):∃ x,g b=some x:=by
 unfold DM at d
 split at d
 ·simp at d;obtain⟨rfl,rfl,rfl⟩:=d;simp[Bi]at f
 ·exact EI d b f
 ·exact EI d b f
def Aec{ups:Ip}{d:Nat}(f:Looks g h)(l:∀ b,Bi ups b=true->∃ x,g b=some x)(hn:Al h (nid d)=none):Al (Am ups h) (nid d)=none:=by
 rw[Da]
 ·exact hn
 ·cases n:Bi ups (nid d)with
  |false=>rfl
  |true =>
   obtain⟨x,hx⟩:=l _ n
   rw[f _ _ hx]at hn;cases hn
def OpDone(J:Bool->Nat->Prop)(β:C3)(h:Az)(w:World)(ups:Ip)(val:AV)(vc:Value)(w':World):Prop:=∃ J' β',Step J β h w J' β' (Am ups h) w'/\Rep J' β' (Am ups h) w' val vc
def UpsFree(d:Nat)(h:Az)(ups:Ip):Prop:=∀ b,Bi ups b=true->KT d b=true->Al h b=none
def UpsFree.nid {d:Nat} {h:Az} {ups:Ip} (f:UpsFree d h ups) (hi:Bi ups (nid d)=true):Al h (nid d)=none:=f _ hi (by
 have l:ble (Gx.nid d) (Gx.nid d)=true:=by simp
 have n:Nat.blt (Gx.nid d) (Gx.nid d+16)=true:=by simp
 rw[KT,l,n];rfl)
def XC{d:Nat}{x:Blk}{cs:Array Value}{ty:TypeId}(S:SimH J β h w)(hn:Al h (nid d)=none)(n:x.dead=false)(hs:x.sealed=false)(f:x.cells.length<=cs.size)(q:CellsRep J β h w x (fun j=>cs[j]?))(l:x.mp=false:=by rfl)(hty:TyOk x.ty ty 0 cs.size:=by exact TyOk.none):
  OpDone J β h w [(nid d,some x)] (.optr (nid d) 0) (.pointer (some ⟨w.heap.size,0,none⟩)) (w.alloc (.cells cs ty)):=by
 have A:=Step.new (ty:=ty) (fr:=(0,0)) S hn n hs ⟨.inl rfl,hty⟩ f q l
 refine⟨_,_,A,?_⟩
 rw[Rep]
 exact⟨x,w.heap.size,0,⟨by simp[Am,Af],l⟩,rfl,.inr (by simp)⟩
def OpDone.after{ups ups':Ip}{val:AV}{vc:Value}{J1:Bool->Nat->Prop}{β1:C3}{d:World}(A:Step J β h w J1 β1 (Am ups h) d)(B:OpDone J1 β1 (Am ups h) d ups' val vc w')
  (hs:∀ k,Bn w k<=Bn w' k):OpDone J β h w (ups++ups') val vc w':=by
 obtain⟨J2,β2,B1,B2⟩:=B
 exact⟨J2,β2,by rw[C9];exact A.trans B1 (fun _ k _ _=>hs k),by rw[C9];exact B2⟩
def T3(w:World)(o:Obj):∀ k,Bn w k<=Bn (w.alloc o) k:=fun k=>by
 by_cases d:k<w.heap.size
 ·simp[Bn,El w _ d]
 ·simp[Bn,Avy (Axb d)]
def NH{t:TypeId}{vc:Value}:(Instr.box t vc).run P w=.ok (.pointer (some ⟨w.heap.size,0,none⟩)) (w.alloc (.cells vc.cells t)):=by simp[Instr.box,newVar,newRow]
def kS{c:LA}{org:Bool}{cs:List Value}(C:RepCs (J org) w c (fun j=>cs[j]?) 0):∀{L:List (Nat×TypeId)}{f:LA}{k:LA->O R},eK P c org L f k=some r ->
  (∀(j:Nat) x,f[j]?=some x->∃ u,cs[j]?=some u/\Rep J β h w x u)->∃ l:LA,k l=some r/\∀(j:Nat) x,l[j]?=some x->∃ u,cs[j]?=some u/\Rep J β h w x u
|[],f,k,q,s=>⟨f,q,s⟩
| (off,t)::L,f,k,q,s=>by
  rw[eK]at q
  obtain⟨y,G⟩:=uc q
  simp at y
  obtain⟨v,I,M⟩:=Zi (β:=β) (h:=h) G (C.drop off)
  refine kS C I (fun j x n=>?_)
  rw[Avq]at n
  split at n
  ·exact s j x n
  ·have z:j=f.length:=by
    have:=(Auw.1 n).1
    simp at this;omega
   subst z
   simp at n;subst n
   rcases M with⟨d,D,S,u,F,T⟩|⟨d,D,S,_⟩
   ·refine⟨u,?_,T⟩
    rw[y.1]at F;simpa using F
   ·exfalso
    have A:=y.2
    unfold Aiq at A
    rw[D]at A
    split at A<;>simp_all[TypeDesc.isRow]
def vM{co:Bool}{t:TypeId}{v:AV}{vv:Value}{k:AV->O R}(f:iR P co t v k=some r)(n:Rep J β h w v vv):∃ v',k v'=some r/\Rep J β h w v' vv:=by
 unfold iR at f
 split at f
 ·rename_i c org
  rw[Rep]at n
  obtain⟨cs,rfl,F,q⟩:=n
  obtain⟨l,s,y⟩:=kS (β:=β) (h:=h) q f (fun j x z=>by simp at z)
  obtain⟨A,C⟩:=uc s
  simp at A
  refine⟨_,C,?_⟩
  rw[Rep]
  refine⟨cs,rfl,C4.2 ⟨by omega,fun j x u hx D=>?_⟩⟩
  obtain⟨G,d,hr⟩:=y j x hx
  rw[D]at d;simp at d;subst d;exact hr
 ·exact⟨_,f,n⟩
def Afv{t q m:Nat}(h:ux P t=some (q,m)):t=q/\Cw P t=some m:=by
 have key:∀{o:Option Nat},o=Cw P t->(o.map fun n=>(t,n))=some (q,m)->t=q/\Cw P t=some m:=by
  intro o d h
  cases o with
  |none=>simp at h
  |some n=>simp at h;exact⟨h.1,by rw[<-d,h.2]⟩
 unfold ux at h
 split at h
 ·obtain⟨f,_,h⟩:=ub h
  split at h
  ·obtain⟨_,h⟩:=uc h;exact key rfl h
  ·obtain⟨g,_,h⟩:=ub h
   split at h
   ·obtain⟨_,h⟩:=uc h;exact key rfl h
   ·cases h
  ·cases h
 ·cases h
def oJ{d:Nat}{t:TypeId}{v:AV}{vv:Value}{k:AV->Ip->O R}(S:SimH J β h w)(M:Looks g h)(n:xj P g d t v k=some r)(C:Rep J β h w v vv):
  ∃ val ups,k val ups=some r/\(UpsFree d h ups->∃ vc w',(Instr.box t vv).run P w=.ok vc w'/\OpDone J β h w ups val vc w'):=by
 unfold xj at n
 split at n
 ·rename_i c org
  refine⟨_,_,n,fun hn=>⟨_,_,NH,?_⟩⟩
  replace hn:=hn.nid (by simp[Zh,Bi])
  rw[Rep]at C
  obtain⟨cs,rfl,I,u⟩:=C
  exact XC S hn rfl rfl (by simp[Value.cells,I]) ⟨fun _=>by simpa[Value.cells]using u,fun x=>by simp at x⟩
 ·rename_i c
  cases x:Ad3 P t with
  | true =>
   rw[x]at n
   obtain⟨l,n⟩:=uc n
   simp only[Auh]at l
   obtain⟨l,z⟩:=l
   have z:=Aus z
   refine⟨_,_,n,fun hn=>⟨_,_,NH,?_⟩⟩
   replace hn:=hn.nid (by simp[Bi])
   rw[Rep]at C
   obtain⟨cs,rfl,u⟩:=C
   rw[C4]at u
   have hty:TyOk (ux P t) t 0 (Value.agg ⟨cs⟩).cells.size:=fun q m hq=>by
    obtain⟨e1,T⟩:=Afv hq
    refine⟨e1,rfl,.inr ?_⟩
    rw[T]at z
    simp[Value.cells,u.1];simpa using z
   refine XC S hn rfl rfl (by simp[Value.cells,u.1]) ⟨fun x=>by simp at x,fun _ j y D=>?_⟩ rfl hty
   have F:j<cs.length:=by rw[u.1];exact(Auw.1 D).1
   exact⟨cs[j],by simp[Value.cells,F],u.2 j y _ D (Aug F),U6 (CO l j y D) (u.2 j y _ D (Aug F))⟩
  |false =>
   rw[x]at n
   obtain⟨⟨V,u1,o1⟩,hq,I⟩:=ub n
   refine⟨_,_,I,fun hn=>⟨_,_,NH,?_⟩⟩
   replace hn:=hn.nid (by simp[J5,Zh,Bi])
   rw[Rep]at C
   obtain⟨cs,rfl,u⟩:=C
   obtain⟨J1,A,hA,G,_⟩:=U5 S M.s hq u
   refine OpDone.after A (XC A.sim (Aec M (EI hq) hn) rfl rfl (by simp[Value.cells,G]) ⟨fun _=>?_,fun x=>by simp at x⟩) (T3 _ _)
   simpa[Value.cells]using hA
 ·rename_i v I u
  obtain⟨l,n⟩:=uc n
  refine⟨_,_,n,fun hn=>⟨_,_,NH,?_⟩⟩
  replace hn:=hn.nid (by simp[Zh,Bi])
  have U:=U6 l C
  have f:vv.cells=#[vv]:=by cases vv<;>simp_all[Value.cells,Value.oneCell']
  refine XC S hn rfl rfl (by simp[f]) ⟨fun x=>by simp at x,fun _ j y D=>?_⟩
  cases j with
  |zero=>simp at D;subst D;exact⟨vv,by simp[f],C,U⟩
  |succ j=>simp at D
end
end Gx
namespace Gx
open Go
def vN(z:LA):∀(l j:Nat),j<l*z.length->(Sp l z)[j]?=z[j%z.length]?:=by
 have flat:∀(l j:Nat),j<l*z.length->((replicate l z).flatten)[j]?=z[j%z.length]?:=by
  intro l
  induction l with
  |zero=>intro j d;simp at d
  | succ l n =>
   intro j d
   rw[Axi,List.flatten_cons,Avq]
   by_cases f:j<z.length
   ·rw[if_pos f,Avg f]
   ·rw[if_neg f,n _ (by rw[Azm]at d;omega)]
    rw[Nat.mod_eq_sub_mod (a:=j) (by omega)]
 intro l j d
 unfold Sp
 split
 ·rename_i v
  simp at d
  simp[d,Nat.mod_one]
 ·exact flat l j d
def Ti(l:Nat)(z:LA):(Sp l z).length=l*z.length:=by
 unfold Sp
 split
 ·simp
 ·simp
section
variable{R:Type}{r:R}{P:Program}{J J':Bool->Nat->Prop}{β:C3}{h:Az}{w w':World}{g:B7}
def NI{J:Nat->Prop}:∀{cs:List Value},Bg (T2 cs)=true->∀(j:Nat)(u:Value),cs[j]?=some u->∃ x,(T2 cs)[j]?=some x/\RepC J w x u
|[],_,j,u,d=>by simp at d
| v::r,f,j,u,d=>by
  have key:∃ x,iK v=x/\Bg (T2 r)=true/\RepC J w x v:=by
   rw[T2]at f
   have hr:=WZ (J:=fun _=>J) (β:=fun _=>none) (h:=[]) (w:=w) v
   cases hx:iK v<;>rw[hx]at f hr<;>simp[Bg]at f<;>refine⟨_,rfl,f,?_⟩<;>(rw[Rep]at hr;rw[RepC];exact hr)
  obtain⟨x,hx,l,hr⟩:=key
  cases j with
  |zero=>simp at d;subst d;exact⟨x,by simp[T2,hx],hr⟩
  |succ j =>
   obtain⟨y,n,q⟩:=NI (J:=J) (cs:=r) l j u (by simpa using d)
   exact⟨y,by simpa[T2]using n,q⟩
def Zk:∀ cs:List Value,(T2 cs).length=cs.length
|[]=>rfl
|v::r=>by simp[T2,Zk r]
def EJ{t:TypeId}{z:LA}(f:kE P t=some z):∃ i v,P.info? t=some i/\i.zero=some v/\z=T2 v.cells.toList/\Bg z=true/\v.cells.size=i.size/\z.length=i.size:=by
 unfold kE at f
 obtain⟨i,hi,n⟩:=ub f
 obtain⟨v,q,s⟩:=ub n
 obtain⟨d,l⟩:=uc s
 simp at l d
 subst l
 exact⟨i,v,hi,q,rfl,d.1,by simpa using d.2,by rw[Zk];simpa using d.2⟩
def oK{J:Nat->Prop}{v:Value}(A:Bg (T2 v.cells.toList)=true)(l n:Nat)(D:l*v.cells.size<=n):
  RepCs J w (Sp l (T2 v.cells.toList)) (fun j=>(madeCells v.cells n)[j]?) 0:=by
 rw[C6]
 intro j x s
 have f:(T2 v.cells.toList).length=v.cells.size:=by rw[Zk];simp
 have d:j<l*(T2 v.cells.toList).length:=by
  have:=(Auw.1 s).1
  rwa [Ti]at this
 rw[vN _ _ _ d]at s
 rw[f]at s d
 have q:0<v.cells.size:=by
  rcases Avv v.cells.size with t|t
  ·rw[t]at d;simp at d
  ·exact t
 have z:j%v.cells.size<v.cells.size:=Aw0 _ q
 obtain⟨y,u,C⟩:=NI (w:=w) (J:=J) A (j%v.cells.size) v.cells[j%v.cells.size] (by simp[z])
 rw[s]at u;simp at u;subst u
 refine⟨_,?_,C⟩
 have:j<n:=by omega
 simp[madeCells,this,getElem!_pos,z]
def nh{d n cap sz:Nat}{x:Blk}{cs:Array Value}{ty:TypeId}{fr:Nat×Nat}(S:SimH J β h w)(hn:Al h (nid d)=none)(y:x.dead=false)(hs:x.sealed=false)(u:x.sz=sz)
  (t:FrTy x.ty ty 0 cs.size fr) (f:x.cells.length=n*sz) (v:cap*sz<=cs.size) (l:n<=cap) (z:CellsRep J β h w x (fun j=>cs[j]?)) (q:x.mp=false:=by rfl) :
  OpDone J β h w [(nid d,some x)] (.own (nid d) 0 n) (.slice (some ⟨w.heap.size,0,none⟩) n cap) (w.alloc (.cells cs ty fr)):=by
 have C:n*sz<=cap*sz:=Au8 _ l
 have A:=Step.new (ty:=ty) (fr:=fr) S hn y hs t (by omega) z q
 refine⟨_,_,A,?_⟩
 rw[Rep]
 refine⟨x,_,cap,⟨by simp[Am,Af],q⟩,rfl,l,.inr ⟨w.heap.size,0,rfl,.inr ⟨by simp,?_,by rw[u,f];omega⟩⟩⟩
 have s:(w.alloc (.cells cs ty fr)).heap[w.heap.size]?=some (.cells cs ty fr):=by show(w.heap.push _)[_]?=_;simp
 rw[Ho s,u];omega
def xr{d:Nat}{t:TypeId}{l c:AV}{vl vc:Value}{k:AV->Ip->O R}(S:SimH J β h w)(n:tU P d t l c k=some r)(y:Rep J β h w l vl)(A:Rep J β h w c vc):
  ∃ val ups,k val ups=some r/\(UpsFree d h ups->∃ u w',(Instr.makeSlice t vl vc).run P w=.ok u w'/\OpDone J β h w ups val u w'):=by
 unfold tU at n
 split at n
 ·rename_i D l c F
  obtain⟨sz,hs,G⟩:=ub n
  obtain⟨by_,C,I⟩:=ub G
  obtain⟨z,M,T⟩:=ub I
  obtain⟨hq,U⟩:=uc T
  simp at hq
  obtain⟨V,X,q3,q4⟩:=hq
  rw[Rep]at y A;subst y A
  obtain⟨i,v,hi,Y,rfl,q,e1,e2⟩:=EJ M
  have f:i.size=sz:=by simp[Cw,hi]at hs;exact hs
  have s:i.bytes=by_:=by simp[uu,hi]at C;exact C
  have x:Bi (Zh d true false sz (Sp l.toNat (T2 v.cells.toList))) (nid d)=true:=by simp[Zh,Bi]
  refine⟨_,_,U,fun hn=>⟨_,_,run_make w t D i v F hi Y _ _ l c V X (by rw[s,Int.mul_comm];omega) (by omega),?_⟩⟩
  refine nh (sz:=sz) S (hn.nid x) rfl rfl rfl FrTy.un0 ?_ (by rw[size_madeCells,f];exact Aui _) (by omega) ⟨fun _=>?_,fun q=>by simp at q⟩
  ·show(Sp l.toNat (T2 v.cells.toList)).length=_
   rw[Ti,e2,f]
  ·exact oK q _ _ (by rw[e1];exact Au8 _ (by omega))
 ·simp at n
def Yield.src{sz n:Nat}{tx:TypeId}{vx:Value}{us:List Value}(Y:Yield P w sz vx n us)(d:vB P tx=true)(l:∀ u∈us,u.oneCell'=true):Src P sz tx vx n us w:=by
 refine⟨?_,Y.len,?_,?_,Y.length,l⟩
 ·unfold vB at d
  split at d
  ·rename_i e f;exact .inl ⟨e,f⟩
  ·rename_i f;exact .inr f
  ·simp at d
 ·have:=Y.cells w n (fun _=>rfl) (Aui _)
  rwa [<-Y.length,Avl]at this
 ·have:=Y.cells w.drew n (fun _=>rfl) (Aui _)
  rwa [<-Y.length,Avl]at this
def vO{J:Nat->Prop}{a b:LA}{us vs:List Value}(n:RepCs J w a (fun j=>us[j]?) 0)(q:RepCs J w b (fun j=>vs[j]?) 0)(s:a.length=us.length)(tail:List Value):
  RepCs J w (a++b) (fun j=>(us++vs++tail)[j]?) 0:=by
 rw[C6]
 intro j x d
 rw[Avq]at d
 simp only[Aux]
 by_cases l:j<a.length
 ·rw[if_pos l]at d
  obtain⟨u,f,hr⟩:=n.at d
  refine⟨u,?_,hr⟩
  rw[Aun,Avq,if_pos (by omega)];exact f
 ·rw[if_neg l]at d
  obtain⟨u,f,hr⟩:=q.at d
  refine⟨u,?_,hr⟩
  have t:j - a.length<vs.length:=(Auw.1 f).1
  rw[Aun,Avq,if_neg (by omega),Avq,if_pos (by omega),<-s];exact f
def NJ(w:World)(k:Nat):Bn w.drew k=Bn w k:=rfl
def oL{d sz n1 n2 cap0:Nat}{t tx ty f:TypeId}{i:TypeInfo}{z vx:Value}{A:Option Addr}{olds news:List Value}{c1 c2:LA}{o:Bool}(S:SimH J β h w)(hn:Al h (nid d)=none)
  (M:P.underlying t=some (.slice f)) (hi:P.info? f=some i) (T:i.zero=some z) (C:i.size=sz) (D:z.cells.size=sz)
  (l:∀ w':World,(∀ a,w'.cell? a=w.cell? a)->(Builtin.firstCells sz n1 (.slice A n1 cap0)).run P w'=.ok olds.toArray w') (s:olds.length=n1*sz)
  (Y:Yield P w sz vx n2 news) (U:vB P tx=true) (V:∀ u∈news,u.oneCell'=true)
  (h1:RepCs (J o) w c1 (fun j=>olds[j]?) 0) (v:c1.length=olds.length) (h2:RepCs (J o) w c2 (fun j=>news[j]?) 0) (F:c2.length=news.length)
  (I:cap0<n1+n2) (hb1:n1+n2<=140737488355328) (G:(n1+n2)*i.bytes<=140737488355328) {X:Option (Nat×Nat)} (hX:∀ q,X=some q->q=(f,0)) :
  ∃ u w',(Builtin.append_ #[t,tx] ty #[.slice A n1 cap0,vx]).run P w=.ok u w' /\
   OpDone J β h w [(nid d,some {dead:=false,sealed:=false,pure:=true,taint:=o,sz:=sz,cells:=c1++c2,ty:=X})] (.own (nid d) 0 (n1+n2)) u w'/\(∀ k,Bn w k<=Bn w' k):=by
 subst C
 have run:=run_append_grow_src (P:=P) w t tx ty f i z M hi T A n1 cap0 olds (l w.drew (fun _=>rfl)) vx n2 news (Y.src U V) I (by omega) (growslice_fits I G)
 have y:n1+n2<=grownCap w (n1+n2) cap0 f:=by
  unfold grownCap;simp[Question.cut]
 refine⟨_,_,run,?_,?_⟩
 ·obtain⟨J',β',B1,B2⟩:=nh (d:=d) (n:=n1+n2) (cap:=grownCap w (n1+n2) cap0 f) (sz:=i.size) (ty:=f) (fr:=(0,0)) (x:={dead:=false,sealed:=false,pure:=true,taint:=o,sz:=i.size,cells:=c1++c2,ty:=X})
   (cs:=(olds++news).toArray++Builtin.zeroCells z.cells (grownCap w (n1+n2) cap0 f - (n1+n2))) (Step.drew S).sim hn rfl rfl rfl ⟨.inl rfl,fun t m hm=>by have:=hX _ hm;simp at this;exact⟨this.1.symm,rfl,.inl this.2⟩⟩
   (by simp[v,F,s,Y.length,Av5]) (by
    simp[Builtin.zeroCells,s,Y.length,D]
    rw[<-Av5,<-Av5];exact Au8 _ (by omega)) y
   ⟨fun _=>by
    have:=vO h1 h2 v (Builtin.zeroCells z.cells (grownCap w (n1+n2) cap0 f - (n1+n2))).toList
    show RepCs (J o) w.drew (c1++c2) _ 0
    refine RepCs.keep (J:=J o) (w:=w) (w':=w.drew) (fun _ hj=>hj) (fun _ _=>rfl) (fun j=>?_) this
    rw[<-Ayt]
    simp,fun hp=>by simp at hp⟩
  exact⟨J',β',(Step.drew S).trans B1 (fun _ k _ _=>by rw[<-NJ];exact T3 _ _ k),B2⟩
 ·intro k;rw[<-NJ];exact T3 _ _ k
def XD{J:Bool->Nat->Prop}(f:∀ k,J false k->J true k)(a b:Bool)(k:Nat)(d:J a k):J (a||b) k:=by
 cases a
 ·cases b
  ·exact d
  ·exact f k d
 ·exact d
def oM{J:Bool->Nat->Prop}(d:∀ k,J false k->J true k)(a b:Bool)(k:Nat)(f:J b k):J (a||b) k:=by rw[Ayl];exact XD d b a k f
def xt{d sz:Nat}{x:Blk}{A:Option Addr}(S:SimH J β h w)(hn:Al h (nid d)=none)(l:x.cells=[])(f:x.mp=false:=by rfl):
  OpDone J β h w [(nid d,some x)] (.own (nid d) 0 0) (.slice A 0 0) w:=by
 refine⟨_,_,Step.newNone S hn l f,?_⟩
 rw[Rep]
 exact⟨x,A,0,⟨by simp[Am,Af],f⟩,rfl,Aui _,.inl rfl⟩
def xu{g:B7}{d tx:TypeId}{s:AV}{q:Nat×Nat}(h:kK P g d tx s=some q):q=(d,0):=by
 unfold kK at h
 split at h
 ·split at h
  ·simp at h;exact h.symm
  ·cases h
 ·obtain⟨x,_,h⟩:=ub h
  obtain⟨y,_,h⟩:=ub h
  obtain⟨_,h⟩:=uc h
  simp at h;exact h.symm
 ·cases h
def Aiv{g:B7}{f tx b off n o m:Nat}{ty:TypeId}{y:Blk}(l:K6 g b=some y)(s:TyOk y.ty ty o m):TyOk (kK P g f tx (.own b off n)) ty (o+off) m:=by
 intro t k h
 have e:=xu h
 simp at e;obtain⟨rfl,rfl⟩:=e
 unfold kK at h
 simp only[l,Avx]at h
 obtain⟨q,hq,h⟩:=ub h
 obtain⟨d,_⟩:=uc h
 simp only[Auh]at d
 have c1:=Aus d.1
 have c2:=Aus d.2.1
 have c3:=Aus d.2.2
 obtain⟨u,v,_⟩:=s q.1 q.2 hq
 exact⟨by rw[u,c1],by omega,.inl rfl⟩
def rt {d:Nat} {t tx ty:TypeId} {s x:AV} {vs vx:Value} {k:AV->Ip->O R} (S:SimH J β h w) (hl:Looks g h) (hh:WW P g d t tx s x k=some r) (hs:Rep J β h w s vs) (hx:Rep J β h w x vx) :
  ∃ val ups,k val ups=some r/\(UpsFree d h ups->∃ u w',(Builtin.append_ #[t,tx] ty #[vs,vx]).run P w=.ok u w'/\OpDone J β h w ups val u w'):=by
 unfold WW at hh
 split at hh
 ·rename_i el hu
  obtain⟨ht,U⟩:=uc hh
  obtain⟨sz,hsz,h1⟩:=ub U
  obtain⟨by_,hby,h2⟩:=ub h1
  obtain⟨zz,hz,h3⟩:=ub h2
  obtain⟨old,l,h4⟩:=ub h3
  obtain⟨new,us,h5,Y,D,hur⟩:=NF (P:=P) S hl h4 hx
  obtain⟨hq,h6⟩:=uc h5
  simp at hq
  obtain⟨q1,q2⟩:=hq
  obtain⟨i,z,hi,hiz,rfl,hp,e1,e2⟩:=EJ hz
  have f:i.size=sz:=by simp[Cw,hi]at hsz;exact hsz
  have hb':i.bytes=by_:=by simp[uu,hi]at hby;exact hby
  have C:=RepCs.one hur D.symm
  have M:RepCs (J (old.2.2.1||new.2.2)) w new.1 (fun j=>us[j]?) 0:=RepCs.keep (J:=J new.2.2) (w:=w) (oM S.jft _ _) (fun _ _=>rfl) (fun _=>rfl) hur
  refine⟨_,_,h6,fun hn=>?_⟩
  replace hn:=hn.nid (by simp[J5,Bi])
  have hX:∀ q,kK P g el tx s=some q->q=(el,0):=fun q=>xu
  have empty:∀(A:Option Addr),vs=.slice A 0 0->old.1=[]->old.2.1=0->old.2.2.2=[] ->
    ∃ u w',(Builtin.append_ #[t,tx] ty #[vs,vx]).run P w=.ok u w'/\OpDone J β h w (old.2.2.2++[(nid d,some {dead:=false,sealed:=false,pure:=true,taint:=old.2.2.1||new.2.2,sz,cells:=old.1++new.1,ty:=kK P g el tx s})]) (.own (nid d) 0 (old.2.1+new.2.1)) u w':=by
   intro A hA o1 o2 o3
   subst hA
   rw[o1,o2,o3]
   rcases Avv new.2.1 with U|U
   ·have hus:us=[]:=by have:=Y.length;rw[U]at this;simpa using this
    subst hus
    have F:=Y.src ht C
    rw[U]at F
    refine⟨_,_,run_append_nothing (P:=P) w t tx ty el i hu hi A 0 0 (Aui _) vx (by rw[f];exact F),?_⟩
    rw[U]
    have hnc:new.1=[]:=by simpa using D
    exact xt (sz:=sz) S hn (by simp[hnc])
   ·obtain⟨u,w',g1,g2,_⟩:=oL (ty:=ty) (c1:=[]) (olds:=[]) (n1:=0) (cap0:=0) (A:=A) S hn hu hi hiz f (by rw[e1,f]) (fun w' _=>by
      cases A with
      |none=>exact run_firstCells_none (P:=P) w' sz 0 0 0
      | some a=>exact run_firstCells_some (P:=P) w' sz 0 a 0 0 [] (by simp) (fun j v T=>by simp at T)) (by simp) Y ht C (by simp[RepCs]) rfl M D (by omega) (by rw[o2] at q1;omega) (by rw[o2,<-hb'] at q2;exact q2) hX
    exact⟨u,w',g1,g2⟩
  unfold Ad7 at l
  split at l
  ·simp at l;subst l
   rw[Rep]at hs
   exact empty none hs rfl rfl rfl
  ·rename_i c n sz' org
   obtain⟨hz0,h7⟩:=uc l
   simp at hz0 h7;subst hz0;subst h7
   rw[Rep,RepC]at hs
   obtain⟨_,A,cap,T,_,hcap,_⟩:=hs
   have:=hcap rfl;subst this
   exact empty A T rfl rfl rfl
  ·rename_i b off n
   obtain⟨y,hy,h7⟩:=ub l
   obtain⟨hc,h8⟩:=uc h7
   simp at hc h8
   obtain⟨c1,c2,c3⟩:=hc
   subst h8;subst c3
   obtain⟨hb,hd⟩:=Ox hl hy
   simp only at *
   rw[Rep]at hs
   obtain⟨y',A,cap,⟨hy1,hmp⟩,rfl,hcap,hr⟩:=hs
   rw[hb]at hy1;simp at hy1;subst hy1
   have kill:=Step.kill (y:={y with dead:=true,pure:=true,cells:=[]}) S hb rfl
   have hkn:Al (Hs h b {y with dead:=true,pure:=true,cells:=[]}) (nid d)=none:=by
    rw[Af,if_neg (fun e=>by rw[<-e,hn]at hb;cases hb)];exact hn
   have G:Am [(b,none)] h=Hs h b {y with dead:=true,pure:=true,cells:=[]}:=by simp[Am,hb]
   by_cases hc0:cap=0
   ·have hn0:n=0:=by omega
    subst hc0;subst hn0
    have S':=kill.sim
    rcases Avv new.2.1 with U|U
    ·have hus:us=[]:=by have:=Y.length;rw[U]at this;simpa using this
     subst hus
     have F:=Y.src ht C
     rw[U]at F
     refine⟨_,_,run_append_nothing (P:=P) w t tx ty el i hu hi A 0 0 (Aui _) vx (by rw[f];exact F),?_⟩
     rw[U]
     have hnc:new.1=[]:=by simpa using D
     refine OpDone.after (ups:=[(b,none)]) (by rw[G];exact kill) ?_ (fun _=>Aui _)
     rw[G]
     exact xt (sz:=y.sz) S' hkn (by simp[hnc])
    ·obtain⟨u,w',g1,g2,g3⟩:=oL (ty:=ty) (c1:=[]) (olds:=[]) (n1:=0) (cap0:=0) (A:=A) S' hkn hu hi hiz f (by rw[e1,f]) (fun w' _=>by
       cases A with
       |none=>exact run_firstCells_none (P:=P) w' y.sz 0 0 0
       | some a=>exact run_firstCells_some (P:=P) w' y.sz 0 a 0 0 [] (by simp) (fun j v T=>by simp at T)) (by simp) Y ht C (by simp[RepCs]) rfl M D (by omega) (by omega) (by rw[<-hb'] at q2;exact q2) hX
     refine⟨u,w',g1,OpDone.after (ups:=[(b,none)]) (by rw[G];exact kill) ?_ g3⟩
     rw[G];simpa[Zh]using g2
   ·rcases hr with hr | ⟨kk,o,rfl,hr⟩
    ·exact absurd hr hc0
    ·rcases hr with hr|⟨r1,r2,r3⟩
     ·simp[hd]at hr
     ·rcases S.blk b y hb hd hmp with⟨hn',_⟩|⟨k',o',cs,ty',fr,hβ',g1,g2,g3,g4,g5,g6⟩
      ·rw[r1]at hn';simp at hn'
      ·rw[r1]at hβ';simp at hβ';obtain⟨rfl,rfl⟩:=hβ'
       have hbs:=Ho g1
       have V:=((g4.1 c1).drop off).take (n*y.sz)
       have X:((y.cells.drop off).take (n*y.sz)).length=n*y.sz:=by simp;omega
       by_cases I:n+new.2.1<=cap
       ·
        have hle:(n+new.2.1)*y.sz<=cap*y.sz:=Au8 _ I
        rw[Av5]at hle
        have run:=run_append_room_src (P:=P) w t tx ty el i hu hi kk (o+off) n cap vx new.2.1 us (by rw[f];exact Y.src ht C) I (fun j hj=>by
          rw[f,Zj g1];have:=Y.length;simp;omega) (fun j hj=>by
          rw[f];simp only[World.frozen?,g1]
          have h9:=Y.length
          have:=g2.1.at (o+off+n*y.sz+j) (by omega)
          cases fr;simp at this ⊢;omega)
        rw[f]at run
        obtain⟨cs',O,hO⟩:=OnlyBlk.setCells (k:=kk) us (o+off+n*y.sz) w cs g1
        have h9:=Y.length
        have B:=Step.move (y:={y with dead:=true,pure:=true,cells:=[]}) (o':=o+off) (x':={dead:=false,sealed:=false,pure:=true,taint:=y.taint||new.2.2,sz:=y.sz,cells:=(y.cells.drop off).take (n*y.sz)++new.1,ty:=kK P g el tx (.own b off n)}) S hb hd c2 r1 hn rfl O rfl rfl
         (by rw[Aua,X,D];omega) ⟨fun _=>by
          show RepCs (J (y.taint||new.2.2)) w ((y.cells.drop off).take (n*y.sz)++new.1) _ 0
          rw[C6]
          intro j q hj
          rw[Avq,X]at hj
          simp only[Aux]
          by_cases hjn:j<n*y.sz
          ·rw[if_pos hjn]at hj
           obtain⟨v,T,hvr⟩:=V.at hj
           refine⟨v,?_,RepC.keep (J:=J y.taint) (w:=w) (XD S.jft _ _) (fun _ _=>rfl) hvr⟩
           rw[hO,if_neg (by omega),Avj];exact T
          ·rw[if_neg hjn]at hj
           obtain⟨v,T,hvr⟩:=M.at hj
           refine⟨v,?_,hvr⟩
           have:j - n*y.sz<us.length:=(Auw.1 T).1
           rw[hO,if_pos (by omega),<-T];congr 1;omega,fun hp=>by simp at hp⟩ hmp (hty:=Aiv (P:=P) (tx:=tx) (n:=n) hy g2.2)
        refine⟨_,_,run,J,(fun b=>if b=nid d then some (kk,o+off)else β b),?_,?_⟩
        ·rw[C9,G];exact B
        ·rw[C9,G,Rep]
         refine⟨_,_,cap,⟨by simp[Zh,Am,Af];rfl,rfl⟩,rfl,I,.inr ⟨kk,o+off,rfl,.inr ⟨by simp,?_,?_⟩⟩⟩
         ·rw[Ho O.new,O.sz];simp;omega
         ·simp only[Aua,X,D,h9,Aux];rw[Av5];exact Aui _
       ·
        obtain⟨olds,l1,l2,l3⟩:=V.list
        obtain⟨u,w',g1',g2',g3'⟩:=oL (ty:=ty) (c1:=(y.cells.drop off).take (n*y.sz)) (olds:=olds) (n1:=n) (cap0:=cap) (A:=some ⟨kk,o+off,none⟩) kill.sim hkn hu hi hiz f (by rw[e1,f]) (fun w' he =>
          run_firstCells_some (P:=P) w' y.sz n _ n cap olds (by rw[l1,X]) (fun j v T=>by
           rw[he,Addr.add_mid,Zj g1,Avj];exact l2 j v T)) (by rw[l1,X]) Y ht C
          (RepCs.keep (J:=J y.taint) (w:=w) (XD S.jft _ _) (fun _ _=>rfl) (fun _=>rfl) l3) l1.symm M D (by omega) (by omega) (by rw[<-hb']at q2;exact q2) hX
        refine⟨u,w',g1',OpDone.after (ups:=[(b,none)]) (by rw[G];exact kill) ?_ g3'⟩
        rw[G];exact g2'
  ·simp at l
 ·simp at hh
end
end Gx
namespace Gx
open Go
section
variable{R:Type}{r:R}{P:Program}{J J':Bool->Nat->Prop}{β:C3}{h:Az}{w w':World}{g:B7}
def Step.retaint(S:SimH J β h w){d:Nat}{x:Blk}(hx:Al h d=some x)(C:x.dead=false)(hs:x.sealed=false)(hp:x.pure=true)(D:x.mp=false)(o:Bool):
  Step J β h w J β (Hs h d {x with taint:=x.taint||o}) w:=by
 have E:Ext J β h w J β (Hs h d {x with taint:=x.taint||o}) w:=by
  refine⟨fun _ _ v=>v,fun o k v=>rfl,fun b z f=>?_,fun b k o A=>Aui _⟩
  by_cases e:b=d
  ·subst e;rw[hx]at f;simp at f;subst f
   exact⟨{x with taint:=x.taint||o},⟨by rw[Af,if_pos rfl],rfl⟩,.inr ⟨C,rfl,rfl,fun _=>rfl⟩⟩
  ·refine⟨z,⟨by rw[Af,if_neg e];exact f,rfl⟩,?_⟩
   cases C:z.dead
   ·exact .inr ⟨rfl,rfl,rfl,fun _=>rfl⟩
   ·exact .inl rfl
 refine⟨E,⟨S.jlt,S.jft,S.gl.ext E,fun b z f l F=>?_,fun b z f l F=>by
   rw[Af]at f
   by_cases e:b=d
   ·rw[if_pos e]at f;simp at f;subst f;simp[D]at F
   ·rw[if_neg e]at f
    exact(S.mblk b z f l F).keep rfl (fun k o A=>rfl) (fun _ _ _ _ v=>v),?_⟩,rfl,rfl,rfl,Aui _,fun k hk _=>rfl,?_,fun _ _ v=>.inl v⟩
 ·rw[Af]at f
  by_cases e:b=d
  ·rw[if_pos e]at f;simp at f;subst f;subst e
   rcases S.blk b x hx C D with n|⟨k,o',q,s,t,n,G,I,M,T,U,h7⟩
   ·exact .inl n
   ·refine .inr ⟨k,o',q,s,t,n,G,I,M,CellsRep.ext E ⟨fun _=>?_,fun V=>?_⟩,fun _=>U hs,fun V=>by simp[hs]at V⟩
    ·exact RepCs.keep (J:=J x.taint) (w:=w) (XD S.jft _ _) (fun _ _=>rfl) (fun _=>rfl) (T.1 hp)
    ·simp[hp]at V
  ·rw[if_neg e]at f
   rcases S.blk b z f l F with n|⟨k,o,q,s,t,n,G,I,M,T,U,h7⟩
   ·exact .inl n
   ·exact .inr ⟨k,o,q,s,t,n,G,I,M,T.ext E,U,h7⟩
 ·intro b b' z z' k oo X f Y hd1 hd2 u A hβ'
  have get:∀{c y},Al (Hs h d {x with taint:=x.taint||o}) c=some y->y.dead=false->∃ y',Al h c=some y'/\y'.dead=false/\(y.sealed=false->y'.sealed=false):=by
   intro c y hc hyd
   rw[Af]at hc
   by_cases e:c=d
   ·subst e;exact⟨x,hx,C,fun _=>hs⟩
   ·rw[if_neg e]at hc;exact⟨y,hc,hyd,id⟩
  obtain⟨y1,g1,g2,g3⟩:=get f hd1
  obtain⟨y2,g4,g5,g6⟩:=get Y hd2
  exact S.sep b b' y1 y2 k oo X g1 g4 g2 g5 (g3 u) A hβ'
 ·rintro k ⟨b,z,o,f,l,u,A⟩ hk
  rw[Af]at f
  by_cases e:b=d
  ·subst e;exact⟨b,x,o,hx,C,hs,A⟩
  ·rw[if_neg e]at f
   exact⟨b,z,o,f,l,u,A⟩
def Aa7(c:LA)(off:Nat):Ga c off []=c:=by simp[Ga]
def xv {t tx ty:TypeId} {s x:AV} {vs vx:Value} {k:AV->Ip->O R} (S:SimH J β h w) (hl:Looks g h) (V:tV P g t s x k=some r) (hs:Rep J β h w s vs) (hx:Rep J β h w x vx) :
  ∃ val ups,k val ups=some r/\∃ u w',(Builtin.copy_ #[t,tx] ty #[vs,vx]).run P w=.ok u w'/\OpDone J β h w ups val u w':=by
 unfold tV at V
 split at V
 ·rename_i el b off n v
  obtain⟨sz,l,h1⟩:=ub V
  obtain⟨y,hy,h2⟩:=ub h1
  obtain⟨new,us,h3,Y,X,z⟩:=NF (P:=P) S hl h2 hx
  obtain⟨hb,hd⟩:=Ox hl hy
  cases C:(y.pure&&(!y.sealed&&beq sz y.sz))with
  |false=>rw[C]at h3;cases h3
  |true =>
  rw[C]at h3
  have h4:=h3
  simp only[cond_true]at h4
  have hc:=C
  simp at hc
  obtain⟨c1,c2,c3⟩:=hc
  subst c3
  have hone:=RepCs.one z X.symm
  refine⟨_,_,h4,?_⟩
  rw[Rep]at hs
  obtain⟨y',A,cap,⟨D,F⟩,rfl,hcap,hr⟩:=hs
  rw[hb]at D;simp at D;subst D
  have hm:Nat.min new.2.1 n<=new.2.1:=Nat.min_le_left _ _
  have d:=Y.cells w (Nat.min new.2.1 n) (fun _=>rfl) hm
  have f:=Y.len w
  by_cases G:Nat.min new.2.1 n*y.sz=0
  ·
   refine⟨.int .i64 (Nat.min new.2.1 n:Nat),w,?_,J,β,?_,by rw[Rep]⟩
   ·have e:us.take (Nat.min new.2.1 n*y.sz)=[]:=by rw[G];rfl
    rw[e]at d
    cases A with
    |none=>simp[Builtin.copy_,run_underlying v,f,Ez l,d,goInt]
    |some a=>simp[Builtin.copy_,run_underlying v,f,Ez l,d,goInt,storeCells]
   ·have e:(new.1.take (min new.2.1 n*y.sz))=[]:=by
     have:min new.2.1 n*y.sz=0:=G
     rw[this];rfl
    have T:=Step.retaint S hb hd c2 c1 F new.2.2
    simp only[Am]
    rw[e,Aa7]
    exact T
  ·rcases hr with hr|⟨kk,o,rfl,hr⟩
   ·have:n=0:=by omega
    subst this;simp at G
   ·rcases hr with hr|⟨r1,r2,r3⟩
    ·simp[hd]at hr
    ·rcases S.blk b y hb hd F with⟨hn',_⟩|⟨k',o',cs,ty',fr,I,g1,g2,g3,g4,g5,g6⟩
     ·rw[r1]at hn';simp at hn'
     ·rw[r1]at I;simp at I;obtain⟨rfl,rfl⟩:=I
      have hle1:Nat.min new.2.1 n*y.sz<=new.2.1*y.sz:=Au8 _ hm
      have hle2:Nat.min new.2.1 n*y.sz<=n*y.sz:=Au8 _ (Nat.min_le_right _ _)
      have hul':=Y.length
      have htl:(us.take (Nat.min new.2.1 n*y.sz)).length=Nat.min new.2.1 n*y.sz:=by rw[Avd];omega
      have htl':(new.1.take (Nat.min new.2.1 n*y.sz)).length=Nat.min new.2.1 n*y.sz:=by rw[Avd];omega
      obtain⟨cs',O,hO⟩:=OnlyBlk.setCells (k:=kk) (us.take (Nat.min new.2.1 n*y.sz)) (o+off) w cs g1
      have hst:=run_storeCells_cells (P:=P) kk (o+off) (us.take (Nat.min new.2.1 n*y.sz)) 0 w (fun j U=>by
        rw[Awu,Zj g1];simp;omega)
       (fun j U=>by
        rw[Awu];simp only[World.frozen?,g1]
        have:=g2.1.at (o+off+j) (by omega)
        cases fr;simp at this ⊢;omega) (fun u v=>hone u (Axh v))
      simp only[Awu]at hst
      have B:=Step.set (x':={ y with cells:=Ga y.cells off (new.1.take (Nat.min new.2.1 n*y.sz)),taint:=y.taint||new.2.2 }) S hb hd c2 r1 O hd c2 rfl (JK (by omega)) ⟨fun _=>by
       show RepCs (J (y.taint||new.2.2)) w (Ga y.cells off (new.1.take (Nat.min new.2.1 n*y.sz))) _ 0
       rw[C6]
       intro j q U
       rw[b_ (by omega),htl']at U
       simp only[Aux]
       split at U
       ·obtain⟨u,M,hr⟩:=(z.take _).at U
        refine⟨u,?_,RepC.keep (J:=J new.2.2) (w:=w) (oM S.jft _ _) (fun _ _=>rfl) hr⟩
        rw[hO,if_pos (by omega),Awj,if_pos (by omega),<-M];congr 1;omega
       ·obtain⟨u,M,hr⟩:=(g4.1 c1).at U
        refine⟨u,?_,RepC.keep (J:=J y.taint) (w:=w) (XD S.jft _ _) (fun _ _=>rfl) hr⟩
        rw[hO,if_neg (by omega)];exact M,fun hp=>by simp[c1] at hp⟩ F
      refine⟨.int .i64 (Nat.min new.2.1 n:Nat),_,?_,J,β,B,by rw[Rep]⟩
      simp[Builtin.copy_,run_underlying v,f,Ez l,d,goInt,hst]
 ·rename_i el v
  obtain⟨sz,l,h1⟩:=ub V
  obtain⟨new,us,h2,Y,X,z⟩:=NF (P:=P) S hl h1 hx
  rw[Rep]at hs;subst hs
  have f:=Y.len w
  have d:=Y.cells w 0 (fun _=>rfl) (Axl _)
  simp at d
  refine⟨_,_,h2,.int .i64 0,w,?_,J,β,Step.refl S,by rw[Rep]⟩
  have hm:∀ m:Nat,Nat.min m 0=0:=fun m=>Nat.min_eq_right (Axl _)
  simp[Builtin.copy_,run_underlying v,f,Ez l,hm,d,goInt]
 ·simp at V
def aI:∀{c:LA}{s:Lu}{us:List Value}{J:Nat->Prop},eI c=some s->RepCs J w c (fun j=>us[j]?) 0->c.length=us.length ->
  ∃ ns:List Int,us=ns.map (Value.int .u8)/\s=ns.map (fun n=>UInt8.ofNat n.toNat)
|[],s,us,J,t,A,C=>by
  simp[eI]at t;subst t
  have:us=[]:=by cases us<;>simp_all
  exact⟨[],by simp[this],rfl⟩
| x::r,s,us,J,t,A,C=>by
  rw[eI]at t
  obtain⟨b,d,M⟩:=ub t
  obtain⟨l,D,G⟩:=ub M
  simp at G;subst G
  cases us with
  |nil=>simp at C
  | cons u us =>
   rw[RepCs]at A
   obtain⟨⟨V,z,hr⟩,f⟩:=A
   simp at z;subst z
   unfold Ain at d
   split at d
   ·rename_i n
    simp at d;subst d
    rw[RepC]at hr;subst hr
    have q:RepCs J w r (fun j=>us[j]?) 0:=by
     rw[C6]at f ⊢
     intro j y S
     obtain⟨v,I,F⟩:=f j y S
     refine⟨v,?_,F⟩
     rw[show 0+1+j=j+1 by omega]at I
     simpa using I
    obtain⟨ns,T,U⟩:=aI D q (by simpa using C)
    exact⟨n::ns,by simp[T],by simp[U]⟩
   ·simp at d
def Aiw:∀(ns:List Int)(s:Lu),(ns.foldl (fun r n=>r.push (UInt8.ofNat n.toNat)) (⟨⟨s⟩⟩:ByteArray))=⟨⟨s++ns.map fun n=>UInt8.ofNat n.toNat⟩⟩
|[],s=>by simp
| n::r,s=>by
  rw[Awx]
  have:(⟨⟨s⟩⟩:ByteArray).push (UInt8.ofNat n.toNat)=⟨⟨s++[UInt8.ofNat n.toNat]⟩⟩:=by
   simp[ByteArray.push]
  rw[this,Aiw r];simp
def xw {d:Nat} {src dst:TypeId} {x:AV} {vx:Value} {k:AV->Ip->O R} (S:SimH J β h w) (hl:Looks g h) (f:tW P g d src dst x k=some r) (hx:Rep J β h w x vx) :
  ∃ val ups,k val ups=some r/\(UpsFree d h ups->∃ u w',(convert src dst vx).run P w=.ok u w'/\OpDone J β h w ups val u w'):=by
 unfold tW at f
 split at f
 ·rename_i kd y
  split at f
  ·rename_i kd' n
   rw[Rep]at hx;subst hx
   obtain⟨C,T⟩:=uc f
   obtain⟨s,hs⟩:=Ayd.1 C
   refine⟨_,_,T,fun _=>⟨.int kd (kd.wrap n),w,?_,J,β,Step.refl S,by rw[Rep]⟩⟩
   cases s<;>simp[convert,run_underlying hs,run_underlying y,Conv.intToInt]
  ·simp at f
 ·rename_i y
  split at f
  ·rename_i hs
   split at f
   ·rename_i s
    rw[Rep]at hx;subst hx
    refine⟨_,_,f,fun _=>⟨.string ⟨⟨s⟩⟩,w,?_,J,β,Step.refl S,by rw[Rep]⟩⟩
    simp[convert,run_underlying hs,run_underlying y]
   ·simp at f
  ·rename_i v hs
   split at f
   ·rename_i U
    split at f
    ·simp at f
    ·rename_i hns
     obtain⟨q,hq,T⟩:=ub f
     obtain⟨s,hs',h2⟩:=ub T
     obtain⟨us,Y,hul,hur⟩:=kR (P:=P) S hl hq hx
     obtain⟨ns,e1,e2⟩:=aI hs' hur hul
     refine⟨_,_,h2,fun _=>⟨.string ⟨⟨s⟩⟩,w,?_,J,β,Step.refl S,by rw[Rep]⟩⟩
     have hv:∃ A n cap,vx=.slice A n cap:=by
      unfold tS at hq
      split at hq
      ·rw[Rep]at hx;exact⟨_,_,_,hx⟩
      ·rw[Rep,RepC]at hx;obtain⟨_,A,cap,rfl,_⟩:=hx;exact⟨_,_,_,rfl⟩
      ·rw[Rep]at hx;obtain⟨_,A,cap,_,rfl,_⟩:=hx;exact⟨_,_,_,rfl⟩
      ·exact absurd rfl (hns _)
      ·simp at hq
     obtain⟨A,n,cap,rfl⟩:=hv
     have hn:q.2.1=n:=by have:=Y.len w;simpa[Builtin.lenOf]using this.symm
     have I:=Y.cells w n (fun _=>rfl) (by omega)
     have V:=Y.length
     rw[hn]at V
     rw[show us.take (n*1)=us by rw[<-V,Avl]]at I
     have D:(convert src dst (.slice A n cap)).run P w=(Conv.bytesToString (.slice A n cap)).run P w:=by
      cases A<;>simp[convert,run_underlying hs,run_underlying y,run_underlying U]
     rw[D]
     cases A with
     |none =>
      rw[run_firstCells_none]at I
      injection I with hc1 _
      have hus:us=[]:=by simpa using hc1.symm
      rw[hus]at e1
      have X:ns=[]:=by simpa using e1.symm
      rw[X]at e2
      simp at e2;subst e2
      simp[Conv.bytesToString];rfl
     |some a =>
      simp only[Builtin.firstCells,Auz]at I
      rw[e1]at I
      rw[run_bytesToString w a n cap ns I,e2]
      have:=Aiw ns []
      simp at this
      rw[<-this];rfl
   ·simp at f
  ·simp at f
 ·rename_i v y
  split at f
  ·rename_i e' b off n hs U
   obtain⟨l,T⟩:=uc f
   simp only[Auh]at l
   obtain⟨l,hn1⟩:=l
   have hn1:1<=n:=by simpa using hn1
   have l:=Aus l
   subst l
   have hee:e'=v:=by rw[hs]at y;simpa using y
   subst hee
   obtain⟨x,t,h2⟩:=ub T
   obtain⟨hsl,h3⟩:=Aa4 h2
   obtain⟨t,hd⟩:=Ox hl t
   refine⟨_,_,h3,fun _=>?_⟩
   have hx':=hx
   rw[Rep]at hx
   obtain⟨x0,A,cap,⟨F,hmp⟩,rfl,hle,hr⟩:=hx
   rw[t]at F;simp at F;subst F
   rcases hr with hr|⟨k1,o1,rfl,hr⟩
   ·omega
   ·rcases hr with hr|⟨hβ,_,_⟩
    ·simp[hd]at hr
    ·rcases S.blk b x t hd hmp with⟨M,_⟩|⟨k2,o2,cs,ty,fr,M,h5,h6,h7,h8,h9,h10⟩
     ·rw[hβ]at M;simp at M
     ·rw[hβ]at M;simp at M;obtain⟨rfl,rfl⟩:=M
      have hsh:w.shape? k1=some (ty,cs.size):=by simp[World.shape?,h5]
      have hnew:∃ G,(w.freeze ⟨k1,cs.size,none⟩ 1).heap[k1]?=some (.cells cs ty G)/\FrOk cs.size G:=by
       obtain⟨lo,hi⟩:=fr
       refine⟨if lo==hi then(cs.size,cs.size+1)else(min lo cs.size,max hi (cs.size+1)),?_,?_⟩
       ·simp[World.freeze,Axf,h5]
       ·by_cases e:lo=hi
        ·simp[e,FrOk]
        ·have h11:cs.size<=lo:=by rcases h6 with h6|h6;exact absurd h6 e;exact h6
         simp[e,FrOk];omega
      obtain⟨G,hf1,hf2⟩:=hnew
      have A:=Step.mark S t hd hsl hβ h5 hf1 hf2 (fun j z=>by
       simp only[World.freeze]
       rw[if_neg (by decide)]
       show(w.heap.modify k1 _)[j]?=_
       rw[Axf,if_neg (fun e=>z e.symm)]) (by simp[World.freeze]) rfl rfl rfl hmp
      refine⟨_,w.freeze ⟨k1,cs.size,none⟩ 1,?_,J,β,A,Rep.ext A.ext hx'⟩
      simp[convert,run_underlying hs,run_underlying U,markStringish,hsh]
  ·rename_i s hs U
   rw[Rep]at hx;subst hx
   refine⟨_,_,f,fun hn=>⟨_,_,run_bytes_of_string (P:=P) w src dst v ⟨⟨s⟩⟩ hs y U,?_⟩⟩
   replace hn:=hn.nid (by simp[Zh,Bi])
   have hsz:(⟨⟨s⟩⟩:ByteArray).size=s.length:=rfl
   have hcap:s.length<=grownCap w s.length 0 v:=by unfold grownCap;simp[Question.cut]
   rw[hsz]
   obtain⟨J',β',B1,B2⟩:=nh (d:=d) (n:=s.length) (cap:=grownCap w s.length 0 v) (sz:=1) (ty:=v) (fr:=((bytesRow ⟨⟨s⟩⟩ (grownCap w s.length 0 v)).size,(bytesRow ⟨⟨s⟩⟩ (grownCap w s.length 0 v)).size+1))
    (x:={dead:=false,sealed:=false,pure:=true,taint:=false,sz:=1,cells:=s.map fun b=>.int .u8 (b.toNat:Int)})
    (cs:=bytesRow ⟨⟨s⟩⟩ (grownCap w s.length 0 v)) (Step.drew S).sim hn rfl rfl rfl (FrOk.un (.inr (Aui _))) (by simp) (by simp[bytesRow,hsz];omega) hcap
    ⟨fun _=>by
     show RepCs (J false) w.drew (s.map fun b=>.int .u8 (b.toNat:Int)) _ 0
     rw[C6]
     intro j q z
     rw[Awb]at z
     cases hb:s[j]? with
     |none=>rw[hb]at z;simp at z
     |some b =>
      rw[hb]at z;simp at z;subst z
      refine⟨.int .u8 (b.toNat:Int),?_,by rw[RepC]⟩
      have hlt:j<s.length:=(Auw.1 hb).1
      simp only[Aux,bytesRow]
      rw[Ax1 (by simp;exact hlt)]
      simp[hb],fun hp=>by simp at hp⟩
   exact⟨J',β',(Step.drew S).trans B1 (fun _ k _ _=>by rw[<-NJ];exact T3 _ _ k),B2⟩
  ·simp at f
 ·simp at f
end
end Gx
namespace Gx
open Go
def RY(CR:AV->Value->Prop)(c:LA)(cs:List Value):Prop:=c.length=cs.length/\∀(j:Nat)(x:AV)(u:Value),c[j]?=some x->cs[j]?=some u->CR x u
def PartsRel(CR:AV->Value->Prop):List (Nat×LA)->List (Nat×Value)->Prop
|[],vs=>vs=[]
|(i,c)::r,vs=>∃ v vs',vs=(i,v)::vs'/\RY CR c v.cells.toList/\PartsRel CR r vs'
def Aed:∀(vs:List Value)(n off:Nat)(cells:Array Value)(j:Nat),
  ((vs.zipIdx n).foldl (fun(cs:Array Value)(p:Value×Nat)=>cs.setIfInBounds (off+p.2) p.1) cells)[j]?=if off+n<=j/\j<off+n+vs.length/\j<cells.size then vs[j - (off+n)]? else cells[j]?
|[],n,off,cells,j=>by simp;omega
| v::r,n,off,cells,j=>by
  rw[List.zipIdx_cons,Awx,Aed r (n+1) off]
  simp only[Ax9,Aub]
  by_cases f:j=off+n
  ·subst f
   rw[if_neg (by omega)]
   by_cases d:off+n<cells.size
   ·rw[if_pos (by omega)];simp[d]
   ·rw[if_neg (by omega)];simp[d]
  ·by_cases d:off+(n+1)<=j/\j<off+(n+1)+r.length/\j<cells.size
   ·rw[if_pos d,if_pos (by omega),show j - (off+n)=(j - (off+(n+1)))+1 by omega];simp
   ·rw[if_neg d,if_neg (by omega),Axo (by omega)]
def eT:∀(vs:List Value)(n off:Nat)(cells:Array Value),((vs.zipIdx n).foldl (fun(cs:Array Value)(p:Value×Nat)=>cs.setIfInBounds (off+p.2) p.1) cells).size=cells.size
|[],_,_,_=>rfl
|v::r,n,off,cells=>by rw[List.zipIdx_cons,Awx,eT r];simp
def KW{CR:AV->Value->Prop}{place:Nat->Option (Nat×Nat)}:∀{parts:List (Nat×LA)}{vparts:List (Nat×Value)}{c y:LA}{cs:Array Value},PartsRel CR parts vparts->RY CR c cs.toList ->
  Wk place parts c=some y->∃ d,Instr.fill place cs vparts=some d/\RY CR y d.toList
|[],vparts,c,y,cs,n,z,s=>by
  rw[PartsRel]at n;subst n
  simp[Wk]at s;subst s
  exact⟨cs,rfl,z⟩
| (i,vs)::r,vparts,c,y,cs,n,z,s=>by
  rw[PartsRel]at n
  obtain⟨v,F,rfl,C,hr⟩:=n
  rw[Wk]at s
  obtain⟨p,A,G⟩:=ub s
  obtain⟨D,I⟩:=uc G
  simp at D
  obtain⟨V,X⟩:=D
  have e1:vs.length=v.cells.size:=by have:=C.1;simpa using this
  have M:c.length=cs.size:=by have:=z.1;simpa using this
  have t:p.1+vs.length<=c.length:=by omega
  have key:RY CR (setCells c p.1 vs) (v.cells.zipIdx.foldl (fun(cs:Array Value)(q:Value×Nat)=>cs.setIfInBounds (p.1+q.2) q.1) cs).toList:=by
   have f:v.cells.zipIdx.foldl (fun(cs:Array Value)(q:Value×Nat)=>cs.setIfInBounds (p.1+q.2) q.1) cs=(v.cells.toList.zipIdx 0).foldl (fun(cs:Array Value)(q:Value×Nat)=>cs.setIfInBounds (p.1+q.2) q.1) cs:=by
    rw[<-Array.foldl_toList];simp
   rw[f]
   refine⟨by rw[AZ t,M];exact(eT _ 0 _ _).symm,fun j x u hx l=>?_⟩
   rw[NG t]at hx
   rw[Ayt,Aed]at l
   simp only[Awu,Axx]at l
   split at hx
   ·rename_i S
    rw[if_pos (by omega)]at l
    exact C.2 _ x u hx l
   ·rename_i S
    rw[if_neg (by omega)]at l
    exact z.2 j x u hx (by simpa using l)
  obtain⟨d,T,U⟩:=KW hr key I
  refine⟨d,?_,U⟩
  rw[Instr.fill,A]
  have:¬ (v.cells.size≠p.2||p.1+v.cells.size>cs.size)=true:=by simp;omega
  simp only[this]
  exact T
section
variable{R:Type}{r:R}{P:Program}{J J':Bool->Nat->Prop}{β:C3}{h:Az}{w w':World}{g:B7}
def RepParts(J:Bool->Nat->Prop)(β:C3)(h:Az)(w:World):List (Nat×AV)->List (Nat×Value)->Prop
|[],vs=>vs=[]
|(i,x)::r,vs=>∃ v vs',vs=(i,v)::vs'/\Rep J β h w x v/\RepParts J β h w r vs'
def RepParts.ext{β':C3}{h':Az}(E:Ext J β h w J' β' h' w'):∀{ps:List (Nat×AV)}{vs:List (Nat×Value)},RepParts J β h w ps vs->RepParts J' β' h' w' ps vs
|[],_,hr=>hr
|(i,x)::r,vs,hr=>by
  rw[RepParts]at hr ⊢
  obtain⟨v,d,e,f,l⟩:=hr
  exact⟨v,d,e,Rep.ext E f,RepParts.ext E l⟩
def PartsRel.mono{CR CR':AV->Value->Prop}(f:∀ x u,CR x u->CR' x u):∀{ps:List (Nat×LA)}{vs:List (Nat×Value)},PartsRel CR ps vs->PartsRel CR' ps vs
|[],_,hr=>hr
|(i,c)::r,vs,hr=>by
  rw[PartsRel]at hr ⊢
  obtain⟨v,d,e,l,n⟩:=hr
  exact⟨v,d,e,⟨l.1,fun j x u hx q=>f _ _ (l.2 j x u hx q)⟩,PartsRel.mono f n⟩
def JL{J:Nat->Prop}{c:LA}{us:List Value}(f:RepCs J w c (fun j=>us[j]?) 0)(l:c.length=us.length):RY (RepC J w) c us :=
 ⟨l,fun j x u hx n=>by
  obtain⟨q,d,hr⟩:=f.at hx
  rw[n] at d;simp at d;subst d;exact hr⟩
def JM{J:Nat->Prop}{c:LA}{us:List Value}(d:RY (RepC J w) c us):RepCs J w c (fun j=>us[j]?) 0:=by
 rw[C6]
 intro j x hx
 have:j<us.length:=by rw[<-d.1];exact(Auw.1 hx).1
 exact⟨us[j],by simp[this],d.2 j x _ hx (Aug this)⟩
def A_:∀{ps:List (Nat×AV)}{vs:List (Nat×Value)}{q:List (Nat×LA)}{ups:Ip}{org:Bool}{J:Bool->Nat->Prop}{h:Az},SimH J β h w->LooksS g h->DO g ps=some (q,ups,org)->RepParts J β h w ps vs ->
  ∃ J',Step J β h w J' β (Am ups h) w/\PartsRel (RepC (J' org) w) q vs/\LooksS g (Am ups h)/\∀ b,Bi ups b=true->∃ x,g b=some x
|[],vs,q,ups,org,J,h,S,s,d,f=>by
  simp[DO]at d;obtain⟨rfl,rfl,rfl⟩:=d
  rw[RepParts]at f
  exact⟨J,Step.refl S,by rw[PartsRel];exact f,s,fun b l=>by simp[Bi]at l⟩
| (i,x)::r,vs,q,ups,org,J,h,S,s,d,f=>by
  rw[DO]at d
  obtain⟨⟨c1,u1,o1⟩,I,U⟩:=ub d
  obtain⟨⟨V,u2,o2⟩,hq,M⟩:=ub U
  simp at M
  obtain⟨rfl,rfl,rfl⟩:=M
  rw[RepParts]at f
  obtain⟨v,t,rfl,y,z⟩:=f
  obtain⟨J1,A,hA,n,C⟩:=QS S s I y
  obtain⟨J2,B,hB,D,F⟩:=A_ A.sim C hq (RepParts.ext A.ext z)
  refine⟨J2,by rw[C9];exact A.trans B (fun _ _ _ _=>Aui _),?_,by rw[C9];exact D,fun b l=>?_⟩
  ·rw[PartsRel]
   refine⟨v,t,rfl,JL (RepCs.keep (J:=J1 o1) (w:=w) (fun k G=>XD B.sim.jft _ _ k (B.ext.jsub _ k G)) (fun _ _=>rfl) (fun _=>rfl) hA) n,?_⟩
   exact PartsRel.mono (fun x u hx=>RepC.keep (J:=J2 o2) (w:=w) (fun k G=>oM B.sim.jft _ _ k G) (fun _ _=>rfl) hx) hB
  ·rw[J5]at l
   cases T:Bi u1 b with
   |true=>exact rq I b T
   |false=>rw[T]at l;exact F b (by simpa using l)
def Zl{place:Nat->Option (Nat×Nat)}{k:LA->O R}:∀(ps:List (Nat×LA))(c:LA),kI place ps c k=(Wk place ps c).bind k
|[],c=>rfl
|(i,vs)::r,c=>by
  rw[kI,Wk,Auj]
  congr 1;funext p
  rw[Zl r]
  cases (beq vs.length p.2&&ble (p.1+p.2) c.length)<;>rfl
def eU{d len:Nat}{t:TypeId}{ps:List (Nat×AV)}{vs:List (Nat×Value)}{k:AV->Ip->O R}(S:SimH J β h w)(hl:Looks g h)(D:Up P g d t len ps k=some r)(hv:RepParts J β h w ps vs):
  ∃ val ups,k val ups=some r/\(UpsFree d h ups->∃ u w',(Instr.buildSlice t len vs.toArray).run P w=.ok u w'/\OpDone J β h w ups val u w'):=by
 unfold Up at D
 split at D
 ·rename_i el hu
  obtain⟨sz,f,h1⟩:=ub D
  obtain⟨zz,hz,h2⟩:=ub h1
  obtain⟨⟨q,u1,o1⟩,hq,h3⟩:=ub h2
  obtain⟨hb,h4⟩:=uc h3
  rw[Zl]at h4
  obtain⟨cells,hc,h5⟩:=ub h4
  simp at hb
  obtain⟨i,z,hi,G,rfl,I,e1,e2⟩:=EJ hz
  have l:i.size=sz:=by simp[Cw,hi]at f;exact f
  refine⟨_,_,h5,fun hn=>?_⟩
  replace hn:=hn.nid (by simp[J5,Zh,Bi])
  obtain⟨J1,A,hA,_,x⟩:=A_ S hl.s hq hv
  have M:=oK (w:=w) (J:=J1 o1) I len (len*sz) (by rw[e1,l];exact Aui _)
  have T:RY (RepC (J1 o1) w) (Sp len (T2 z.cells.toList)) (madeCells z.cells (len*sz)).toList:=by
   refine JL (RepCs.keep (J:=J1 o1) (w:=w) (fun _ U=>U) (fun _ _=>rfl) (fun j=>by simp) M) ?_
   rw[Ti,e2,l,Axx,size_madeCells]
  obtain⟨n,f1,f2⟩:=KW hA T hc
  have y:cells.length=len*sz:=by
   have:∀{ps:List (Nat×LA)}{c F:LA},Wk (fun i=>some (i*sz,sz)) ps c=some F->F.length=c.length:=by
    intro ps
    induction ps with
    |nil=>intro c F C;simp[Wk]at C;rw[C]
    |cons p r ih =>
     intro c F C
     obtain⟨i,vs⟩:=p
     rw[Wk]at C
     obtain⟨p,hpl,g1⟩:=ub C
     obtain⟨gb,g2⟩:=uc g1
     simp at gb
     rw[ih g2,AZ (by omega)]
   rw[this hc,Ti,e2,l]
  have hcs:n.size=len*sz:=by have:=f2.1;simp at this;omega
  refine⟨.slice (some ⟨w.heap.size,0,none⟩) len len,w.alloc (.cells n el),?_,?_⟩
  ·have v:Instr.fill (fun i=>some (i*sz,sz)) ((Array.range (len*sz)).map (z.cells[·%z.cells.size]!)) vs=some n:=f1
   have V:¬ (16777216<len*sz):=by omega
   by_cases X:len*sz=0
   ·have Y:∀(a:Array Value),(Array.range (len*sz)).map (a[·%a.size]!)=#[]:=fun a=>by rw[X];simp[Array.range_zero']
    rw[Y]at v
    simp[Instr.buildSlice,run_underlying hu,Ez f,X,Array.range_zero',v,newRow]
   ·simp[Instr.buildSlice,run_underlying hu,Ez f,V,X,zeroValue,typeInfo,hi,G,v,newRow]
  ·refine OpDone.after A (nh (sz:=sz) (fr:=(0,0)) A.sim (Aec hl x hn) rfl rfl rfl FrTy.un0 y (by omega) (Aui _) ⟨fun _=>?_,fun I=>by simp at I⟩) (T3 _ _)
   have:=JM f2
   exact RepCs.keep (J:=J1 o1) (w:=w) (fun _ U=>U) (fun _ _=>rfl) (fun j=>by simp) this
 ·simp at D
def cA{t:TypeId}{ps:List (Nat×AV)}{k:AV->O R}:vA P t ps k=(uz P t ps).bind k:=by
 unfold vA uz
 rw[Auj]
 congr 1;funext place
 cases (ps.all fun p=>SV p.2)with
|false=>rfl
| true =>
  simp only[cond_true]
  cases (ps.any fun p=>M' p.2)with
  | true =>
   simp only[cond_true]
   cases (ps.any fun p=>oB p.2)with
   |true =>
    simp only[cond_true]
    rw[Auj]
    congr 1;funext z
    rw[Zl]
    cases Wk place (M6 ps) z<;>rfl
   |false =>
    simp only[cond_false]
    rw[Auj]
    congr 1;funext z
    rw[Zl]
    cases Wk place (Hh ps) z<;>rfl
  |false =>
   simp only[cond_false]
   rw[Auj]
   congr 1;funext z
   rw[Zl]
   cases Wk place (Hh ps) z<;>rfl
def Yj{d:Nat}:∀{l:List (Nat×Nat)}{j:Nat}{c:LA}{cs:List Value}{β:C3}{h:Az},SimH J β h w->1<=j->j+l.length<=16->(∀ i,j<=i->i<16->Bi (Hz d l j c).2 (nid d+i)=true->Al h (nid d+i)=none)->Reps J β h w c cs ->
  ∃ β',Step J β h w J β' (Am (Hz d l j c).2 h) w/\Reps J β' (Am (Hz d l j c).2 h) w (Hz d l j c).1 cs
|[],j,c,cs,β,h,S,_,_,_,hr=>⟨β,Step.refl S,hr⟩
| (o,sz)::l,j,c,cs,β,h,S,T,F,s,hr=>by
  rw[Hz]at s ⊢
  split
  ·rename_i t
   simp only[t]at s
   simp at F
   have M:Al h (nid d+j)=none:=s j (Aui _) (by omega) (by simp[Bi])
   have A:=Step.newNone S (d:=nid d+j) (x:=Hu sz) M rfl
   have f:=Reps.ext A.ext hr
   rw[C4]at f
   have z:Reps J (fun b=>if b=nid d+j then none else β b) (Hs h (nid d+j) (Hu sz)) w (c.set o (.own (nid d+j) 0 0)) cs:=by
    rw[C4]
    refine⟨by rw[f.1];simp,fun i y u v G=>?_⟩
    by_cases hi:i=o
    ·subst hi
     have C:i<c.length:=(Auw.1 t).1
     rw[List.getElem?_set_self C]at v;simp at v;subst v
     have I:=f.2 i _ u t G
     rw[Rep]at I;subst I
     rw[Rep]
     exact⟨Hu sz,none,0,⟨by simp[Af],rfl⟩,rfl,Aui _,.inl rfl⟩
    ·rw[List.getElem?_set_ne (by omega)]at v
     exact f.2 i y u v G
   obtain⟨β',B,hB⟩:=Yj (d:=d) (l:=l) (j:=j+1) A.sim (by omega) (by omega) (fun i hi n q=>by
    have:=s i (by omega) n (by
     rw[Bi]
     have:beq (nid d+j) (nid d+i)=false:=TB (by omega)
     rw[this];exact q)
    rw[Af,if_neg (by omega)];exact this) z
   exact⟨β',by simp only[Am];exact A.trans B (fun _ _ _ _=>Aui _),by simp only[Am];exact hB⟩
  ·rename_i t
   have e:Hz d ((o,sz)::l) j c=Hz d l (j+1) c:=by
    rw[Hz]
    split
    ·rename_i D;exact absurd D (t ·)
    ·rfl
   simp at F
   split at s
   ·rename_i D;exact absurd D (t ·)
   ·exact Yj S (by omega) (by omega) (fun i hi n q=>s i (by omega) n q) hr
def Aa8{t:TypeId}{co:Bool}{d:Nat}{v:AV}{vc:Value}{k:AV->Ip->O R}(S:SimH J β h w)(f:Aft P t co d v k=some r)(n:Rep J β h w v vc):
  ∃ val ups,k val ups=some r/\(UpsFree d h ups->OpDone J β h w ups val vc w):=by
 unfold Aft at f
 split at f
 ·rename_i c
  obtain⟨s,u⟩:=uc f
  refine⟨_,_,u,fun x=>?_⟩
  rw[Rep]at n
  obtain⟨cs,rfl,hr⟩:=n
  obtain⟨β',A,hA⟩:=Yj (d:=d) (l:=U4 P t) (j:=1) S (Aui _) (by simp at s;omega) (fun i hi y q=>x _ q (by unfold KT;simp;omega)) hr
  exact⟨J,β',A,by rw[Rep];exact⟨cs,rfl,hA⟩⟩
 ·exact⟨_,_,f,fun _=>⟨J,β,Step.refl S,n⟩⟩
def kT{x:AV}{v:Value}(d:Rep J β h w x v)(s:M' x=false)(l:SV x=true):RY (Rep J β h w) (cellsOf x) v.cells.toList:=by
 have one:v.cells=#[v]->cellsOf x=[x]->RY (Rep J β h w) (cellsOf x) v.cells.toList:=fun t f=>by
  rw[t,f]
  refine⟨rfl,fun j y u n q=>?_⟩
  cases j with
  |zero=>simp at n q;subst n q;exact d
  |succ j=>simp at n
 cases x
 case pagg=>simp[M']at s
 case agg c =>
  rw[Rep]at d
  obtain⟨cs,rfl,f⟩:=d
  rw[C4]at f
  exact⟨f.1.symm,f.2⟩
 case tup c=>simp[SV]at l
 case undef=>simp[SV]at l
 case omap=>simp[SV]at l
 case own=>rw[Rep]at d;obtain⟨_,A,cap,_,rfl,_⟩:=d;exact one rfl rfl
 case optr=>rw[Rep]at d;obtain⟨_,kk,o,_,rfl,_⟩:=d;exact one rfl rfl
 case fn=>rw[Rep]at d;obtain⟨cs,rfl,_⟩:=d;exact one rfl rfl
 case imm=>rw[Rep,RepC]at d;obtain⟨_,A,cap,rfl,_⟩:=d;exact one rfl rfl
 case iptr=>rw[Rep,RepC]at d;obtain⟨a,rfl,_⟩:=d;exact one rfl rfl
 all_goals (rw[Rep]at d;subst d;exact one rfl rfl)
def t8{x:AV}{v:Value}(l:∀ k,J false k->J true k)(f:Rep J β h w x v)(hr:bY x=false){o:Bool}(q:uy x=true->o=true):RepC (J o) w x v:=by
 cases x<;>simp[bY]at hr
 case imm c n sz t org =>
  rw[Rep]at f
  refine RepC.keep (J:=J org) (w:=w) (fun k d=>?_) (fun _ _=>rfl) f
  cases org
  ·cases o
   ·exact d
   ·exact l k d
  ·rw[q rfl];exact d
 case iptr c org =>
  rw[Rep]at f
  refine RepC.keep (J:=J org) (w:=w) (fun k d=>?_) (fun _ _=>rfl) f
  cases org
  ·cases o
   ·exact d
   ·exact l k d
  ·rw[q rfl];exact d
 all_goals (rw[Rep]at f;rw[RepC];exact f)
def vP{x:AV}{v:Value}(q:∀ k,J false k->J true k)(l:Rep J β h w x v)(hr:oB x=false){o:Bool}(s:kJ x=true->o=true):RY (RepC (J o) w) (cellsOf x) v.cells.toList:=by
 have one:bY x=false->cellsOf x=[x]->kJ x=uy x->RY (RepC (J o) w) (cellsOf x) v.cells.toList:=fun G d t=>by
  have D:=t8 (o:=o) q l G (by rw[<-t];exact s)
  have z:v.cells=#[v]:=by have:=oI D;cases v<;>simp_all[Value.cells,Value.oneCell']
  rw[z,d]
  refine⟨rfl,fun j y u f n=>?_⟩
  cases j with
  |zero=>simp at f n;subst f n;exact D
  |succ j=>simp at f
 cases x
 case pagg c org =>
  rw[Rep]at l
  obtain⟨cs,rfl,z,d⟩:=l
  refine JL (RepCs.keep (J:=J org) (w:=w) (fun k A=>?_) (fun _ _=>rfl) (fun j=>by simp[Value.cells]) d) (by simp[Value.cells,cellsOf,z])
  cases org
  ·cases o
   ·exact A
   ·exact q k A
  ·rw[s rfl];exact A
 case agg c =>
  rw[Rep]at l
  obtain⟨cs,rfl,d⟩:=l
  rw[C4]at d
  refine⟨d.1.symm,fun j y u f n=>?_⟩
  simp only[oB,Awv]at hr
  have F:y∈c:=Ayy f
  have C:bY y=false:=by simpa using hr y F
  refine t8 q (d.2 j y u f n) C (fun t=>s ?_)
  rw[kJ,List.any_eq_true];exact⟨y,F,t⟩
 all_goals first|exact one hr rfl rfl|simp[oB,bY]at hr
def Afw{o:Bool}{x:AV}{v:Value}(hr:RepC (J o) w x v):Rep J β h w (xk o x) v:=by
 cases x
 case imm=>rw[xk,Rep];rw[RepC]at hr ⊢;exact hr
 case iptr=>rw[xk,Rep];rw[RepC]at hr ⊢;exact hr
 case fn f c =>
  cases c with
  |nil=>rw[RepC]at hr;subst hr;show Rep J β h w (.fn f []) _;rw[Rep];exact⟨[],by simp,by rw[Reps]⟩
  |cons a b=>simp[RepC]at hr
 all_goals first|(rw[RepC]at hr;unfold xk;rw[Rep];exact hr)|(simp[RepC]at hr)
def Aa9{x:AV}{v:Value}(l:Rep J β h w x v)(s:SV x=true):RY (Rep J β h w) (oC x) v.cells.toList:=by
 cases n:M' x with
|false =>
  have:=kT l n s
  cases x<;>first|exact this|simp[M']at n
| true =>
  cases x<;>simp[M']at n
  rename_i c o
  rw[Rep]at l
  obtain⟨cs,rfl,t,z⟩:=l
  refine⟨by simp[oC,Value.cells,t],fun j y u f q=>?_⟩
  simp only[oC,Awb]at f
  cases hx:c[j]? with
  |none=>rw[hx]at f;simp at f
  |some x0 =>
   rw[hx]at f;simp at f;subst f
   obtain⟨A,d,hr⟩:=z.at hx
   simp[Value.cells]at q
   rw[q]at d;simp at d;subst d
   exact Afw hr
def TE{CR:AV->Value->Prop}:∀{ps:List (Nat×AV)}{vs:List (Nat×Value)},RepParts J β h w ps vs->(∀ p∈ps,∀ v,Rep J β h w p.2 v->RY CR (oC p.2) v.cells.toList)->PartsRel CR (M6 ps) vs
|[],vs,hr,_=>by rw[RepParts]at hr;rw[M6,PartsRel];exact hr
|(i,x)::r,vs,hr,f=>by
  rw[RepParts]at hr
  obtain⟨v,d,rfl,l,n⟩:=hr
  rw[M6,PartsRel]
  exact⟨v,d,rfl,f (i,x) (by simp) v l,TE n (fun p q=>f p (by simp[q]))⟩
def JN{CR:AV->Value->Prop}:∀{ps:List (Nat×AV)}{vs:List (Nat×Value)},RepParts J β h w ps vs->(∀ p∈ps,∀ v,Rep J β h w p.2 v->RY CR (cellsOf p.2) v.cells.toList)->PartsRel CR (Hh ps) vs
|[],vs,hr,_=>by rw[RepParts]at hr;rw[Hh,PartsRel];exact hr
|(i,x)::r,vs,hr,f=>by
  rw[RepParts]at hr
  obtain⟨v,d,rfl,l,n⟩:=hr
  rw[Hh,PartsRel]
  exact⟨v,d,rfl,f (i,x) (by simp) v l,JN n (fun p q=>f p (by simp[q]))⟩
def eV{t:TypeId}{place:Nat->Option (Nat×Nat)}{i:TypeInfo}{z:Value}{vs:List (Nat×Value)}{cs:Array Value}(d:SU P t=some place)(hi:P.info? t=some i)(s:i.zero=some z)
  (u:Instr.fill place z.cells vs=some cs):P.built t vs=some cs:=by
 unfold SU at d
 unfold Program.built
 split at d
 ·rename_i n e q
  cases l:P.info? e with
  |none=>simp[l]at d
  |some ie=>simp[l]at d;subst d;simp only[hi,q,s,l];exact u
 ·rename_i fs q
  cases l:fs.toList.mapM fun f=>(P.info? f.type).map fun i=>(f.offset,i.size)with
  |none=>rw[l]at d;simp at d
  |some pl =>
   rw[l]at d;simp at d;subst d
   simp only[hi,q,s,l]
   simpa using u
 ·simp at d
def rx{t:TypeId}{ps:List (Nat×AV)}{vs:List (Nat×Value)}{k:AV->Ip->O R}(S:SimH J β h w)(G:Looks g h)(v:WU P g t ps k=some r)(I:RepParts J β h w ps vs):
  ∃ val ups u,k val ups=some r/\(Instr.build t vs.toArray).run P w=.ok u w/\OpDone J β h w ups val u w:=by
 unfold WU at v
 obtain⟨place,d,M⟩:=ub v
 obtain⟨zz,T,U⟩:=ub M
 obtain⟨⟨q,u1,o1⟩,hq,C⟩:=ub U
 rw[Zl]at C
 obtain⟨cells,V,X⟩:=ub C
 obtain⟨i,z,hi,f,rfl,Y,e1,e2⟩:=EJ T
 obtain⟨J1,A,hA,_,D⟩:=A_ S G.s hq I
 have l:RY (RepC (J1 o1) w) (T2 z.cells.toList) z.cells.toList:=by
  refine⟨Zk _,fun j x u hx hu=>?_⟩
  obtain⟨y,n,g2⟩:=NI (w:=w) (J:=J1 o1) Y j u hu
  rw[hx]at n;simp at n;subst n;exact g2
 obtain⟨cs,f1,F⟩:=KW hA l V
 refine⟨_,_,.agg cs,X,run_build w t vs.toArray cs (eV d hi f (by simpa using f1)),J1,β,A,?_⟩
 rw[Rep]
 exact⟨cs.toList,rfl,F.1.symm,JM F⟩
def vR{t:TypeId}{ps:List (Nat×AV)}{vs:List (Nat×Value)}{v:AV}(S:SimH J β h w)(hh:uz P t ps=some v)(X:RepParts J β h w ps vs):
  ∃ u,(Instr.build t vs.toArray).run P w=.ok u w/\Rep J β h w v u:=by
 unfold uz at hh
 obtain⟨place,C,h1⟩:=ub hh
 obtain⟨U,D⟩:=uc h1
 cases F:ps.any (fun p=>M' p.2)with
| true =>
  rw[F]at D
  cases G:ps.any (fun p=>oB p.2)with
  | true =>
   rw[G]at D
   obtain⟨zz,f,n⟩:=ub D
   unfold tT at f
   obtain⟨i,hi,f⟩:=ub f
   cases l:i.zero with
   |none=>rw[l]at f;simp at f
   | some z =>
    rw[l]at f;simp at f;subst f
    cases q:Wk place (M6 ps) (T2 z.cells.toList)with
    |none=>rw[q]at n;simp at n
    | some c =>
     rw[q]at n;simp at n;subst n
     have d:PartsRel (Rep J β h w) (M6 ps) vs:=TE X (fun p I u T=>Aa9 T (Auv.1 U p I))
     have s:RY (Rep J β h w) (T2 z.cells.toList) z.cells.toList:=by
      have:=W_ (J:=J) (β:=β) (h:=h) (w:=w) z.cells.toList
      rw[C4]at this
      exact⟨this.1.symm,this.2⟩
     obtain⟨cs,V,A⟩:=KW d s q
     refine⟨.agg cs,run_build w t vs.toArray cs (eV C hi l (by simpa using V)),?_⟩
     rw[Rep]
     exact⟨cs.toList,rfl,C4.2 ⟨A.1.symm,A.2⟩⟩
  |false =>
  rw[G]at D
  have h3:=D
  obtain⟨zz,f,n⟩:=ub h3
  obtain⟨i,z,hi,l,rfl,hp,e1,e2⟩:=EJ f
  cases q:Wk place (Hh ps) (T2 z.cells.toList)with
  |none=>rw[q]at n;simp at n
  | some c =>
   rw[q]at n;simp at n;subst n
   have d:PartsRel (RepC (J (ps.any fun p=>kJ p.2)) w) (Hh ps) vs:=JN X (fun p I u T=>vP S.jft T (by
     have:=Awv.1 G p I;simpa using this) (fun ho=>by rw[List.any_eq_true];exact⟨p,I,ho⟩))
   have s:RY (RepC (J (ps.any fun p=>kJ p.2)) w) (T2 z.cells.toList) z.cells.toList:=by
    refine⟨Zk _,fun j x u hx T=>?_⟩
    obtain⟨y,Y,g2⟩:=NI (w:=w) (J:=J (ps.any fun p=>kJ p.2)) hp j u T
    rw[hx]at Y;simp at Y;subst Y;exact g2
   obtain⟨cs,V,A⟩:=KW d s q
   refine⟨.agg cs,run_build w t vs.toArray cs (eV C hi l (by simpa using V)),?_⟩
   rw[Rep]
   exact⟨cs.toList,rfl,A.1.symm,JM A⟩
| false =>
  rw[F]at D
  obtain⟨zz,f,n⟩:=ub D
  unfold tT at f
  obtain⟨i,hi,f⟩:=ub f
  cases l:i.zero with
  |none=>rw[l]at f;simp at f
  | some z =>
   rw[l]at f;simp at f;subst f
   cases q:Wk place (Hh ps) (T2 z.cells.toList)with
   |none=>rw[q]at n;simp at n
   | some c =>
    rw[q]at n;simp at n;subst n
    have d:PartsRel (Rep J β h w) (Hh ps) vs:=JN X (fun p I u T=>kT T (by
      have:=Awv.1 F p I;simpa using this) (Auv.1 U p I))
    have s:RY (Rep J β h w) (T2 z.cells.toList) z.cells.toList:=by
     have:=W_ (J:=J) (β:=β) (h:=h) (w:=w) z.cells.toList
     rw[C4]at this
     exact⟨this.1.symm,this.2⟩
    obtain⟨cs,V,A⟩:=KW d s q
    refine⟨.agg cs,run_build w t vs.toArray cs (eV C hi l (by simpa using V)),?_⟩
    rw[Rep]
    exact⟨cs.toList,rfl,C4.2 ⟨A.1.symm,A.2⟩⟩
end
end Gx
namespace Gx
open Go
section
variable{R:Type}{r:R}{P:Program}{J:Bool->Nat->Prop}{β:C3}{h:Az}{w:World}
def PRd(n:Nat)(x:LA)(rd:Nat->Option Value):Prop:=∀ j q,j<n->x[j]?=some q ->
 (∀ k m,q=.int k m->rd j=some (.int k m))/\(∀ b,q=.bool b->rd j=some (.bool b))/\(∀ s,q=.str s->rd j=some (.string ⟨⟨s⟩⟩))
def PRd.drop{n m o:Nat}{x:LA}{xs:Array Value}{ox sz:Nat}(l:PRd sz x (fun j=>xs[ox+j]?))(z:o+m<=sz)(hn:n=m):PRd n (x.drop o) (fun j=>(xs.extract ox (ox+sz))[o+j]?):=by
 subst hn
 intro j q A hq
 rw[Awd]at hq
 have d:=l (o+j) q (by omega) hq
 have e:∀ v,xs[ox+(o+j)]?=some v->(xs.extract ox (ox+sz))[o+j]?=some v:=by
  intro v f
  have t:=(Awc.1 f).1
  rw[Array.getElem?_extract,if_pos (by omega)];exact f
 exact⟨fun k m u=>e _ (d.1 k m u),fun b y=>e _ (d.2.1 b y),fun s hs=>e _ (d.2.2 s hs)⟩
def DQ{t:TypeId}{d:TypeDesc}{xs:Array Value}{ox:Nat}{v:Value}(f:P.underlying t=some d)(l:d.isRow=false)(n:xs[ox]?=some v):(part t xs ox).run P w=.ok v w:=by
 unfold part isAgg
 simp only[Sem.run_bind,run_underlying f,Result.andThen_ok]
 cases d<;>simp_all[TypeDesc.isRow]
def KX{t:TypeId}{d:TypeDesc}{xs:Array Value}{ox s:Nat}(f:P.underlying t=some d)(l:d.isRow=true)(hs:Cw P t=some s):(part t xs ox).run P w=.ok (.agg (xs.extract ox (ox+s))) w:=by
 unfold part isAgg
 have:=Ez hs w
 simp only[Sem.run_bind,run_underlying f,Result.andThen_ok]
 cases d<;>simp_all[TypeDesc.isRow]
def Aba(P:Program)(w:World)(D:Nat)(step:TypeId->LA->LA->(Bool->O R)->O R):Prop :=
 ∀(r:R)(t:TypeId)(s:Nat)(x y:LA)(k:Bool->O R)(xs ys:Array Value)(ox oy:Nat),Cw P t=some s->0<s->step t x y k=some r->PRd s x (fun j=>xs[ox+j]?)->PRd s y (fun j=>ys[oy+j]?) ->
  ∃ b a a',k b=some r/\(part t xs ox).run P w=.ok a w/\(part t ys oy).run P w=.ok a' w/\(Op.equalIn D t a a').run P w=.ok b w
def QT{D:Nat}{step:TypeId->LA->LA->(Bool->O R)->O R}(hs:Aba P w D step){x y:LA}{xs ys:Array Value}{ox oy sz:Nat}(hx:PRd sz x (fun j=>xs[ox+j]?))(u:PRd sz y (fun j=>ys[oy+j]?)):
  ∀(fs:List Field){k:Bool->O R},fs.all (uv P sz)=true->KP step x y (fs.map fun f=>(f.offset,f.type)) k=some r ->
  ∃ b,k b=some r/\(Op.eqFields D (xs.extract ox (ox+sz)) (ys.extract oy (oy+sz)) fs).run P w=.ok b w
|[],k,_,q=>⟨true,by simpa[KP]using q,by simp[Op.eqFields]⟩
| f::fs,k,t,q=>by
  rw[Au5,Auh]at t
  obtain⟨n,t⟩:=t
  unfold uv at n
  cases d:Cw P f.type with
  |none=>rw[d]at n;simp at n
  |some s =>
   rw[d]at n
   simp only[Auh,Azh]at n
   obtain⟨M,v,z⟩:=n
   have l : f.name≠"_" := by simpa using z
   rw[Auq,KP]at q
   obtain⟨b,a,S,A,C,F,G⟩:=hs r f.type s _ _ _ (xs.extract ox (ox+sz)) (ys.extract oy (oy+sz)) f.offset f.offset d (by omega) q (hx.drop v rfl) (u.drop v rfl)
   obtain⟨c,e1,I⟩:=QT hs hx u fs t A
   refine⟨b&&c,e1,?_⟩
   rw[Op.eqFields,if_pos l]
   simp only[Sem.run_bind,C,F,G,Result.andThen_ok]
   cases b with
   |false=>simp
   |true=>simpa using I
def TF{D:Nat}{step:TypeId->LA->LA->(Bool->O R)->O R}(hs:Aba P w D step){x y:LA}{xs ys:Array Value}{ox oy sz:Nat}{e:TypeId}{s:Nat}(d:Cw P e=some s)(f:0<s)(hx:PRd sz x (fun j=>xs[ox+j]?))(n:PRd sz y (fun j=>ys[oy+j]?)):
  ∀(is:List Nat){k:Bool->O R},(∀ i∈is,i*s+s<=sz)->KP step x y (is.map fun i=>(i*s,e)) k=some r ->
  ∃ b,k b=some r/\(Op.eqItems D e s (xs.extract ox (ox+sz)) (ys.extract oy (oy+sz)) is).run P w=.ok b w
|[],k,_,l=>⟨true,by simpa[KP]using l,by simp[Op.eqItems]⟩
|i::is,k,q,l=>by
  have t:=q i (by simp)
  rw[Auq,KP]at l
  obtain⟨b,a,G,u,v,z,A⟩:=hs r e s _ _ _ (xs.extract ox (ox+sz)) (ys.extract oy (oy+sz)) (i*s) (i*s) d f l (hx.drop t rfl) (n.drop t rfl)
  obtain⟨c,e1,C⟩:=TF hs d f hx n is (fun j F=>q j (by simp[F])) u
  refine⟨b&&c,e1,?_⟩
  rw[Op.eqItems]
  simp only[Sem.run_bind,v,z,A,Result.andThen_ok]
  cases b with
  |false=>simp
  |true=>simpa using C
def cC:∀(d D:Nat),d<=D->Aba P w D (mN (R:=R) P d)
|0,D,_=>fun r t s x y k xs ys ox oy hs q f=>by simp[mN]at f
| d+1,D,hD=>fun r t s x y k xs ys ox oy hs q f hx T=>by
  obtain⟨D,rfl⟩:∃ D',D=D'+1:=⟨D - 1,by omega⟩
  rw[mN]at f
  split at f
  ·rename_i kd l
   obtain⟨u,A,f⟩:=ub f
   obtain⟨a,F,f⟩:=ub f
   obtain⟨v,C,f⟩:=ub f
   obtain⟨b,G,f⟩:=ub f
   have U:u=.int kd a:=by
    unfold kF at F;split at F
    ·obtain⟨V,X⟩:=uc F;simp[Sc]at V X;subst V X;rfl
    ·simp at F
   have eb:v=.int kd b:=by
    unfold kF at G;split at G
    ·obtain⟨V,Y⟩:=uc G;simp[Sc]at V Y;subst V Y;rfl
    ·simp at G
   have px:=(hx 0 u q (by rw[<-Ave];exact A)).1 kd a U
   have py:=(T 0 v q (by rw[<-Ave];exact C)).1 kd b eb
   exact⟨_,_,_,f,DQ l rfl (by simpa using px),DQ l rfl (by simpa using py),run_equalIn_int w D t kd kd a b l⟩
  ·rename_i l
   obtain⟨u,A,f⟩:=ub f
   obtain⟨a,F,f⟩:=ub f
   obtain⟨v,C,f⟩:=ub f
   obtain⟨b,G,f⟩:=ub f
   have U:u=.bool a:=by unfold asBool at F;split at F<;>simp_all
   have eb:v=.bool b:=by unfold asBool at G;split at G<;>simp_all
   have px:=(hx 0 u q (by rw[<-Ave];exact A)).2.1 a U
   have py:=(T 0 v q (by rw[<-Ave];exact C)).2.1 b eb
   exact⟨_,_,_,f,DQ l rfl (by simpa using px),DQ l rfl (by simpa using py),run_equalIn_bool' w D t a b l⟩
  ·rename_i l
   obtain⟨u,A,f⟩:=ub f
   obtain⟨a,F,f⟩:=ub f
   obtain⟨v,C,f⟩:=ub f
   obtain⟨b,G,f⟩:=ub f
   have U:u=.str a:=by unfold kG at F;split at F<;>simp_all
   have eb:v=.str b:=by unfold kG at G;split at G<;>simp_all
   have px:=(hx 0 u q (by rw[<-Ave];exact A)).2.2 a U
   have py:=(T 0 v q (by rw[<-Ave];exact C)).2.2 b eb
   refine⟨_,_,_,f,DQ l rfl (by simpa using px),DQ l rfl (by simpa using py),?_⟩
   have:=run_equalIn_string w D t ⟨⟨a⟩⟩ ⟨⟨b⟩⟩ l
   rw[this]
   simp[ByteArray.toList_eq]
  ·rename_i fs l
   obtain⟨sz,z,f⟩:=ub f
   obtain⟨hc,M⟩:=Aa4 f
   simp only[Av0,Bool.not_eq_false']at hc
   rw[hs]at z;simp at z;subst z
   obtain⟨b,h1,h2⟩:=QT (cC d D (by omega)) hx T fs.toList hc.2 M
   refine⟨b,_,_,h1,KX l rfl hs,KX l rfl hs,?_⟩
   have hfo:P.fieldsOf t=fs:=by simp[Program.fieldsOf,l]
   rw[run_equalIn_struct w D t _ _ (by rw[hfo];exact l) hc.1,hfo]
   exact h2
  ·rename_i n e l
   obtain⟨s',I,f⟩:=ub f
   obtain⟨sz,z,f⟩:=ub f
   obtain⟨hc,M⟩:=uc f
   simp only[Auh,Azh]at hc
   rw[hs]at z;simp at z;subst z
   obtain⟨b,h1,h2⟩:=TF (cC d D (by omega)) I (by omega) hx T (List.range n) (fun i hi=>by
    have:=List.mem_range.1 hi
    have h3:(i+1)*s'<=n*s':=Au8 _ this
    rw[Azm] at h3;omega) M
   refine⟨b,_,_,h1,KX l rfl hs,KX l rfl hs,?_⟩
   cases hi:P.info? e with
   |none=>simp[Cw,hi]at I
   |some i =>
    have S:P.cellsOf e=s':=by simp[Cw,hi]at I;simp[Program.cellsOf,hi,I]
    rw[run_equalIn_array w D _ _ l hi,S]
    exact h2
  ·simp at f
def xx{c:LA}{org:Bool}{v:Value}{a:LA}{x:AV}(hx:uw x=some a)(hr:Rep J β h w x v):∃ cs:List Value,v=.agg ⟨cs⟩/\cs.length=a.length/\∀ n,PRd n a (fun j=>(⟨cs⟩:Array Value)[0+j]?):=by
 unfold uw at hx
 split at hx
 ·simp at hx;subst hx
  rw[Rep]at hr
  obtain⟨cs,y,l,C⟩:=hr
  refine⟨cs,y,l,fun n j q _ hq=>?_⟩
  rw[C6]at C
  obtain⟨u,t,d⟩:=C j q hq
  simp only[Aux]at t ⊢
  refine⟨fun k m z=>?_,fun b A=>?_,fun s hs=>?_⟩
  ·subst z;rw[RepC]at d;subst d;simpa using t
  ·subst A;rw[RepC]at d;subst d;simpa using t
  ·subst hs;rw[RepC]at d;subst d;simpa using t
 ·simp at hx;subst hx
  rw[Rep]at hr
  obtain⟨cs,y,l⟩:=hr
  rw[C4]at l
  refine⟨cs,y,l.1,fun n j q _ hq=>?_⟩
  have f:j<cs.length:=by rw[l.1];exact(Auw.1 hq).1
  have d:=l.2 j q cs[j] hq (Aug f)
  simp only[Aux]
  refine⟨fun k m z=>?_,fun b A=>?_,fun s hs=>?_⟩
  ·subst z;rw[Rep]at d;simp[f,d]
  ·subst A;rw[Rep]at d;simp[f,d]
  ·subst hs;rw[Rep]at d;simp[f,d]
 ·simp at hx
def xy{op:BinOp}{t:TypeId}{x y:AV}{k:AV->O R}{vx vy:Value}(f:tR P t op x y k=some r)(hx:Rep J β h w x vx)(F:Rep J β h w y vy)(ox oy:Operand):
  ∃ v vc,k v=some r/\(do eqGuard op t ox oy vx vy;binOp op t vx vy:Sem Value).run P w=.ok vc w/\Rep J β h w v vc:=by
 unfold tR at f
 split at f
 ·rename_i a b V X
  obtain⟨s,hs,f⟩:=ub f
  obtain⟨G,f⟩:=uc f
  simp only[Auh,Azh,Ax4]at G
  obtain⟨h1,I,M,z,Y⟩:=G
  have I:=Aus I
  have M:=Aus M
  obtain⟨cs,rfl,S,px⟩:=xx (c:=[]) (org:=false) V hx
  obtain⟨q,rfl,hl',py⟩:=xx (c:=[]) (org:=false) X F
  have T:=run_eqGuard_agg w op t ox oy ⟨cs⟩ ⟨q⟩ Y
  have whole:∀(l:List Value),l.length=s->(⟨l⟩:Array Value).extract 0 (0+s)=⟨l⟩:=by
   intro l S;subst S;simp
  have key:∀{kk:Bool->O R},mN P 8 t a b kk=some r->∃ c,kk c=some r/\(Op.equal t (.agg ⟨cs⟩) (.agg ⟨q⟩)).run P w=.ok c w:=by
   intro kk hk
   obtain⟨c,u,u',e1,A,e3,e4⟩:=cC 8 10000 (by omega) r t s a b kk ⟨cs⟩ ⟨q⟩ 0 0 hs (by omega) hk (px s) (py s)
   refine⟨c,e1,?_⟩
   have D:∃ d,P.underlying t=some d/\d.isRow=true:=by
    unfold Aio at z
    split at z
    ·rename_i fs C;exact⟨_,C,rfl⟩
    ·rename_i n e C;exact⟨_,C,rfl⟩
    ·simp at z
   obtain⟨d,C,U⟩:=D
   rw[KX C U hs,whole cs (by omega)]at A
   rw[KX C U hs,whole q (by omega)]at e3
   simp only[Result.ok.injEq,and_true]at A e3
   subst A e3
   exact e4
  split at f
  ·obtain⟨c,e1,A⟩:=key f
   refine⟨_,.bool c,e1,?_,by rw[Rep]⟩
   simp only[Sem.run_bind,T,Result.andThen_ok,binOp,A,Sem.run_pure]
  ·obtain⟨c,e1,A⟩:=key f
   refine⟨_,.bool (!c),e1,?_,by rw[Rep]⟩
   simp only[Sem.run_bind,T,Result.andThen_ok,binOp,A,Sem.run_pure]
  ·simp at f
 ·exact Aa3 f hx F ox oy
end
end Gx
namespace Gx
open Go Go.MapKept
section
variable{R:Type}{r:R}{P:Program}{J:Bool->Nat->Prop}{β:C3}{h:Az}{w:World}{g:B7}
def Aop{b:Nat}{x:Blk}{v:Value}(S:SimH J β h w)(l:Al h b=some x)(n:x.dead=false)(hr:Rep J β h w (.omap b) v):
  ∃ k ob,x.mp=true/\β b=some (k,0)/\v=Aqa x.sz k/\w.heap[k]?=some ob/\ObjIs x ob/\x.sealed=false/\x.pure=true:=by
 rw[Rep]at hr
 obtain⟨y,k,⟨d,q⟩,hr⟩:=hr
 rw[l]at d;simp at d;subst d
 rcases hr with hr|⟨s,t⟩
 ·simp[n]at hr
 ·obtain⟨u,z,D,ob,f,A,C,_⟩:=S.mblk b x l n q
  rw[s]at f;simp at f;subst f
  exact⟨k,ob,q,s,t,A,C,z,u⟩
def Amf{b:Nat}{x:Blk}{v:Value}(S:SimH J β h w)(l:Al h b=some x)(n:x.dead=false)(q:x.sz=1)(hr:Rep J β h w (.omap b) v):
  ∃ k s pos,x.mp=true/\β b=some (k,0)/\v=.pointer (some ⟨k,0,none⟩)/\w.heap[k]?=some (.stringIter ⟨⟨s⟩⟩ pos)/\x.cells=[.str s,.int .i64 (pos:Int)]/\x.sealed=false/\x.pure=true:=by
 obtain⟨k,ob,t,u,f,y,d,z,A⟩:=Aop S l n hr
 rw[q]at f
 rcases d with⟨d,_⟩|⟨_,s,pos,rfl,d⟩
 ·omega
 ·exact⟨k,s,pos,t,u,f,y,d,z,A⟩
def QU{k pos:Nat}{s:ByteArray}(d:w.heap[k]?=some (.stringIter s pos)):(getObj k).run P w=.ok (.stringIter s pos) w:=by simp[getObj,Sem.run,d]
def mP{k pos:Nat}{s:ByteArray}(ob:Obj)(d:w.heap[k]?=some (.stringIter s pos)):(setObj k ob).run P w=.ok () {w with heap:=w.heap.setIfInBounds k ob}:=by simp[setObj,Sem.run,d]
def vS{d:Nat}{t:TypeId}{x:AV}{vx:Value}{k:AV->Ip->O R}(S:SimH J β h w)(f:iS P d t x k=some r)(hx:Rep J β h w x vx):
  ∃ val ups,k val ups=some r/\(UpsFree d h ups->∃ vc w',(Instr.range t vx).run P w=.ok vc w'/\OpDone J β h w ups val vc w'):=by
 unfold iS at f
 split at f
 ·rename_i s l
  rw[Rep]at hx;subst hx
  refine⟨_,_,f,fun n=>⟨.pointer (some ⟨w.heap.size,0,none⟩),w.alloc (.stringIter ⟨⟨s⟩⟩ 0),?_,?_⟩⟩
  ·simp only[Instr.range,Sem.run_bind,run_underlying l,Result.andThen_ok,Sem.run_pure];rfl
  have A:=Step.newObj (x:={dead:=false,sealed:=false,pure:=true,taint:=false,sz:=1,cells:=[.str s,.int .i64 0],mp:=true}) (ob:=.stringIter ⟨⟨s⟩⟩ 0) S (n.nid (by simp[Bi])) rfl rfl rfl (.inr ⟨rfl,s,0,rfl,rfl⟩) rfl
  refine⟨_,_,A,?_⟩
  rw[Rep]
  exact⟨{dead:=false,sealed:=false,pure:=true,taint:=false,sz:=1,cells:=[.str s,.int .i64 0],mp:=true},w.heap.size,⟨by simp[Am,Af],rfl⟩,.inr ⟨by simp,rfl⟩⟩
 ·simp at f
def xz{d:Nat}{t:TypeId}{it:AV}{b:Bool}{vi:Value}{k:AV->Ip->O R}(S:SimH J β h w)(M:Looks g h)(v:tX g it b k=some r)(hi:Rep J β h w it vi):
  ∃ val ups,k val ups=some r/\(UpsFree d h ups->∃ vc w',(Instr.next vi b t).run P w=.ok vc w'/\OpDone J β h w ups val vc w'):=by
 unfold tX at v
 split at v
 ·rename_i T
  obtain⟨x,hx,U⟩:=ub v
  obtain⟨G,n⟩:=uc U
  simp only[Auh]at G
  obtain⟨q,y⟩:=G
  have y:=Aus y
  obtain⟨I,z⟩:=Ox M hx
  obtain⟨kk,s,pos,_,V,rfl,u,A,C,D⟩:=Amf S I z y hi
  rw[A]at n
  simp only at n
  have F:=XB u
  cases f:decide ((pos:Int)<(s.length:Int))with
  | true =>
   rw[f]at n
   have f:pos<s.length:=by have:=of_decide_eq_true f;omega
   have l:pos<(⟨⟨s⟩⟩:ByteArray).size:=f
   refine⟨_,_,n,fun _=>⟨.tuple #[.bool true,goInt pos,.int .i32 ((AU s pos).1:Nat)],{w with heap:=w.heap.setIfInBounds kk (.stringIter ⟨⟨s⟩⟩ (pos+(AU s pos).2))},?_,J,β,?_,?_⟩⟩
   ·simp[Instr.next,QU u,l,mP _ u,AU]
   ·show Step J β h w J β (Hs h T _) _
    refine Step.setObj (ob:=.stringIter ⟨⟨s⟩⟩ pos) S I z q V u (by simp[F]) (fun j X=>by simp[Axu,Ne.symm X]) (by simp) rfl rfl rfl (.inr ⟨y,s,pos+(AU s pos).2,rfl,by simp⟩) z C D rfl q
   ·rw[Rep]
    refine⟨_,rfl,?_⟩
    simp[Reps,Rep,goInt]
  | false =>
   rw[f]at n
   have f:¬ pos<s.length:=by have:=of_decide_eq_false f;omega
   have l:¬ pos<(⟨⟨s⟩⟩:ByteArray).size:=f
   refine⟨_,_,n,fun _=>⟨.tuple #[.bool false],w,?_,J,β,Step.refl S,?_⟩⟩
   ·simp[Instr.next,QU u,l]
   ·rw[Rep]
    refine⟨_,rfl,?_⟩
    simp[Reps,Rep]
 ·simp at v
end
end Gx
namespace Gx
open Go
def cD(E:Env):Prop:=∀(R:Type)(r:R)(k:AV->Ip->O R)(J:Bool->Nat->Prop)(β:C3)(h:Az)(w:World)(g:B7)(d f:Nat)(args:LA)(vs:List Value),
 SimH J β h w->Looks g h->tY E g d f args k=some r->Reps J β h w args vs ->
 ∃ val ups,k val ups=some r/\(UpsFree d h ups->Calls E.P f vs.toArray w fun e w'=>∃ vc,e=.returned vc/\OpDone J β h w ups val vc w')
section
variable{R:Type}{r:R}{P:Program}{J J':Bool->Nat->Prop}{β:C3}{h:Az}{w w':World}{g:B7}{o:Oper}{a:Act}{next:Act->World->Prop}{Q:Exit->Act->World->Prop}
def Og{vc:Value}(d:(execOp a.eval o).run P w=.ok (.value vc) w')(hn:next (a.put o.dst vc) w'):o.wp P a w next Q:=by unfold Oper.wp;rw[d];exact hn
def Aix(d:(execOp a.eval o).run P w=.ok .skip w')(hn:next (a.put o.dst undef) w'):o.wp P a w next Q:=by unfold Oper.wp;rw[d];exact hn
def OpDone.same(S:SimH J β h w){v:AV}{vc:Value}(d:Rep J β h w v vc):OpDone J β h w [] v vc w:=⟨J,β,Step.refl S,d⟩
def oN{s:Iq}(SS:SimS J β h w s a.tmps):∀(xs:List Operand),Reps J β h w (xs.map (ev s)) (xs.map a.eval)
|[]=>by simp[Reps]
|x::r=>by rw[Auq,Auq,Reps];exact⟨_,_,rfl,Cr SS x,oN SS r⟩
def CP{s:Iq}(SS:SimS J β h w s a.tmps):∀(ps:List (Nat×Operand)),RepParts J β h w (ps.map fun p=>(p.1,ev s p.2)) (ps.map fun p=>(p.1,a.eval p.2))
|[]=>by simp[RepParts]
|p::r=>by rw[Auq,Auq,RepParts];exact⟨_,_,rfl,Cr SS p.2,CP SS r⟩
def oO{s:Iq}(SS:SimS J β h w s a.tmps)(x:Option Operand):AX J β h w (x.map (ev s)) (x.map a.eval):=by
 cases x with
|none=>simp[AX]
|some x=>simp[AX];exact Cr SS x
def Reps.append:∀{c l:LA}{cs d:List Value},Reps J β h w c cs->Reps J β h w l d->Reps J β h w (c++l) (cs++d)
|[],l,cs,d,f,n=>by rw[Reps]at f;subst f;exact n
|x::r,l,cs,d,f,n=>by
  rw[Reps]at f
  obtain⟨u,us,rfl,q,s⟩:=f
  rw[Aup,Aup,Reps]
  exact⟨u,us++d,rfl,q,Reps.append s n⟩
def yH{J:Nat->Prop}:∀{c:LA}{cs:List Value},Bg c=true->Reps (fun _ _=>False) (fun _=>none) [] w c cs->RepCs J w c (fun j=>cs[j]?) 0/\cs.length=c.length:=by
 intro c cs q hr
 rw[C4]at hr
 refine⟨?_,hr.1⟩
 rw[C6]
 intro j x f
 have d:j<cs.length:=by rw[hr.1];exact(Auw.1 f).1
 refine⟨cs[j],by simp[d],?_⟩
 have l:=hr.2 j x cs[j] f (Aug d)
 have s:Bg [x]=true:=by
  clear hr l d
  induction c generalizing j with
  |nil=>simp at f
  |cons y r t =>
   have n:Bg r=true:=by unfold Bg at q;split at q<;>simp_all
   cases j with
   |zero=>simp at f;subst f;cases y<;>simp_all[Bg]
   |succ j=>exact t n j (by simpa using f)
 cases x<;>simp[Bg]at s<;>(rw[Rep]at l;rw[RepC];exact l)
def Afx{co:Bool}{v:AV}{vv:Value}(d:∀(J:Bool->Nat->Prop)(β:C3)(h:Az),Rep J β h w v vv):Rep J β h w (Aip co v) vv:=by
 unfold Aip
 split
 ·rename_i c
  cases l:Bg c with
  |false=>exact d J β h
  |true =>
   have f:=d (fun _ _=>False) (fun _=>none) []
   rw[Rep]at f
   obtain⟨cs,rfl,n⟩:=f
   obtain⟨q,s⟩:=yH (J:=J false) l n
   rw[cond_true,Rep]
   exact⟨cs,rfl,s,q⟩
 ·exact d J β h
def cE{d:Nat}:∀{l:List (Nat×Nat)}{j:Nat}{c:LA},1<=j->Bi (Hz d l j c).2 (nid d)=false
|[],_,_,_=>by simp[Hz,Bi]
| (o,sz)::l,j,c,f=>by
  rw[Hz]
  split
  ·simp only[Bi]
   rw[TB (by omega),cond_false]
   exact cE (by omega)
  ·exact cE (by omega)
def ry{d:Nat}{t:TypeId}{k:AV->Ip->O R}(S:SimH J β h w)(x:WV P g d t k=some r):
  ∃ v val ups,(∃ i,P.info? t=some i/\i.zero=some v)/\k val ups=some r/\(UpsFree d h ups->∃ vc w',(Instr.box t v).run P w=.ok vc w'/\OpDone J β h w ups val vc w'):=by
 unfold WV at x
 split at x
 ·rename_i c q
  obtain⟨F,T⟩:=uc x
  simp only[Auh]at F
  obtain⟨U,z⟩:=F
  obtain⟨v,V,X⟩:∃ v,(∃ i,P.info? t=some i/\i.zero=some v)/\iK v=.agg c:=by
   unfold xi at q
   cases hi:P.info? t with
   |none=>simp[hi]at q
   |some i =>
    cases n:i.zero with
    |none=>simp[hi,n]at q
    |some v=>simp[hi,n]at q;exact⟨v,⟨i,rfl,n⟩,q⟩
  have hr:=WZ (J:=J) (β:=β) (h:=h) (w:=w) v
  rw[X,Rep]at hr
  obtain⟨cs,rfl,hr⟩:=hr
  refine⟨_,_,_,V,T,fun G=>⟨_,_,NH,?_⟩⟩
  have hn:=G.nid (by simp[J5,Zh,Bi])
  obtain⟨β',A,hA⟩:=Yj (d:=d) (l:=U4 P t) (j:=1) S (Aui _) (by simp at U;omega) (fun i hi Y C=>G _ (by rw[J5,C];rfl) (by unfold KT;simp;omega)) hr
  have D:Al (Am (Hz d (U4 P t) 1 c).2 h) (nid d)=none:=by rw[Da _ _ _ (cE (Aui _))];exact hn
  have s:∀(j:Nat) u,cs[j]?=some u->u.oneCell'=true:=fun j u I=>by
   rw[C4]at hr
   have f:j<c.length:=by rw[<-hr.1];exact(Auw.1 I).1
   exact U6 (CO z j c[j] (Aug f)) (hr.2 j c[j] u (Aug f) I)
  rw[C4]at hA
  refine OpDone.after A (XC A.sim D rfl rfl (by simp[Value.cells,hA.1]) ⟨fun hp=>by simp at hp,fun _ j y M=>?_⟩) (T3 _ _)
  have f:j<cs.length:=by rw[hA.1];exact(Auw.1 M).1
  exact⟨cs[j],by simp[Value.cells,f],hA.2 j y _ M (Aug f),s j _ (Aug f)⟩
 ·simp at x
def vT{co:Bool}{d:Nat}{t:TypeId}{k:AV->Ip->O R}(S:SimH J β h w)(I:Looks g h)(l:iQ P g co d t k=some r):
  ∃ v val ups,(∃ i,P.info? t=some i/\i.zero=some v)/\k val ups=some r/\(UpsFree d h ups->∃ vc w',(Instr.box t v).run P w=.ok vc w'/\OpDone J β h w ups val vc w'):=by
 have zv:∀{z:AV},xi P t=some z->∃ v,(∃ i,P.info? t=some i/\i.zero=some v)/\iK v=z:=by
  intro z f
  unfold xi at f
  cases hi:P.info? t with
  |none=>simp[hi]at f
  |some i =>
   cases n:i.zero with
   |none=>simp[hi,n]at f
   |some v=>simp[hi,n]at f;exact⟨v,⟨i,rfl,n⟩,f⟩
 unfold iQ at l
 split at l
 ·rename_i U V f
  obtain⟨v,q,s⟩:=zv f
  obtain⟨sz,hs,l⟩:=ub l
  refine⟨v,_,_,q,l,fun G=>⟨_,_,NH,?_⟩⟩
  have hr:=WZ (J:=J) (β:=β) (h:=h) (w:=w) v
  rw[s,Rep]at hr;subst hr
  have u:∀ b,b=nid d+1->KT d b=true:=fun b M=>by subst M;unfold KT nid;simp
  have C:Al h (nid d+1)=none:=G _ (by simp[Bi]) (u _ rfl)
  have D:Al h (nid d)=none:=G.nid (by simp[Bi])
  have A:=Step.newNone S (d:=nid d+1) (x:=Hu sz) C rfl
  have e:([(nid d+1,some (Hu sz)),(nid d,some {dead:=false,sealed:=false,pure:=false,taint:=false,sz:=0,cells:=[.own (nid d+1) 0 0]})]:Ip)=[(nid d+1,some (Hu sz))]++[(nid d,some {dead:=false,sealed:=false,pure:=false,taint:=false,sz:=0,cells:=[.own (nid d+1) 0 0]})]:=rfl
  rw[e]
  refine OpDone.after A (XC A.sim ?_ rfl rfl (by simp[Value.cells]) ⟨fun T=>by simp at T,fun _ j y F=>?_⟩) (T3 _ _)
  ·simp only[Am];rw[Af,if_neg (by omega)];exact D
  ·cases j with
   |zero =>
    simp at F;subst F
    refine⟨.slice none 0 0,by simp[Value.cells],?_,rfl⟩
    rw[Rep]
    exact⟨Hu sz,none,0,⟨by simp[Am,Af],rfl⟩,rfl,Aui _,.inl rfl⟩
   |succ j=>simp at F
 ·rename_i z f _
  obtain⟨v,q,s⟩:=zv f
  obtain⟨val,ups,C,D⟩:=oJ S I l (vv:=v) (Afx fun J β h=>by rw[<-s];exact WZ v)
  exact⟨v,val,ups,q,C,D⟩
 ·simp at l
def yI{c x y:AV}{vc vx vy:Value}{k:AV->O R}(d:tZ c x y k=some r)(f:Rep J β h w c vc)(hx:Rep J β h w x vx)(l:Rep J β h w y vy):
  ∃ v,k v=some r/\∃ t:Bool,vc=.bool t/\Rep J β h w v (if t then vx else vy):=by
 unfold tZ at d
 split at d
 ·rename_i t a b
  rw[Rep]at f hx l
  subst f hx l
  exact⟨_,d,t,rfl,by cases t<;>simp[Rep]⟩
 ·rename_i t x _
  rw[Rep]at f;subst f
  obtain⟨n,q⟩:=uc d
  subst n
  exact⟨_,q,true,rfl,hx⟩
 ·rename_i t _ _ _
  rw[Rep]at f;subst f
  obtain⟨n,q⟩:=Aa4 d
  subst n
  exact⟨_,q,false,rfl,l⟩
 ·rename_i t _ _ _
  rw[Rep]at f;subst f
  cases t
  ·exact⟨_,d,false,rfl,l⟩
  ·exact⟨_,d,true,rfl,hx⟩
 ·simp at d
def Abb{E:Env}(hC:cD E){d:Nat}{s:Iq}{k:AV->Ip->O R}(S:SimH J β h w)(SS:SimS J β h w s a.tmps)(T:Looks g h)
  (q:rp E g d (ev s) o.op k=some r) :
  ∃ val ups,k val ups=some r/\(UpsFree d h ups->(∀ vc w',OpDone J β h w ups val vc w'->next (a.put o.dst vc) w')->o.wp E.P a w next Q):=by
 unfold rp at q
 have same:∀{v:AV}{vc:Value},k v []=some r->(execOp a.eval o).run E.P w=.ok (.value vc) w->Rep J β h w v vc ->
   ∃ val ups,k val ups=some r/\(UpsFree d h ups->(∀ vc w',OpDone J β h w ups val vc w'->next (a.put o.dst vc) w')->o.wp E.P a w next Q) :=
  fun hk U hr=>⟨_,_,hk,fun _ hn=>Og U (hn _ _ (OpDone.same S hr))⟩
 split at q
 ·rename_i x C
  exact same q (by simp[execOp,C]) (Cr SS x)
 ·rename_i x C
  exact same q (by simp[execOp,C]) (Cr SS x)
 ·rename_i c x y C
  obtain⟨v,z,A⟩:=yI q (Cr SS c) (Cr SS x) (Cr SS y)
  obtain⟨t,ht,hr⟩:=A
  refine same z (vc:=if t then a.eval x else a.eval y) ?_ hr
  cases t<;>simp[execOp,C,ht,Go.asBool]
 ·rename_i t C
  obtain⟨v,val,ups,h0,z,A⟩:∃ v val ups,(∃ i,E.P.info? t=some i/\i.zero=some v)/\k val ups=some r/\(UpsFree d h ups->∃ vc w',(Instr.box t v).run E.P w=.ok vc w'/\OpDone J β h w ups val vc w'):=by
   cases hm:Jp E.cob (d+1000000)with
   |true=>rw[hm]at q;exact ry S q
   |false=>rw[hm]at q;exact vT S T q
  refine⟨val,ups,z,fun G hn=>?_⟩
  obtain⟨vc,w',D,I⟩:=A G
  refine Og ?_ (hn vc w' I)
  rw[NH]at D
  simp only[Result.ok.injEq]at D
  obtain⟨rfl,rfl⟩:=D
  obtain⟨i,hi,hiz⟩:=h0
  simp[execOp,C,Instr.alloc,zeroValue,typeInfo,hi,hiz,newVar,newRow]
 ·rename_i t x C
  obtain⟨v',h0,hv'⟩:=vM q (Cr SS x)
  obtain⟨val,ups,z,A⟩:=oJ S T h0 hv'
  refine⟨val,ups,z,fun G hn=>?_⟩
  obtain⟨vc,w',D,I⟩:=A G
  exact Og (by simp[execOp,C,D]) (hn vc w' I)
 ·rename_i t parts C
  have:(parts.map fun p=>(p.1,a.eval p.2))=(parts.toList.map fun p=>(p.1,a.eval p.2)).toArray:=by apply Aww;simp
  cases hco:Jp E.cob (d+4000000)with
  |true =>
   rw[hco]at q
   obtain⟨val,ups,u,z,A,D⟩:=rx S T q (CP SS parts.toList)
   exact⟨val,ups,z,fun _ hn=>Og (by simp[execOp,C,this,A]) (hn _ _ D)⟩
  |false =>
  rw[hco,cond_false,cA]at q
  obtain⟨v,M,q⟩:=ub q
  obtain⟨u,z,A⟩:=vR (P:=E.P) S M (CP SS parts.toList)
  obtain⟨val,ups,D,I⟩:=Aa8 S q A
  refine⟨val,ups,D,fun G hn=>Og ?_ (hn _ _ (I G))⟩
  simp[execOp,C,this,z]
 ·rename_i t len parts C
  have:(parts.map fun p=>(p.1,a.eval p.2))=(parts.toList.map fun p=>(p.1,a.eval p.2)).toArray:=by apply Aww;simp
  obtain⟨val,ups,z,A⟩:=eU S T q (CP SS parts.toList)
  refine⟨val,ups,z,fun G hn=>?_⟩
  obtain⟨vc,w',D,I⟩:=A G
  exact Og (by simp[execOp,C,this,D]) (hn vc w' I)
 ·rename_i t p C
  obtain⟨v,vc,z,A,D⟩:=kQ S T q (Cr SS p)
  exact same z (by simp[execOp,C,A]) D
 ·rename_i t p x C
  obtain⟨val,ups,z,J',β',w',A,D,rfl⟩:=vL S T q (Cr SS p) (Cr SS x)
  exact⟨.undef,ups,z,fun _ hn=>Aix (w':=w') (by simp[execOp,C,A]) (hn undef w' ⟨J',β',D,by simp[Rep]⟩)⟩
 ·rename_i x C
  have z:=Cr SS x
  split at q
  ·rename_i c oo hx
   rw[hx]at z
   refine same q (vc:=a.eval x) ?_ z
   rw[Rep,RepC]at z
   obtain⟨ad,A,_⟩:=z
   simp[execOp,C,A]
  ·rename_i b oo hx
   rw[hx]at z
   refine same q (vc:=a.eval x) ?_ z
   rw[Rep]at z
   obtain⟨_,kk,o',_,A,_⟩:=z
   simp[execOp,C,A]
  ·simp at q
 ·rename_i op t x y t2 C
  obtain⟨v,vc,z,A,D⟩:=xy q (Cr SS x) (Cr SS y) x y
  refine same z ?_ D
  simp only[execOp,C]
  rw[Sem.run_bind,A];simp
 ·rename_i op t x C
  obtain⟨v,M,q⟩:=ub q
  obtain⟨vc,A,D⟩:=Afu (P:=E.P) M (Cr SS x)
  exact same q (by simp[execOp,C,A]) D
 ·rename_i src dst x C
  obtain⟨val,ups,z,A⟩:=xw S T q (Cr SS x)
  refine⟨val,ups,z,fun G hn=>?_⟩
  obtain⟨vc,w',D,I⟩:=A G
  exact Og (by simp[execOp,C,D]) (hn vc w' I)
 ·rename_i f first caps C
  obtain⟨G,q⟩:=uc q
  have hf':f<1000000:=by simpa using G
  have key:∀(a n:Nat),a<1000000->(a+1000000*n)%1000000=a/\(a+1000000*n)/1000000=n:=by intro a n h;omega
  have e1:=(key f first.toList.length hf').1
  have e2:=(key f first.toList.length hf').2
  refine same (vc:=.func (.func f) ⟨first.toList.map a.eval⟩ ⟨caps.toList.map a.eval⟩) q ?_ ?_
  ·simp only[execOp,C,Instr.makeFunc]
   simp
   refine⟨?_,?_⟩<;>(apply Aww;simp)
  ·rw[Rep,e1,e2]
   refine⟨(first.toList++caps.toList).map a.eval,?_,oN SS _⟩
   simp
 ·rename_i t l c C
  obtain⟨val,ups,z,A⟩:=xr S q (Cr SS l) (Cr SS c)
  refine⟨val,ups,z,fun G hn=>?_⟩
  obtain⟨vc,w',D,I⟩:=A G
  exact Og (by simp[execOp,C,D]) (hn vc w' I)
 ·rename_i t x lo hi mx C
  obtain⟨v,vc,z,A,D⟩:=vK S T q (Cr SS x) (oO SS lo) (oO SS hi) (oO SS mx)
  exact same z (by simp[execOp,C,A]) D
 ·rename_i t x f C
  obtain⟨v,vc,z,A,D⟩:=iX q (Cr SS x)
  exact same z (by simp[execOp,C,A]) D
 ·rename_i t x f C
  obtain⟨v,vc,z,A,D⟩:=vI q (Cr SS x)
  exact same z (by simp[execOp,C,A]) D
 ·rename_i t x i C
  obtain⟨v,vc,z,A,D⟩:=iW q (Cr SS x) (Cr SS i)
  exact same z (by simp[execOp,C,A]) D
 ·rename_i t x i C
  obtain⟨v,vc,z,A,D⟩:=vJ q (Cr SS x) (Cr SS i)
  exact same z (by simp[execOp,C,A]) D
 ·rename_i t x C
  obtain⟨val,ups,z,A⟩:=vS (P:=E.P) S q (Cr SS x)
  refine⟨val,ups,z,fun G hn=>?_⟩
  obtain⟨vc,w',D,I⟩:=A G
  exact Og (by simp[execOp,C,D]) (hn vc w' I)
 ·rename_i x b C
  obtain⟨val,ups,z,A⟩:=xz (P:=E.P) (d:=d) (t:=o.type) S T q (Cr SS x)
  refine⟨val,ups,z,fun G hn=>?_⟩
  obtain⟨vc,w',D,I⟩:=A G
  exact Og (by simp[execOp,C,D]) (hn vc w' I)
 ·rename_i t i C
  split at q
  ·rename_i vs ht
   obtain⟨v,M,q⟩:=ub q
   have z:=Cr SS t
   rw[ht,Rep]at z
   obtain⟨cs,A,D⟩:=z
   rw[C4]at D
   have hlt:i<cs.length:=by rw[D.1];exact(Auw.1 M).1
   refine same q (vc:=cs[i]) ?_ (D.2 i v _ M (Aug hlt))
   simp[execOp,C,Instr.extract,A,hlt]
  ·simp at q
 ·rename_i c C
  split at q
  ·rename_i V
   split at q
   ·rename_i x t z A
    obtain⟨v,M,q⟩:=ub q
    have e1:c.args=#[x]:=by apply Aww;simpa using z
    have e2:c.argTypes=#[t]:=by apply Aww;simpa using A
    obtain⟨vc,D,I⟩:=Aa5 (P:=E.P) (ty:=o.type) M (Cr SS x)
    refine same q ?_ I
    simp[execOp,C,resolve,V,e1,e2,invoke,builtin,D]
   ·simp at q
  ·rename_i V
   split at q
   ·rename_i x y t tx z A
    have e1:c.args=#[x,y]:=by apply Aww;simpa using z
    have e2:c.argTypes=#[t,tx]:=by apply Aww;simpa using A
    obtain⟨val,ups,D,I⟩:=rt (ty:=o.type) S T q (Cr SS x) (Cr SS y)
    refine⟨val,ups,D,fun G hn=>?_⟩
    obtain⟨vc,w',h5,h6⟩:=I G
    refine Og ?_ (hn vc w' h6)
    simp[execOp,C,resolve,V,e1,e2,invoke,builtin,h5]
   ·simp at q
  ·rename_i V
   split at q
   ·rename_i x y t tx z A
    have e1:c.args=#[x,y]:=by apply Aww;simpa using z
    have e2:c.argTypes=#[t,tx]:=by apply Aww;simpa using A
    obtain⟨val,ups,D,vc,w',h5,h6⟩:=xv (tx:=tx) (ty:=o.type) S T q (Cr SS x) (Cr SS y)
    refine⟨val,ups,D,fun G hn=>?_⟩
    refine Og ?_ (hn vc w' h6)
    simp[execOp,C,resolve,V,e1,e2,invoke,builtin,h5]
   ·simp at q
  ·rename_i V
   split at q
   ·rename_i x y z
    obtain⟨v,M,q⟩:=ub q
    have e1:c.args=#[x,y]:=by apply Aww;simpa using z
    have A:=Cr SS x
    have D:=Cr SS y
    unfold Ap8 at M
    split at M
    ·rename_i k1 a1 k2 a2 hx hy
     simp at M;subst M
     rw[hx,Rep]at A;rw[hy,Rep]at D
     refine same q (vc:=.int k1 (Pa a1 a2)) ?_ (by rw[Rep])
     simp[execOp,C,resolve,V,e1,invoke,builtin,A,D,Builtin.min_,Builtin.min2,Pa,cond_eq_ite]
    ·simp at M
   ·simp at q
  ·rename_i V
   split at q
   ·rename_i x y z
    obtain⟨v,M,q⟩:=ub q
    have e1:c.args=#[x,y]:=by apply Aww;simpa using z
    have A:=Cr SS x
    have D:=Cr SS y
    unfold Ap9 at M
    split at M
    ·rename_i k1 a1 k2 a2 hx hy
     simp at M;subst M
     rw[hx,Rep]at A;rw[hy,Rep]at D
     refine same q (vc:=.int k1 (mO a1 a2)) ?_ (by rw[Rep])
     simp[execOp,C,resolve,V,e1,invoke,builtin,A,D,Builtin.max_,Builtin.max2,mO,cond_eq_ite]
    ·simp at M
   ·simp at q
  ·rename_i fo V
   split at q
   ·rename_i Y caps G
    have z:=Cr SS fo
    rw[G,Rep]at z
    obtain⟨cs0,A,X⟩:=z
    cases F:vE E.P (Y%1000000)with
    |false =>
     rw[F,cond_false]at q
     cases q
    |true =>
    rw[F,cond_true]at q
    have htk:Reps J β h w (caps.take (Y/1000000)) (cs0.take (Y/1000000))/\Reps J β h w (caps.drop (Y/1000000)) (cs0.drop (Y/1000000)):=by
     rw[C4]at X
     refine⟨C4.2 ⟨by simp[X.1],fun j x u hx hu=>?_⟩,C4.2 ⟨by simp[X.1],fun j x u hx hu=>?_⟩⟩
     ·rw[Awj]at hx hu
      split at hx
      ·rename_i hj;rw[if_pos hj]at hu;exact X.2 j x u hx hu
      ·simp at hx
     ·rw[Awd]at hx hu;exact X.2 _ x u hx hu
    generalize Y%1000000=f at *
    generalize cs0.take (Y/1000000)=fs at *
    generalize cs0.drop (Y/1000000)=cs at *
    obtain⟨val,ups,I,h5⟩:=hC R r k J β h w g d f _ _ S T q (htk.1.append ((oN SS c.args.toList).append htk.2))
    refine⟨val,ups,I,fun hfr hn=>?_⟩
    have hcall:=h5 hfr
    unfold vE at F
    cases hfn:E.P.funcs[f]? with
    |none=>rw[hfn]at F;simp at F
    | some fn =>
     rw[hfn]at F
     simp at F
     obtain⟨hb1,hb2⟩:=F
     have hb3:fn.body.isNone=false:=by cases hq:fn.body<;>simp_all
     have hargs:(⟨fs⟩:Array Value)++c.args.map a.eval++(⟨cs⟩:Array Value)=(fs++(c.args.toList.map a.eval++cs)).toArray:=by apply Aww;simp
     have U:(execOp a.eval o).run E.P w=.ok (.enter f (fs++(c.args.toList.map a.eval++cs)).toArray) w:=by
      simp only[execOp,C,Sem.run_bind,resolve,V,A,Deferred.ofValue,Sem.run_pure,Result.andThen_ok,invoke,callFunc,run_program,hfn]
      simp only[hb3,hargs]
      simp[hb2]
     unfold Oper.wp
     rw[U]
     refine Calls.mono hcall ?_
     rintro e w' ⟨vc,rfl,hd⟩
     exact hn vc w' hd
   ·simp at q
  ·simp at q
 ·simp at q
end
end Gx
namespace Gx
open Go
structure Start where
 J:Bool->Nat->Prop
 β:C3
 h:Az
 w:World
structure Inv(Z:Start)(nt:Nat)(J:Bool->Nat->Prop)(β:C3)(st:St)(a:Act)(w:World):Prop where
 sim:SimH J β st.h w
 ss:SimS J β st.h w st.s a.tmps
 tmps:a.tmps.size=nt
 defers:a.defers=[]
 os:w.os=Z.w.os
 tape:w.tape=Z.w.tape
 output:w.output=Z.w.output
 size:Z.w.heap.size<=w.heap.size
 frame:∀ k,k<Z.w.heap.size->¬ xq Z.β Z.h k->w.heap[k]?=Z.w.heap[k]?
 wr:∀ k,xq β st.h k->k<Z.w.heap.size->xq Z.β Z.h k
 jsub:∀ o k,Z.J o k->J o k
 jup:∀ o k,J o k->Z.J o k\/xq Z.β Z.h k\/Z.w.heap.size<=k
 sizes:∀ k,Bn Z.w k<=Bn w k
 zlt:∀ b x0,Al Z.h b=some x0->b<200000
 zge:∀ b x0,Al Z.h b=some x0->100000<=b
 outs:∀ b x0 x,Al Z.h b=some x0->Al st.h b=some x->x.dead=false->(β b=Z.β b/\x.mp=x0.mp)/\x.sz=x0.sz/\(x0.mp=false->x.cells.length=x0.cells.length)/\x0.dead=false
section
variable{R:Type}{r:R}{Z:Start}{nt:Nat}{J J':Bool->Nat->Prop}{β β':C3}{st:St}{h':Az}{a:Act}{w w':World}{ops:Array Oper}{o:Oper}
def Rm{s:Iq}{d:Option Nat}{v:AV}{i:Nat}:Ht (Aa1 nt s d v) i=if d=some i/\i<nt then v else Ht s i:=by
 unfold Aa1
 cases d with
|none=>simp
| some d =>
  simp only[Awf]
  cases l:Nat.blt d nt with
  |true =>
   have f:d<nt:=by simpa using l
   simp only[cond_true]
   rw[Rl]
   by_cases e:i=d
   ·subst e;simp[f]
   ·rw[if_neg e,if_neg (fun n=>e n.1.symm)]
  |false =>
   have f:¬ d<nt:=by intro q;rw[show Nat.blt d nt=true by simpa using q]at l;cases l
   simp only[cond_false]
   rw[if_neg (fun n=>by obtain⟨t,u⟩:=n;subst t;exact f u)]
def SimS.put{h:Az}{s:Iq}{d:Option Nat}{v:AV}{vc:Value}(H:SimS J β h w s a.tmps)(hn:a.tmps.size=nt)(n:Rep J β h w v vc):SimS J β h w (Aa1 nt s d v) (a.put d vc).tmps:=by
 refine⟨fun i u f=>?_,fun i hi=>?_⟩
 ·rw[Rm]
  cases d with
  |none=>simp;exact H.slot i u f
  | some d =>
   simp only[Act.put]at f
   rw[Axu]at f
   by_cases e:d=i
   ·subst e
    simp only[if_true]at f
    by_cases l:d<a.tmps.size
    ·simp[l]at f;subst f
     rw[if_pos ⟨rfl,by omega⟩];exact n
    ·simp[l]at f
   ·rw[if_neg e]at f
    rw[if_neg (fun q=>e (by simpa using q.1))]
    exact H.slot i u f
 ·have hs:(a.put d vc).tmps.size=a.tmps.size:=by cases d<;>simp[Act.put]
  rw[hs]at hi
  rw[Rm,if_neg (by omega)]
  exact H.out i hi
def SimS.ext{h:Az}{s:Iq}{t:Array Value}(E:Ext J β h w J' β' h' w')(H:SimS J β h w s t):SimS J' β' h' w' s t:=⟨fun i v d=>Rep.ext E (H.slot i v d),H.out⟩
def Inv.step(I:Inv Z nt J β st a w)(A:Step J β st.h w J' β' h' w')(n:∀ b x,Al h' b=some x->Al st.h b=none->Jg<=b):Inv Z nt J' β' {s:=st.s,h:=h'} a w' where
 sim:=A.sim
 ss:=I.ss.ext A.ext
 tmps:=I.tmps
 defers:=I.defers
 os:=A.os.trans I.os
 tape:=A.tape.trans I.tape
 output:=A.output.trans I.output
 size:=Av2 I.size A.size
 frame k d f:=(A.frame k (Av3 d I.size) (fun u=>f (I.wr k u d))).trans (I.frame k d f)
 wr k f d:=I.wr k (A.wr k f (Av3 d I.size)) d
 jsub o k v:=A.ext.jsub o k (I.jsub o k v)
 jup o k v:=by
  rcases A.jup o k v with q|q|q
  ·exact I.jup o k q
  ·by_cases d:k<Z.w.heap.size
   ·exact .inr (.inl (I.wr k q d))
   ·exact .inr (.inr (by omega))
  ·exact .inr (.inr (Av2 I.size q))
 sizes k:=by
  refine Av2 (I.sizes k) ?_
  by_cases f:∃ b o,β b=some (k,o)
  ·obtain⟨b,o,l⟩:=f;exact A.ext.size b k o l
  ·by_cases d:k<w.heap.size
   ·have:=A.frame k d (fun ⟨b,x,o,_,_,_,l⟩=>f ⟨b,o,l⟩)
    simp[Bn,this]
   ·simp[Bn,Avy (Axb d)]
 outs b x0 x C hx D:=by
  cases l:Al st.h b with
  |none=>have:=n b x hx l;have:=I.zlt b x0 C;unfold Jg at *;omega
  | some y =>
   obtain⟨x',⟨z,gm⟩,t⟩:=A.ext.blk b y l
   change Al h' b=some x at hx
   rw[hx]at z;simp at z;subst z
   rcases t with t|⟨t,F,G,M⟩
   ·simp[D]at t
   ·obtain⟨⟨e1,em⟩,S,e3,e4⟩:=I.outs b x0 y C l t
    exact⟨⟨F.trans e1,gm.trans em⟩,G.trans S,fun h=>(M (em.trans h)).trans (e3 h),e4⟩
 zlt:=I.zlt
 zge:=I.zge
def Inv.put(I:Inv Z nt J β st a w){d:Option Nat}{v:AV}{vc:Value}(f:Rep J β st.h w v vc):Inv Z nt J β {s:=Aa1 nt st.s d v,h:=st.h} (a.put d vc) w where
 sim:=I.sim
 ss:=I.ss.put I.tmps f
 tmps:=by cases d<;>simp[Act.put,I.tmps]
 defers:=by cases d<;>simp[Act.put,I.defers]
 os:=I.os
 tape:=I.tape
 output:=I.output
 size:=I.size
 frame:=I.frame
 wr:=I.wr
 jsub:=I.jsub
 jup:=I.jup
 sizes:=I.sizes
 zlt:=I.zlt
 zge:=I.zge
 outs:=I.outs
def oR{d:Nat}{F:List Nat}{h:Az}:∀{ups:Ip},aD d F h ups=true->∀ b,Bi ups b=true->(KT d b=true/\Al h b=none)\/(KT d b=false/\Jp F b=true/\∃ x,Al h b=some x)
|[],_,b,l=>by simp[Bi]at l
| (i,_)::r,f,b,l=>by
  rw[aD]at f
  simp at f
  rw[Bi]at l
  cases hi:beq i b with
  | true =>
   have:i=b:=Aus hi
   subst this
   cases hn:KT d i with
   |true=>rw[hn]at f;simp at f;exact .inl ⟨rfl,f.1⟩
   |false =>
    rw[hn]at f;simp at f
    obtain⟨⟨n,q⟩,_⟩:=f
    exact .inr ⟨rfl,n,Ayd.1 q⟩
  |false=>rw[hi]at l;exact oR f.2 b (by simpa using l)
def Aiy{d b:Nat}(hn:KT d b=true):Jg<=b:=by
 unfold KT nid at hn
 simp at hn
 unfold Jg;omega
def vU{d:Nat}{F:List Nat}{h:Az}{ups:Ip}(l:aD d F h ups=true){b:Nat}{x:Blk}(hx:Al (Am ups h) b=some x)(hn:Al h b=none):Jg<=b:=by
 cases hi:Bi ups b with
|false=>rw[Da _ _ _ hi,hn]at hx;cases hx
|true =>
  rcases oR l b hi with⟨n,_⟩|⟨_,_,y,f⟩
  ·exact Aiy n
  ·rw[hn]at f;cases f
def Abc{h:Az}{F:List Nat}:Looks (fun b=>cond (Jp F b) (Al h b) none) h:=fun b x d=>by
 cases f:Jp F b with
|true=>simpa[f]using d
|false=>simp[f]at d
def rz{h:Az}{s:Iq}(H:SimS J β h w s a.tmps){t:Bool}(d:NB ops s o=some t):Region.wanted o (yielded ops a.tmps)=t:=by
 unfold NB at d
 unfold Region.wanted
 split at d
 ·rename_i f;rw[f];simpa using d
 ·rename_i j want f
  rw[f]
  simp only
  unfold yielded
  split at d
  ·rename_i t' l
   rw[l]
   simp only[Avx]
   cases q:a.tmps[t']? with
   |none =>
    have:=H.out t' (by simpa using q)
    rw[this]at d;simp at d
   | some v =>
    have hr:=H.slot t' v q
    split at d
    ·rename_i b n
     rw[n,Rep]at hr;subst hr
     simp at d;subst d
     simp
    ·rename_i n
     rw[n,Rep]at hr
     obtain⟨cs,rfl,u⟩:=hr
     rw[Reps]at u;subst u
     simp at d;subst d
     simp
    ·simp at d
  ·rename_i l
   rw[l]
   simp at d;subst d
   simp
def oS{E:Env}(hC:cD E)(I:Inv Z E.nt J β st a w){k:St->Foot->O R}(l:xm E ops o st k=some r){K:Act->World->Prop}{Q:Exit->Act->World->Prop}:
  ∃ st' f,k st' f=some r/\((∀ n w' J' β',Inv Z E.nt J' β' st' n w'->K n w')->if Region.wanted o (yielded ops a.tmps)then o.wp E.P a w K Q else K (a.put o.dst undef) w):=by
 unfold xm at l
 obtain⟨t,s,d⟩:=ub l
 rw[rz I.ss s]
 cases t with
|false =>
  refine⟨_,_,d,fun hK=>?_⟩
  simp only[Awq,if_false]
  exact hK _ _ J β (I.put (by rw[Rep];exact⟨[],rfl,by rw[Reps]⟩))
| true =>
  rw[cond_true]at d
  obtain⟨val,ups,u,v⟩:=Abb (o:=o) (next:=K) (Q:=Q) hC I.sim I.ss Abc d
  obtain⟨q,y⟩:=uc u
  refine⟨_,_,y,fun hK=>?_⟩
  simp only[if_true]
  refine v (fun b z hn=>?_) (fun vc w' C=>?_)
  ·rcases oR q b z with⟨_,g⟩|⟨g,_⟩
   ·exact g
   ·rw[hn]at g;cases g
  ·obtain⟨J',β',A,D⟩:=C
   exact hK _ _ J' β' ((I.step A (fun b x hx hn=>vU q hx hn)).put D)
def Eqv(a b:St):Prop:=(∀ t,Ht a.s t=Ht b.s t)/\(∀ b',Al a.h b'=Al b.h b')
def Eqv.refl(a:St):Eqv a a:=⟨fun _=>rfl,fun _=>rfl⟩
def Eqv.symm{a b:St}(h:Eqv a b):Eqv b a:=⟨fun t=>(h.1 t).symm,fun t=>(h.2 t).symm⟩
def Eqv.trans{a b c:St}(h:Eqv a b)(k:Eqv b c):Eqv a c:=⟨fun t=>(h.1 t).trans (k.1 t),fun t=>(h.2 t).trans (k.2 t)⟩
def Inv.eqv{nt:Nat}{J:Bool->Nat->Prop}{β:C3}{st st2:St}{a:Act}{w:World}(I:Inv Z nt J β st a w)(h:Eqv st st2):Inv Z nt J β st2 a w:=by
 have hr:∀{x v},Rep J β st.h w x v->Rep J β st2.h w x v:=fun hx=>Rep.ext ⟨fun _ _ l=>l,fun _ _ _=>rfl,fun b x d=>⟨x,⟨by rw[<-h.2 b];exact d,rfl⟩,by cases f:x.dead<;>simp⟩,fun _ _ _ _=>Aui _⟩ hx
 refine⟨⟨I.sim.jlt,I.sim.jft,I.sim.gl,fun b x d f n=>?_,fun b x d f n=>I.sim.mblk b x (by rw[h.2];exact d) f n,fun b y x x' k o o' d q=>I.sim.sep b y x x' k o o' (by rw[h.2];exact d) (by rw[h.2];exact q)⟩,⟨fun i v z=>by rw[<-h.1 i];exact hr (I.ss.slot i v z),fun i hi=>by rw[<-h.1 i];exact I.ss.out i hi⟩,I.tmps,I.defers,I.os,I.tape,I.output,I.size,I.frame,?_,I.jsub,I.jup,I.sizes,I.zlt,I.zge,fun b x0 x A hx=>I.outs b x0 x A (by rw[h.2];exact hx)⟩
 ·rcases I.sim.blk b x (by rw[h.2];exact d) f n with s|⟨k,o,cs,ty,fr,s,C,D,F,t,G⟩
  ·exact .inl s
  ·exact .inr ⟨k,o,cs,ty,fr,s,C,D,F,⟨t.1,fun M j c l=>by
    obtain⟨u,S,T,U⟩:=t.2 M j c l
    exact⟨u,S,hr T,U⟩⟩,G⟩
 ·rintro k ⟨b,x,o,d,f,hs,V⟩ X
  exact I.wr k ⟨b,x,o,by rw[h.2];exact d,f,hs,V⟩ X
def oT{st:St}{k:St->O R}(d:iT ops o st k=some r):∃ st',Eqv st st'/\k st'=some r:=by
 unfold iT at d
 split at d
 ·exact⟨st,Eqv.refl _,d⟩
 ·rename_i j want q
  split at d
  ·exact⟨st,Eqv.refl _,d⟩
  ·rename_i t u
   split at d
   ·rename_i b l
    have key:∀ c:Bool,b=c->Eqv st {s:=bW st.s t (.bool c),h:=st.h}:=by
     intro c n
     refine⟨fun i=>?_,fun _=>rfl⟩
     simp only
     rw[Rl]
     by_cases e:i=t
     ·subst e;rw[if_pos rfl,l,n]
     ·rw[if_neg e]
    cases f:(b==want)with
    |true =>
     rw[f]at d
     exact⟨_,key want (by simpa using f),d⟩
    |false =>
     rw[f]at d
     exact⟨_,key (!want) (by cases b<;>cases want<;>simp_all),d⟩
   ·exact⟨st,Eqv.refl _,d⟩
def oU{E:Env}(hC:cD E){Q:Exit->Act->World->Prop}:∀(l:List Oper){st:St}{tr:List Foot}{k:St->List Foot->O R}{a:Act}{w:World}{J:Bool->Nat->Prop}{β:C3},
  Inv Z E.nt J β st a w->oD E ops l st tr k=some r->(∀ st' n q w' J' β',Inv Z E.nt J' β' st' q w'->k st' n=some r->Q .normal q w')->wpList E.P ops Q l a w
|[],st,tr,k,a,w,J,β,I,d,hQ=>hQ st tr a w J β I d
|o::l,st,tr,k,a,w,J,β,I,d,hQ=>by
  rw[oD]at d
  obtain⟨Aee,t,d⟩:=oT d
  obtain⟨st',f,u,v⟩:=oS (K:=wpList E.P ops Q l) (Q:=Q) hC (I.eqv t) d
  have:=v (fun q w' J' β' I'=>oU hC l I' u hQ)
  rw[wpList]
  split
  ·rename_i s;rw[if_pos s]at this;exact .inl this
  ·rename_i s;rw[if_neg s]at this;exact this
end
end Gx
namespace Gx
open Go
def Oh:∀{l:List Nat}{b:Nat},Jp l b=true↔b∈l
  |[],b=>by simp[Jp]
  | i::r,b=>by
    rw[Jp]
    cases hi:beq i b with
    |true=>have:=Aus hi;subst this;simp
    | false => have := BK hi; simp only [cond_false, Aum]; rw [Oh]; constructor
               · exact fun h=>.inr h
               · rintro(h | h)
                 · exact absurd h.symm this
                 · exact h
def W8:∀{l:List Nat},SX l=true->l.Nodup
|[],_=>Ay1
|i::r,h=>by
  rw[SX]at h;simp at h
  refine Avs.2 ⟨fun d=>?_,W8 h.2⟩
  rw[Oh.2 d]at h;simp at h
def iY{g:B7}{ids:List Nat}:∀{l:List Nat},oF g ids l=true->∀ b∈l,∀ x,K6 g b=some x->b∈ids
|[],_,b,d,_,_=>by simp at d
| i::r,h,b,d,x,hx=>by
  rw[oF]at h;simp at h
  rcases Aum.1 d with e|d
  ·subst e
   rcases h.1 with f|f
   ·exact Oh.1 f
   ·rw[hx]at f;simp at f
  ·exact iY h.2 b d x hx
def yJ:∀{l:List Nat},Aea l=true->∀ b∈l,Jg<=b->Of b<100000
|[],_,b,d,_=>by simp at d
| i::r,h,b,d,hn=>by
  rw[Aea]at h;simp at h
  rcases Aum.1 d with e|d
  ·subst e
   have:ble Jg b=true:=by simpa using hn
   rw[this]at h;simpa using h.1
  ·exact yJ h.2 b d hn
def EK(g:B7):∀ c:LA,(M8 g c).length=c.length
|[]=>rfl
|x::r=>by rw[M8,Aub,Aub,EK g r]
section
variable{R:Type}{r:R}{Z:Start}{nt:Nat}{J J':Bool->Nat->Prop}{β β':C3}{st:St}{h h':Az}{a:Act}{w w':World}{ids:List Nat}
def Qa(g:B7)(x:Blk):Blk:={x with cells:=cond x.pure x.cells (M8 g x.cells)}
def cF{g:B7}:∀{ids:List Nat},(ids.map Of).Nodup->∀ c y,Al (EG g ids) c=some y->∃ b x,b∈ids/\Of b=c/\K6 g b=some x/\y=Qa g x
|[],_,c,y,d=>by simp[EG,Al]at d
| b::r,hn,c,y,d=>by
  rw[Auq,Avs]at hn
  rw[EG]at d
  split at d
  ·rename_i x hx
   rw[Af]at d
   by_cases e:c=Of b
   ·rw[if_pos e]at d;simp at d
    exact⟨b,x,by simp,e.symm,hx,d.symm⟩
   ·rw[if_neg e]at d
    obtain⟨f,x',l,n,q,s⟩:=cF hn.2 c y d
    exact⟨f,x',by simp[l],n,q,s⟩
  ·obtain⟨f,x',l,n,q,s⟩:=cF hn.2 c y d
   exact⟨f,x',by simp[l],n,q,s⟩
def EL{g:B7}:∀{ids:List Nat},(ids.map Of).Nodup->∀ b x,b∈ids->K6 g b=some x->Al (EG g ids) (Of b)=some (Qa g x)
|[],_,b,x,d,_=>by simp at d
| l::r,hn,b,x,d,hx=>by
  rw[Auq,Avs]at hn
  rw[EG]
  by_cases e:b=l
  ·subst e
   rw[hx]
   simp only
   rw[Af,if_pos rfl];rfl
  ·have f:b∈r:=by simpa[e]using d
   have ne:Of b≠Of l:=fun h=>hn.1 (by rw[<-h];exact Auy.2 ⟨b,f,rfl⟩)
   split
   ·rw[Af,if_neg ne];exact EL hn.2 b x f hx
   ·exact EL hn.2 b x f hx
def oV(ids:List Nat)(c:Nat):Option Nat:=ids.find? fun b=>beq (Of b) c
def Oy(hn:(ids.map Of).Nodup){b:Nat}(d:b∈ids):oV ids (Of b)=some b:=by
 induction ids with
|nil=>simp at d
| cons i r f =>
  rw[Auq,Avs]at hn
  unfold oV at f ⊢
  rw[List.find?_cons]
  by_cases e:b=i
  ·subst e;simp
  ·have l:b∈r:=by simpa[e]using d
   have ne:Of i≠Of b:=fun h=>hn.1 (by rw[h];exact Auy.2 ⟨b,l,rfl⟩)
   rw[TB ne];exact f hn.2 l
def An6(g:B7)(ids:List Nat)(l:List Nat):Prop:=∀ b∈l,∀ x,K6 g b=some x->b∈ids
def Afy{b:Nat}:K6 (Al h) b=(Al h b).bind fun x=>cond x.dead none (some x):=rfl
def cG{b:Nat}{x y:Blk}(hx:Al h b=some x)(d:K6 (Al h) b=some y):y=x/\x.dead=false:=by
 rw[Afy,hx]at d
 cases f:x.dead with
|true=>simp[f]at d
|false=>simp[f]at d;exact⟨d.symm,rfl⟩
mutual
def Rep.clean(hn:(ids.map Of).Nodup):∀{x:AV}{v:Value},An6 (Al h) ids (Ir x)->Rep J β h w x v ->
  Rep J (fun c=>(oV ids c).bind β) (EG (Al h) ids) w (EF (Al h) x) v
| .own b off n,v,hm,hr=>by
  rw[Rep]at hr
  obtain⟨x,A,cap,⟨hx,hmp⟩,h1,h2,h3⟩:=hr
  rw[EF]
  cases hv:K6 (Al h) b with
  |none=>simp only;rw[Rep];trivial
  | some y =>
   obtain⟨rfl,hd⟩:=cG hx hv
   have hb:=hm b (by simp[Ir]) _ hv
   simp only
   rw[Rep]
   refine⟨Qa (Al h) y,A,cap,⟨EL hn b y hb hv,hmp⟩,h1,h2,?_⟩
   rcases h3 with h3|⟨k,o,h4,h5⟩
   ·exact .inl h3
   ·refine .inr ⟨k,o,h4,?_⟩
    rcases h5 with h5|⟨h5,h6,h7⟩
    ·simp[hd]at h5
    ·refine .inr ⟨by rw[Oy hn hb];exact h5,h6,?_⟩
     have:(Qa (Al h) y).cells.length=y.cells.length:=by
      unfold Qa;cases y.pure
      ·simp;exact EK _ _
      ·rfl
     rw[this];exact h7
| .optr b off,v,hm,hr=>by
  rw[Rep]at hr
  obtain⟨x,k,o,⟨hx,hmp⟩,h1,h2⟩:=hr
  rw[EF]
  cases hv:K6 (Al h) b with
  |none=>simp only;rw[Rep];trivial
  |some y =>
   obtain⟨rfl,hd⟩:=cG hx hv
   have hb:=hm b (by simp[Ir]) _ hv
   simp only
   rw[Rep]
   refine⟨Qa (Al h) y,k,o,⟨EL hn b y hb hv,hmp⟩,h1,?_⟩
   rcases h2 with h2|h2
   ·simp[hd]at h2
   ·exact .inr (by rw[Oy hn hb];exact h2)
| .omap b,v,hm,hr=>by
  rw[Rep]at hr
  obtain⟨x,k,⟨hx,hmp⟩,h2⟩:=hr
  rw[EF]
  cases hv:K6 (Al h) b with
  |none=>simp only;rw[Rep];trivial
  |some y =>
   obtain⟨rfl,hd⟩:=cG hx hv
   have hb:=hm b (by simp[Ir]) _ hv
   simp only
   rw[Rep]
   refine⟨Qa (Al h) y,k,⟨EL hn b y hb hv,hmp⟩,?_⟩
   rcases h2 with h2|h2
   ·simp[hd]at h2
   ·exact .inr (by rw[Oy hn hb];exact h2)
|.agg c,v,hm,hr=>by
  rw[Rep]at hr
  obtain⟨cs,h1,h2⟩:=hr
  rw[EF,Rep]
  exact⟨cs,h1,Reps.clean hn (by simpa[Ir]using hm) h2⟩
|.tup c,v,hm,hr=>by
  rw[Rep]at hr
  obtain⟨cs,h1,h2⟩:=hr
  rw[EF,Rep]
  exact⟨cs,h1,Reps.clean hn (by simpa[Ir]using hm) h2⟩
|.fn f c,v,hm,hr=>by
  rw[Rep]at hr
  obtain⟨cs,h1,h2⟩:=hr
  rw[EF,Rep]
  exact⟨cs,h1,Reps.clean hn (by simpa[Ir]using hm) h2⟩
|.pagg c o,v,hm,hr=>by show Rep J _ _ w (.pagg c o) v;rw[Rep]at hr ⊢;exact hr
|.undef,v,hm,hr=>by show Rep J _ _ w .undef v;rw[Rep]at hr ⊢;exact hr
|.imm c n sz t o,v,hm,hr=>by show Rep J _ _ w (.imm c n sz t o) v;rw[Rep]at hr ⊢;exact hr
|.iptr c o,v,hm,hr=>by show Rep J _ _ w (.iptr c o) v;rw[Rep]at hr ⊢;exact hr
|.int k n,v,hm,hr=>by show Rep J _ _ w (.int k n) v;rw[Rep]at hr ⊢;exact hr
|.bool b,v,hm,hr=>by show Rep J _ _ w (.bool b) v;rw[Rep]at hr ⊢;exact hr
|.str s,v,hm,hr=>by show Rep J _ _ w (.str s) v;rw[Rep]at hr ⊢;exact hr
|.nsl,v,hm,hr=>by show Rep J _ _ w .nsl v;rw[Rep]at hr ⊢;exact hr
|.nilptr,v,hm,hr=>by show Rep J _ _ w .nilptr v;rw[Rep]at hr ⊢;exact hr
|.nilfn,v,hm,hr=>by show Rep J _ _ w .nilfn v;rw[Rep]at hr ⊢;exact hr
def Reps.clean(hn:(ids.map Of).Nodup):∀{c:List AV}{cs:List Value},An6 (Al h) ids (K8 c)->Reps J β h w c cs ->
  Reps J (fun c=>(oV ids c).bind β) (EG (Al h) ids) w (M8 (Al h) c) cs
|[],cs,hm,hr=>by rw[Reps]at hr;rw[M8,Reps];exact hr
|x::r,cs,hm,hr=>by
  rw[Reps]at hr
  obtain⟨u,us,h1,h2,h3⟩:=hr
  rw[M8,Reps]
  exact⟨u,us,h1,Rep.clean hn (fun b hb=>hm b (by simp[K8,hb])) h2,Reps.clean hn (fun b hb=>hm b (by simp[K8,hb])) h3⟩
end
def HC{g:B7}{K:List Nat}:∀{s:Iq}{i:Nat},Ht (iU g K s) i=if Jp K i=true then EF g (Ht s i)else .undef
|[],i=>by
  simp only[iU,Ht]
  show AV.undef=if Jp K i=true then AV.undef else AV.undef
  split<;>rfl
| (t,v)::r,i=>by
  rw[iU,Ht]
  cases d:Jp K t with
  | true =>
   simp only[cond_true,Ht]
   cases hi:beq t i with
   |true =>
    have:=Aus hi;subst this
    simp[d]
   |false=>simp only[cond_false];exact HC
  | false =>
   simp only[cond_false]
   rw[HC]
   cases hi:beq t i with
   |true =>
    have:=Aus hi;subst this
    simp[d]
   |false=>rfl
def oX{K:List Nat}:∀{s:Iq}{i:Nat},Jp K i=true->∀ b∈Ir (Ht s i),b∈oE K s
|[],i,_,b,d=>by simp[Ht,Ir]at d
| (t,v)::r,i,f,b,d=>by
  rw[Ht]at d
  rw[oE]
  cases hi:beq t i with
  |true =>
   have:=Aus hi;subst this
   rw[hi]at d
   rw[f];simp at d ⊢;exact .inl d
  |false =>
   rw[hi]at d
   have:=oX f b d
   cases Jp K t
   ·exact this
   ·simp;exact .inr this
def iZ{g:B7}:∀{ids:List Nat}{b:Nat}{x:Blk},b∈ids->g b=some x->x.pure=false->∀ c∈K8 x.cells,c∈Oe g ids
|[],b,x,d,_,_,_,_=>by simp at d
|i::r,b,x,d,hx,f,c,l=>by
  rw[Oe]
  by_cases e:b=i
  ·subst e;rw[hx];simp only[f,cond_false];exact Aul.2 (.inl l)
  ·exact Aul.2 (.inr (iZ (by simpa[e]using d) hx f c l))
def i6:∀{c:LA}{j:Nat}{x:AV},c[j]?=some x->∀ b∈Ir x,b∈K8 c
|[],j,x,d,_,_=>by simp at d
|y::r,j,x,d,b,f=>by
  rw[K8]
  cases j with
  |zero=>simp at d;subst d;exact Aul.2 (.inl f)
  |succ j=>exact Aul.2 (.inr (i6 (by simpa using d) b f))
def kU{g:B7}:∀{c:LA}{j:Nat}{y:AV},(M8 g c)[j]?=some y->∃ x,c[j]?=some x/\y=EF g x
|[],j,y,d=>by simp[M8]at d
|x::r,j,y,d=>by
  rw[M8]at d
  cases j with
  |zero=>simp at d;exact⟨x,by simp,d.symm⟩
  |succ j=>obtain⟨x',f,l⟩:=kU (c:=r) (j:=j) (by simpa using d);exact⟨x',by simpa using f,l⟩
def Afz{b:Nat}(d:b<Jg):Of b=b:=by
 unfold Of
 have:ble Jg b=false:=by
  cases h:ble Jg b with
  |false=>rfl
  |true=>have:=Nat.le_of_ble_eq_true h;omega
 rw[this];rfl
def yK{K roots:List Nat}{st':St}(I:Inv Z nt J β st a w)(hh:clean K roots st=some st'):∃ β',Inv Z nt J β' st' a w:=by
 unfold clean at hh
 obtain⟨hc,h1⟩:_/\_:=uc hh
 simp only[Auh]at hc
 obtain⟨c1,c2,c3,c4⟩:=hc
 generalize hids:HB (Al st.h) (EE (Al st.h) (oE K st.s++roots))=ids at *
 simp at h1
 have hn:=W8 c1
 have blk:∀ c y,Al (EG (Al st.h) ids) c=some y->∃ b x,b∈ids/\Of b=c/\Al st.h b=some x/\x.dead=false/\y=Qa (Al st.h) x:=by
  intro c y n
  obtain⟨b,x,z,A,F,G⟩:=cF hn c y n
  have hx:Al st.h b=some x/\x.dead=false:=Ox (fun _ _ h=>h) F
  exact⟨b,x,z,A,hx.1,hx.2,G⟩
 have t:∀ x:Blk,(Qa (Al st.h) x).cells.length=x.cells.length:=fun x=>by
  unfold Qa;cases x.pure
  ·simp;exact EK _ _
  ·rfl
 refine⟨fun c=>(oV ids c).bind β,?_⟩
 subst h1
 refine⟨⟨I.sim.jlt,I.sim.jft,I.sim.gl,fun c y n X hm=>?_,fun c y n X hm=>by
   obtain⟨b,x,f,rfl,hx,d,rfl⟩:=blk c y n
   obtain⟨z,A,k,ob,F,G,Y,g6⟩:=I.sim.mblk b x hx d hm
   have:(Qa (Al st.h) x).cells=x.cells:=by unfold Qa;rw[z];rfl
   exact⟨z,A,k,ob,by simp only[Oy hn f,Avx];exact F,G,by rw[ObjIs,show(Qa (Al st.h) x).sz=x.sz from rfl,this];exact Y,g6⟩,?_⟩,⟨fun i v hv=>?_,fun i hi=>?_⟩,I.tmps,I.defers,I.os,I.tape,I.output,I.size,I.frame,?_,I.jsub,I.jup,I.sizes,I.zlt,I.zge,?_⟩
 ·obtain⟨b,x,f,rfl,hx,d,rfl⟩:=blk c y n
  rcases I.sim.blk b x hx d hm with⟨z,A⟩|⟨k,o,cs,ty,fr,z,A,F,G,Y,g6,g7⟩
  ·refine .inl ⟨by simp only[Oy hn f,Avx];exact z,?_⟩
   have:=t x;rw[A]at this;simpa using this
  ·refine .inr ⟨k,o,cs,ty,fr,by simp only[Oy hn f,Avx];exact z,A,F,by rw[t];exact G,⟨fun hp=>?_,fun hp j q hj=>?_⟩,g6,g7⟩
   ·have l:x.pure=true:=hp
    have:(Qa (Al st.h) x).cells=x.cells:=by unfold Qa;rw[l];rfl
    rw[this];exact Y.1 l
   ·have l:x.pure=false:=hp
    have:(Qa (Al st.h) x).cells=M8 (Al st.h) x.cells:=by unfold Qa;rw[l];rfl
    rw[this]at hj
    obtain⟨q',hq,rfl⟩:=kU hj
    obtain⟨u,hu,hr,ho⟩:=Y.2 l j q' hq
    exact⟨u,hu,Rep.clean hn (fun M C x' D=>iY c3 M (iZ f hx l M (i6 hq M C)) x' D) hr,ho⟩
 ·intro c c' y y' k o o' n hy' X hd' hs S T
  obtain⟨b,x,f,rfl,hx,d,rfl⟩:=blk c y n
  obtain⟨M,x',C,rfl,D,U,rfl⟩:=blk c' y' hy'
  simp only[Oy hn f,Avx]at S
  simp only[Oy hn C,Avx]at T
  rw[I.sim.sep b M x x' k o o' hx D d U hs S T]
 ·rw[HC]
  split
  ·rename_i hk
   exact Rep.clean hn (fun b f x hx=>iY c2 b (oX hk b f) x hx) (I.ss.slot i v hv)
  ·rw[Rep];trivial
 ·rw[HC,I.ss.out i hi]
  split
  ·rfl
  ·rfl
 ·rintro k ⟨c,y,o,n,X,hs,S⟩ hk
  obtain⟨b,x,f,rfl,hx,d,rfl⟩:=blk c y n
  simp only[Oy hn f,Avx]at S
  exact I.wr k ⟨b,x,o,hx,d,hs,S⟩ hk
 ·intro c x0 y h0 n X
  obtain⟨b,x,f,rfl,hx,d,rfl⟩:=blk c y n
  have hlt:=I.zlt _ _ h0
  have hge:=I.zge _ _ h0
  have V:Of b=b:=by
   by_cases hnb:Jg<=b
   ·have:=yJ c4 b f hnb;omega
   ·exact Afz (by omega)
  rw[V]at h0
  obtain⟨⟨e1,em⟩,e2,e3,e4⟩:=I.outs b x0 x h0 hx d
  refine⟨⟨?_,em⟩,e2,by rw[t];exact e3,e4⟩
  simp only[Oy hn f,Avx];rw[V];exact e1
end
end Gx
namespace Gx
open Go
section
variable{R:Type}
def As{α β:Type}(b:Bool)(x y:Option α)(f:α->Option β):(cond b x y).bind f=cond b (x.bind f) (y.bind f):=by cases b<;>rfl
def CQ{R':Type}(P:Program)(t:TypeId)(c:LA)(o:Bool)(k:Bool->Option R')(f:R'->O R):(CM P t c o k).bind f=CM P t c o fun o=>(k o).bind f:=by unfold CM;simp only[As,Axq]
def W9(P:Program)(t:TypeId)(c:LA)(org:Bool)(k:AV->O R):SR P t c org k=(SR P t c org some).bind k:=by
 unfold SR
 split<;>simp[Auj,As,CQ]<;>rfl
def Abd(P:Program)(t:TypeId)(c:LA)(k:AV->O R):kH P t c k=(kH P t c some).bind k:=by
 unfold kH
 split<;>simp[Auj,As]
def kV(n:Nat)(k:AV->O R):∀(c:LA)(i:Nat),M_ n k c i=(M_ n some c i).bind k
|[],_=>rfl
|v::r,i=>by rw[M_,M_,As,kV n k r (i+1)];rfl
def kW(P:Program)(t:TypeId)(c:LA)(off:Nat)(k:AV->O R):ST P t c off k=(ST P t c off some).bind k:=by
 unfold ST
 split
 ·simp[Auj,As]
 ·simp[Auj,As]
 ·exact kV ..
 ·rfl
def NK(P:Program)(g:B7)(t:TypeId)(p:AV)(k:AV->O R):oA P g t p k=(oA P g t p some).bind k:=by
 unfold oA
 split
 ·exact W9 ..
 ·rw[Auj]
  congr 1;funext x
  rw[As,<-W9,<-kW]
 ·rfl
def QV(P:Program)(t:TypeId)(x i:AV)(k:AV->O R):W4 P t x i k=(W4 P t x i some).bind k:=by
 unfold W4
 split<;>simp[Auj,As]
def QW(P:Program)(t:TypeId)(x:AV)(f:Nat)(k:AV->O R):W5 P t x f k=(W5 P t x f some).bind k:=by
 unfold W5
 simp only[Auj,As]
 congr 1;funext p;congr 1;funext n;congr 1
 split<;>rfl
def kX(P:Program)(t:TypeId)(x:AV)(f:Nat)(k:AV->O R):iM P t x f k=(iM P t x f some).bind k:=by
 unfold iM
 rw[Auj]
 congr 1;funext p
 split
 ·exact W9 ..
 ·exact Abd ..
 ·rfl
def kY(P:Program)(t:TypeId)(x i:AV)(k:AV->O R):iN P t x i k=(iN P t x i some).bind k:=by
 unfold iN
 split
 ·simp[As]
 ·simp only[Auj,As,<-W9];rfl
 ·simp only[Auj,As,<-kW];rfl
 ·rfl
def CS{α:Type}(lo hi mx:Option AV)(n:Nat)(f:Nat->Nat->α)(k:α->O R):(CN lo hi mx n fun l h=>k (f l h))=(CN lo hi mx n fun l h=>some (f l h)).bind k:=by
 unfold CN
 simp[Auj,As]
def kZ(P:Program)(g:B7)(t:TypeId)(x:AV)(lo hi mx:Option AV)(k:AV->O R):iO P g t x lo hi mx k=(iO P g t x lo hi mx some).bind k:=by
 unfold iO
 split
 ·rw[As,<-CS];rfl
 ·rw[Auj];congr 1;funext _;exact CS lo hi mx 0 (fun _ _=>AV.nsl) k
 ·rw[Auj];congr 1;funext _;rw[As,<-CS];rfl
 ·rw[Auj];congr 1;funext _;rw[Auj];congr 1;funext _;rw[As,<-CS];rfl
 ·simp only[Auj,As];rfl
 ·rfl
def Af0(P:Program)(t:TypeId)(op:BinOp)(x y:AV)(k:AV->O R):Afr P t op x y k=(Afr P t op x y some).bind k:=by
 unfold Afr
 split
 ·split<;>simp[As]
 ·split<;>simp[As]
 ·split<;>simp[As]
 ·rfl
def pr(v:AV)(u:Ip):Option (AV×Ip):=some (v,u)
def yL(P:Program)(g:B7)(t:TypeId)(p v:AV)(k:AV->Ip->O R):iP P g t p v k=(iP P g t p v pr).bind fun q=>k q.1 q.2:=by
 unfold iP
 split
 ·simp only[Auj,As]
  congr 1;funext x;congr 1;funext n;congr 1;congr 1
  split<;>simp[As,pr]
 ·rfl
def cH(P:Program)(c:LA)(org:Bool):∀(L:List (Nat×TypeId))(d:LA)(k:LA->O R),eK P c org L d k=(eK P c org L d some).bind k
|[],d,k=>rfl
|(off,t)::L,d,k=>by
  rw[eK,eK,As]
  congr 1
  rw[W9,W9 (k:=fun v=>eK P c org L (d++[v]) some),Auj]
  congr 1;funext v
  exact cH P c org L _ k
def k8(P:Program)(co:Bool)(t:TypeId)(v:AV)(k:AV->O R):iR P co t v k=(iR P co t v some).bind k:=by
 unfold iR
 split
 ·rename_i c org
  rw[cH,cH (k:=fun l=>cond (beq c.length l.length) (some (AV.agg l)) none),Auj]
  congr 1;funext l
  rw[As];rfl
 ·rfl
def t_(P:Program)(g:B7)(d:Nat)(t:TypeId)(v:AV)(k:AV->Ip->O R):xj P g d t v k=(xj P g d t v pr).bind fun q=>k q.1 q.2:=by
 unfold xj
 split<;>simp[Auj,As,pr]
def i7(P:Program)(g:B7)(d:Nat)(t:TypeId)(len:Nat)(ps:List (Nat×AV))(k:AV->Ip->O R):Up P g d t len ps k=(Up P g d t len ps pr).bind fun q=>k q.1 q.2:=by
 unfold Up
 split<;>simp[Auj,As,pr,Zl]
def vV(P:Program)(g:B7)(t:TypeId)(ps:List (Nat×AV))(k:AV->Ip->O R):WU P g t ps k=(WU P g t ps pr).bind fun q=>k q.1 q.2:=by
 unfold WU
 simp[Auj,pr,Zl]
def Af1(P:Program)(t:TypeId)(co:Bool)(d:Nat)(v:AV)(k:AV->Ip->O R):Aft P t co d v k=(Aft P t co d v pr).bind fun q=>k q.1 q.2:=by
 unfold Aft
 split<;>simp[As,pr]
def Abe(P:Program)(d:Nat)(t:TypeId)(l c:AV)(k:AV->Ip->O R):tU P d t l c k=(tU P d t l c pr).bind fun q=>k q.1 q.2:=by
 unfold tU
 split<;>simp[Auj,As,pr]
def vW(P:Program)(g:B7)(d:Nat)(t tx:TypeId)(s x:AV)(k:AV->Ip->O R):WW P g d t tx s x k=(WW P g d t tx s x pr).bind fun q=>k q.1 q.2:=by
 unfold WW bX
 split<;>simp[Auj,As,pr,CQ]
def Abf(P:Program)(g:B7)(t:TypeId)(s x:AV)(k:AV->Ip->O R):tV P g t s x k=(tV P g t s x pr).bind fun q=>k q.1 q.2:=by
 unfold tV bX
 split
 ·simp only[Auj,As,CQ];rfl
 ·simp[Auj,As,pr,CQ]
 ·rfl
def vX(P:Program)(g:B7)(d:Nat)(t:TypeId)(k:AV->Ip->O R):WV P g d t k=(WV P g d t pr).bind fun q=>k q.1 q.2:=by
 unfold WV
 split<;>simp[As,pr]
def Abg(P:Program)(g:B7)(d:Nat)(src dst:TypeId)(x:AV)(k:AV->Ip->O R):tW P g d src dst x k=(tW P g d src dst x pr).bind fun q=>k q.1 q.2:=by
 unfold tW
 split
 ·split<;>simp[As,pr]
 ·split
  ·split<;>simp[pr]
  ·split
   ·split<;>simp[Auj,pr]
   ·rfl
  ·rfl
 ·split
  ·rw[As,Auj];simp only[As];rfl
  ·rfl
  ·rfl
 ·rfl
def cI{R':Type}{f:R'->O R}{s1:TypeId->LA->LA->(Bool->Option R')->Option R'}{s2:TypeId->LA->LA->(Bool->O R)->O R}(hs:∀ t x y k,(s1 t x y k).bind f=s2 t x y fun b=>(k b).bind f){x y:LA}:
  ∀(l:List (Nat×TypeId))(k:Bool->Option R'),(KP s1 x y l k).bind f=KP s2 x y l fun b=>(k b).bind f
|[],k=>rfl
|(o,t)::r,k=>by
  rw[KP,KP,hs]
  congr 1;funext b
  exact cI hs r _
def XE{R':Type}{f:R'->O R}(P:Program):∀(d:Nat)(t:TypeId)(x y:LA)(k:Bool->Option R'),(mN P d t x y k).bind f=mN P d t x y fun b=>(k b).bind f
|0,t,x,y,k=>rfl
|d+1,t,x,y,k=>by
  rw[mN,mN]
  split<;>simp only[Auj,As,Axq]
  ·congr 1;funext sz;rw[cI (XE P d)]
  ·congr 1;funext s;congr 1;funext sz;rw[cI (XE P d)]
def oY(P:Program)(t:TypeId)(op:BinOp)(x y:AV)(k:AV->O R):tR P t op x y k=(tR P t op x y some).bind k:=by
 unfold tR
 split
 ·rw[Auj]
  congr 1;funext s
  rw[As]
  congr 1
  split
  ·rw[XE];rfl
  ·rw[XE];rfl
  ·rfl
 ·exact Af0 ..
def oZ(c x y:AV)(k:AV->O R):tZ c x y k=(tZ c x y some).bind k:=by
 unfold tZ
 split<;>first|rfl|(rw[As];rfl)
def yM(P:Program)(g:B7)(co:Bool)(d:Nat)(t:TypeId)(k:AV->Ip->O R):iQ P g co d t k=(iQ P g co d t pr).bind fun q=>k q.1 q.2:=by
 unfold iQ
 split
 ·rw[Auj];rfl
 ·exact t_ ..
 ·rfl
def o0:∀(T:List (Nat×Tw))(f:Nat)(args:LA)(h:Az)(k:AV->Az->O R),eM T f args h k=(eM T f args h fun v h'=>some (v,h')).bind fun p=>k p.1 p.2
|[],f,args,h,k=>rfl
|(g,t)::r,f,args,h,k=>by
  rw[eM,eM]
  cases beq g f
  ·exact o0 r f args h k
  ·exact t.eq args h k
def Abh(E:Env)(g:B7)(d f:Nat)(args:LA)(k:AV->Ip->O R):tY E g d f args k=(tY E g d f args pr).bind fun q=>k q.1 q.2:=by
 unfold tY
 rw[Auj]
 congr 1;funext q
 simp only[As,Axq]
 congr 1
 rw[o0,o0 (R:=AV×Ip),Auj]
 congr 1;funext p
 simp only[As,Axq,pr,Avx]
def yN(P:Program)(d:Nat)(t:TypeId)(x:AV)(k:AV->Ip->O R):iS P d t x k=(iS P d t x pr).bind fun q=>k q.1 q.2:=by
 unfold iS
 split<;>rfl
def Abi(g:B7)(it:AV)(b:Bool)(k:AV->Ip->O R):tX g it b k=(tX g it b pr).bind fun q=>k q.1 q.2:=by
 unfold tX
 split
 ·rw[Auj];congr 1;funext x
  rw[As];congr 1
  split
  ·rename_i s p _
   cases decide (p<(s.length:Int))<;>rfl
  ·rfl
 ·rfl
def Af2(E:Env)(g:B7)(d:Nat)(v:Operand->AV)(o:Op)(k:AV->Ip->O R):rp E g d v o k=(rp E g d v o pr).bind fun q=>k q.1 q.2:=by
 unfold rp
 split
 ·rfl
 ·rfl
 ·rw[oZ,oZ (k:=fun r=>pr r []),Auj];rfl
 ·rw[As,<-vX,<-yM]
 ·rw[k8,k8 (k:=fun u=>xj E.P g d _ u pr),Auj];congr 1;funext u;exact t_ ..
 ·rw[As,<-vV];congr 1;rw[cA,cA,Auj];congr 1;funext x;exact Af1 ..
 ·exact i7 ..
 ·rw[NK,NK (k:=fun r=>pr r []),Auj];rfl
 ·exact yL ..
 ·split<;>rfl
 ·rw[oY,oY (k:=fun r=>pr r []),Auj];rfl
 ·rw[Auj];rfl
 ·exact Abg ..
 ·rw[As];rfl
 ·exact Abe ..
 ·rw[kZ,kZ (k:=fun r=>pr r []),Auj];rfl
 ·rw[QW,QW (k:=fun r=>pr r []),Auj];rfl
 ·rw[kX,kX (k:=fun r=>pr r []),Auj];rfl
 ·rw[QV,QV (k:=fun r=>pr r []),Auj];rfl
 ·rw[kY,kY (k:=fun r=>pr r []),Auj];rfl
 ·exact yN ..
 ·exact Abi ..
 ·split
  ·rw[Auj];rfl
  ·rfl
 ·split
  ·split
   ·rw[Auj];rfl
   ·rfl
  ·split
   ·exact vW ..
   ·rfl
  ·split
   ·exact Abf ..
   ·rfl
  ·split
   ·rw[Auj];rfl
   ·rfl
  ·split
   ·rw[Auj];rfl
   ·rfl
  ·split
   ·rw[As,<-Abh];rfl
   ·rfl
  ·rfl
 ·rfl
end
end Gx
namespace Gx
open Go
def KY:∀{l d:List Nat}{b:Nat},b∈kL l d↔b∈l\/b∈d
|[],d,b=>by simp[kL]
| i::r,d,b=>by
  rw[kL]
  cases f:Jp d i with
  | true =>
   simp only[cond_true]
   rw[KY]
   have:=Oh.1 f
   constructor
   ·rintro(h|h)
    ·exact .inl (by simp[h])
    ·exact .inr h
   ·rintro(h|h)
    ·rcases Aum.1 h with e|h
     ·subst e;exact .inr this
     ·exact .inl h
    ·exact .inr h
  | false =>
   simp only[cond_false]
   rw[KY]
   simp only[Aum]
   constructor
   ·rintro(h|h|h)
    ·exact .inl (.inr h)
    ·exact .inl (.inl h)
    ·exact .inr h
   ·rintro((h|h)|h)
    ·exact .inr (.inl h)
    ·exact .inl h
    ·exact .inr (.inr h)
def HD{g g':B7}:∀{l:List Nat},(∀ b∈l,g' b=g b)->Oe g' l=Oe g l
|[],_=>rfl
|i::r,h=>by rw[Oe,Oe,h i (by simp),HD (fun b d=>h b (by simp[d]))]
def eX{g:B7}:∀{a b:List Nat},Oe g (a++b)=Oe g a++Oe g b
|[],b=>rfl
|i::r,b=>by rw[Aup,Oe,Oe,eX,Aun]
def yO{g g':B7}{ids:List Nat}(h:∀ b∈EE g ids,g' b=g b):EE g' ids=EE g ids:=by
 have f:∀ b∈ids,g' b=g b:=fun b d=>h b (KY.2 (.inl (Aul.2 (.inl d))))
 have e1:Oe g' ids=Oe g ids:=HD f
 have n:∀ b∈Oe g ids,g' b=g b:=fun b d=>h b (KY.2 (.inl (Aul.2 (.inr (by rw[eX];exact Aul.2 (.inl d))))))
 unfold EE
 rw[e1,HD (l:=ids++Oe g ids) (fun b d=>by
  rcases Aul.1 d with d|d
  ·exact f b d
  ·exact n b d)]
section
variable{R:Type}{E:Env}{ops:Array Oper}{o p:Oper}{st Aee st2:St}
def k_{v v':Operand->AV}{parts:Array (Nat×Operand)}(h:∀ q∈parts.toList,v' q.2=v q.2):(parts.toList.map fun q=>(q.1,v' q.2))=(parts.toList.map fun q=>(q.1,v q.2)):=Aw7 (fun q hq=>by rw[h q hq])
def Abj {g:B7} {d:Nat} {v v':Operand->AV} {op:Op} {k:AV->Ip->O R} (h:∀ x ∈ op.operands.toList,v' x=v x):rp E g d v' op k=rp E g d v op k:=by
  unfold rp
  cases op
  case build t parts =>
    simp only
    rw[k_ (v:=v) (v':=v') (fun q hq=>h q.2 (by simp[Op.operands];exact⟨q.1,by simpa using hq⟩))]
  case buildSlice t n parts =>
    simp only
    rw[k_ (v:=v) (v':=v') (fun q hq=>h q.2 (by simp[Op.operands];exact⟨q.1,by simpa using hq⟩))]
  case slice t x lo hi mx =>
    simp only
    have l:v' x=v x:=h x (by simp[Op.operands])
    have u:lo.map v'=lo.map v:=by
      cases lo with
      |none=>rfl
      |some y=>simp;exact h y (by simp[Op.operands])
    have z:hi.map v'=hi.map v:=by
      cases hi with
      |none=>rfl
      |some y=>simp;exact h y (by simp[Op.operands])
    have A:mx.map v'=mx.map v:=by
      cases mx with
      |none=>rfl
      |some y=>simp;exact h y (by simp[Op.operands])
    rw[l,u,z,A]
  case makeFunc f first caps =>
    cases f<;>try rfl
    simp only
    have:(first.toList++caps.toList).map v'=(first.toList++caps.toList).map v:=Aw7 (fun x hx=>h x (by simp[Op.operands];simpa using hx))
    rw[this]
  case call c =>
    have s:∀ x ∈ c.args.toList,v' x=v x:=fun x hx=>h x (by
      simp only[Op.operands,Call.operands,Array.toList_append]
      exact Aul.2 (.inr hx))
    have C:c.args.toList.map v'=c.args.toList.map v:=Aw7 s
    simp only
    cases D:c.callee with
    | value f =>
      have F:v' f=v f:=h f (by simp[Op.operands,Call.operands,D])
      simp only[F,C]
    |invoke a b=>rfl
    | builtin b =>
      cases b<;>try rfl
      all_goals
        simp only
        split
        · first
            | (rename_i l u
               simp only[l,Aum,Auu,or_false,forall_eq_or_imp,forall_eq]at s
               simp only[s])
            | (rename_i l
               simp only[l,Aum,Auu,or_false,forall_eq_or_imp,forall_eq]at s
               simp only[s])
        all_goals first
          |rfl
          | (rename_i l
             simp only[l,Aum,Auu,or_false,forall_eq_or_imp,forall_eq]at s
             simp only[s])
  all_goals first
    |rfl
    |(simp[Op.operands]at h;simp[h])
end
end Gx
namespace Gx
open Go
section
variable{R:Type}{E:Env}{ops:Array Oper}{o p:Oper}{st Aee st2 st3:St}
def Aef(ops:Array Oper)(o:Oper):List Nat:=match WX ops o with|some p=>[p.1]|none=>[]
def JO(o:Oper)(s:Iq):LA:=o.op.operands.toList.map (ev s)
def vY(h:Az)(F:List Nat):B7:=fun b=>cond (Jp F b) (Al h b) none
def Ata(o:Oper):Nat:=o.dst.getD 50000
def Wl (E:Env) (ops:Array Oper) (o:Oper) (st:St):Option (AV×Ip×Foot) :=
  (NB ops st.s o).bind fun wanted=>cond wanted
    ((rp E (vY st.h (AW st.h o.op (JO o st.s))) (Ata o) (ev st.s) o.op pr).bind fun q =>
      cond (aD (Ata o) (AW st.h o.op (JO o st.s)) st.h q.2) (some (q.1,q.2,{ r:=Aef ops o++bZ o.op.operands.toList,w:=o.dst,f:=AW st.h o.op (JO o st.s),u:=q.2.map (·.1) })) none)
    (some (.tup [],[],{r:=Aef ops o,w:=o.dst,f:=[],u:=[]}))
def after(E:Env)(o:Oper)(st:St)(q:AV×Ip×Foot):St:={s:=Aa1 E.nt st.s o.dst q.1,h:=Am q.2.1 st.h}
def XF(k:St->Foot->O R):xm E ops o st k=(Wl E ops o st).bind fun q=>k (after E o st q) q.2.2:=by
 unfold xm Wl
 rw[Auj]
 congr 1;funext t
 rw[As]
 congr 1
 rw[Af2,Auj]
 congr 1;funext q
 rw[As]
 rfl
def o7:∀{l:List Operand}{t:Nat},Operand.tmp t∈l->t∈bZ l
|[],t,h=>by simp at h
| x::r,t,h=>by
  rcases Aum.1 h with e|h'
  ·subst e;simp[bZ]
  ·have d:=o7 h'
   cases x<;>simp[bZ]<;>first|exact .inr d|exact d
def kc{d:Nat}{F:List Nat}{h f:Az}:∀{ups:Ip},(∀ b∈ups.map (·.1),Al f b=Al h b)->aD d F f ups=aD d F h ups
|[],_=>rfl
|(b,_)::r,l=>by rw[aD,aD,l b (by simp),kc (fun c n=>l c (by simp at n ⊢;exact .inr n))]
def aJ{s s2:Iq}(h:∀ t∈Aef ops o,Ht s2 t=Ht s t):NB ops s2 o=NB ops s o:=by
 unfold NB
 cases d:o.guard with
|none=>rfl
| some q =>
  obtain⟨j,want⟩:=q
  simp only
  cases f:(ops[j]?).bind (·.dst)with
  |none=>rfl
  |some t =>
   have:Ht s2 t=Ht s t:=h t (by simp[Aef,WX,d,f])
   simp only[this]
def TG{q:AV×Ip×Foot}(A:Wl E ops o st=some q)(hr:∀ t∈q.2.2.r,Ht st2.s t=Ht st.s t)(d:∀ b,b∈q.2.2.f\/b∈q.2.2.u->Al st2.h b=Al st.h b):Wl E ops o st2=some q:=by
 have I:=A
 unfold Wl at A
 obtain⟨t,v,z⟩:=ub A
 cases t with
|false =>
  simp at z;subst z
  unfold Wl
  rw[aJ (s:=st.s) hr,v];rfl
| true =>
  rw[cond_true]at z
  obtain⟨x,hx,M⟩:=ub z
  obtain⟨S,F⟩:=uc M
  simp at F;subst F
  simp only at hr d
  have G:∀ y∈o.op.operands.toList,ev st2.s y=ev st.s y:=fun y T=>by
   cases y with
   |tmp t=>exact hr t (Aul.2 (.inr (o7 T)))
   |const _=>rfl
   |global _=>rfl
   |func _=>rfl
  have l:JO o st2.s=JO o st.s:=Aw7 G
  have hF:AW st2.h o.op (JO o st.s)=AW st.h o.op (JO o st.s):=by
   unfold AW at d ⊢
   cases C:Ad8 o.op with
   |true =>
    rw[C]at d
    cases D:Ad9 o.op with
    |true=>rfl
    |false=>rw[D]at d;exact yO (fun b n=>d b (.inl n))
   |false=>rfl
  have U:vY st2.h (AW st.h o.op (JO o st.s))=vY st.h (AW st.h o.op (JO o st.s)):=by
   funext b
   unfold vY
   cases n:Jp (AW st.h o.op (JO o st.s)) b with
   |false=>rfl
   |true=>simp only[cond_true];exact d b (.inl (Oh.1 n))
  unfold Wl
  rw[aJ (s:=st.s) (fun t v=>hr t (Aul.2 (.inl v))),v]
  simp only[Avx,cond_true]
  rw[l,hF,U,Abj G,hx]
  simp only[Avx]
  rw[kc (h:=st.h) (fun b n=>d b (.inr n)),S]
  rfl
def XG:∀{ups:Ip}{b:Nat},Bi ups b=true↔b∈ups.map (·.1)
|[],b=>by simp[Bi]
| (i,_)::r,b=>by
  rw[Bi]
  cases hi:beq i b with
  |true=>have:=Aus hi;subst this;simp
  | false =>
   have ne:=BK hi
   simp only[cond_false]
   rw[XG]
   simp only[Auq,Aum]
   constructor
   ·exact fun h=>.inr h
   ·rintro(h|h)
    ·exact absurd h.symm ne
    ·exact h
def Aeg{q:AV×Ip×Foot}(f:Wl E ops o st=some q):q.2.2.w=o.dst/\q.2.2.u=q.2.1.map (·.1):=by
 unfold Wl at f
 obtain⟨t,s,d⟩:=ub f
 cases t with
|false=>simp at d;subst d;simp
|true =>
  rw[cond_true]at d
  obtain⟨x,hx,n⟩:=ub d
  obtain⟨v,l⟩:=uc n
  simp at l;subst l;simp
def Is:∀(ups:Ip){h f:Az},(∀ b,Al f b=Al h b)->∀ b,Al (Am ups f) b=Al (Am ups h) b
|[],_,_,d,b=>d b
|(i,some x)::r,h,f,d,b=>Is r (fun c=>by rw[Af,Af,d c]) b
|(i,none)::r,h,f,d,b=>by
  rw[Am,Am]
  refine Is r (fun c=>?_) b
  rw[d i]
  split
  ·rw[Af,Af,d c]
  ·exact d c
def yP{q:AV×Ip×Foot}(h:Eqv st st2):Eqv (after E o st q) (after E o st2 q):=by
 refine⟨fun t=>?_,fun b=>?_⟩
 ·unfold after;simp only;rw[Rm,Rm,h.1 t]
 ·exact(Is q.2.1 (fun b=>(h.2 b).symm) b).symm
def U7{i:Nat}{y:Blk}:∀(ups:Ip){h:Az},Bi ups i=false->∀ b,Al (Am ups (Hs h i y)) b=if b=i then some y else Al (Am ups h) b
|[],h,_,b=>Af h i y b
| (j,some x)::r,h,hi,b=>by
  rw[Bi]at hi
  cases d:beq j i with
  |true=>rw[d]at hi;simp at hi
  | false =>
   rw[d]at hi
   have ne:=BK d
   rw[Am,Am,Is r (h:=Hs (Hs h j x) i y) (fun c=>by
    rw[Af,Af,Af,Af]
    by_cases e1:c=j
    ·subst e1;simp[ne]
    ·simp[e1]) b]
   exact U7 r hi b
| (j,none)::r,h,hi,b=>by
  rw[Bi]at hi
  cases d:beq j i with
  |true=>rw[d]at hi;simp at hi
  | false =>
   rw[d]at hi
   have ne:=BK d
   rw[Am,Am,Af,if_neg ne]
   split
   ·rename_i x hx
    rw[Is r (h:=Hs (Hs h j { x with dead:=true,pure:=true,cells:=[] }) i y) (fun c=>by
     rw[Af,Af,Af,Af]
     by_cases e1:c=j
     ·subst e1;simp[ne]
     ·simp[e1]) b]
    exact U7 r hi b
   ·exact U7 r hi b
def Yk:∀(u1 u2:Ip)(h:Az),(∀ b,Bi u1 b=true->Bi u2 b=false)->∀ b,Al (Am u2 (Am u1 h)) b=Al (Am u1 (Am u2 h)) b
|[],u2,h,_,b=>rfl
|(i,some x)::r,u2,h,d,b=>by
  rw[Am,Am]
  have hi:Bi u2 i=false:=d i (by simp[Bi])
  rw[Yk r u2 (Hs h i x) (fun c f=>d c (by rw[Bi,f];cases beq i c<;>rfl)) b]
  refine Is r (fun c=>?_) b
  rw[U7 u2 hi,Af]
| (i,none)::r,u2,h,d,b=>by
  rw[Am,Am]
  have hi:Bi u2 i=false:=d i (by simp[Bi])
  rw[Da u2 h i hi]
  split
  ·rename_i x hx
   rw[Yk r u2 _ (fun c f=>d c (by rw[Bi,f];cases beq i c<;>rfl)) b]
   refine Is r (fun c=>?_) b
   rw[U7 u2 hi,Af]
  ·exact Yk r u2 h (fun c f=>d c (by rw[Bi,f];cases beq i c<;>rfl)) b
def o8:∀{a l:List Nat},xl a l=true->∀ b∈a,b∉l
|[],l,_,b,d=>by simp at d
|i::r,l,h,b,d=>by
  rw[xl]at h;simp at h
  rcases Aum.1 d with e|d
  ·subst e;intro f;rw[Oh.2 f]at h;simp at h
  ·exact o8 h.2 b d
def o_{q:AV×Ip×Foot}{t:Nat}(h:o.dst≠some t):Ht (after E o st q).s t=Ht st.s t:=by unfold after;simp only;rw[Rm,if_neg (fun d=>h d.1)]
def oa{q:AV×Ip×Foot}{b:Nat}(h:b∉q.2.1.map (·.1)):Al (after E o st q).h b=Al st.h b:=by
 unfold after;simp only
 rw[Da]
 cases hi:Bi q.2.1 b with
|false=>rfl
|true=>exact absurd (XG.1 hi) h
def ta{w:Option Nat}{l:List Nat}(h:wIn w l=false):∀ t∈l,w≠some t:=by
 intro t d e
 subst e
 rw[wIn,Oh.2 d]at h;cases h
def Ard{l d:AV×Ip×Foot}(x:Wl E ops p st=some l)(y:Wl E ops o (after E p st l)=some d)(hi:kM l.2.2 d.2.2=true):
  Wl E ops o st=some d/\Wl E ops p (after E o st d)=some l/\Eqv (after E p (after E o st d) l) (after E o (after E p st l) d):=by
 unfold kM at hi
 simp only[Auh,Ax4]at hi
 obtain⟨⟨⟨⟨i1,i2⟩,i3⟩,i4⟩,i5⟩:=hi
 obtain⟨z,u1⟩:=Aeg x
 obtain⟨w2,u2⟩:=Aeg y
 have s:=o8 i4
 have d2:=o8 i5
 have a1:Wl E ops o st=some d:=TG y (fun t v=>(o_ (by rw[<-z];exact ta i1 t v)).symm) (fun b f=>(oa (fun q=>by
  rw[<-u1]at q
  exact s b q (by rcases f with f | f<;>simp[f]))).symm)
 have a2:Wl E ops p (after E o st d)=some l:=TG x (fun t v=>o_ (by rw[<-w2];exact ta i2 t v)) (fun b f=>oa (fun q=>by
  rw[<-u2]at q
  rcases f with f|f
  ·exact d2 b q f
  ·exact s b f (by simp[q])))
 refine⟨a1,a2,fun t=>?_,fun b=>?_⟩
 ·unfold after;simp only
  rw[Rm,Rm,Rm,Rm]
  by_cases e1:p.dst=some t/\t<E.nt
  ·by_cases n:o.dst=some t/\t<E.nt
   ·exfalso
    rw[z,w2,e1.1,n.1]at i3
    simp at i3
   ·rw[if_pos e1,if_neg n,if_pos e1]
  ·by_cases n:o.dst=some t/\t<E.nt
   ·rw[if_neg e1,if_pos n,if_pos n]
   ·rw[if_neg e1,if_neg n,if_neg n,if_neg e1]
 ·unfold after;simp only
  refine(Yk l.2.1 d.2.1 st.h (fun c A=>?_) b).symm
  cases hx:Bi d.2.1 c with
  |false=>rfl
  |true =>
   have m1:c∈l.2.2.u:=by rw[u1];exact XG.1 A
   have m2:c∈d.2.2.u:=by rw[u2];exact XG.1 hx
   exact absurd (by simp[m2]) (s c m1)
def RunF(E:Env)(ops:Array Oper)(fp:Nat->Foot):List (Nat×Oper)->St->St->Prop
|[],st,e=>Eqv st e
|(i,o)::r,st,e=>∃ q,Wl E ops o st=some q/\q.2.2=fp i/\RunF E ops fp r (after E o st q) e
def RunF.congr{fp:Nat->Foot}:∀{l:List (Nat×Oper)}{st st2 e:St},RunF E ops fp l st e->Eqv st st2->RunF E ops fp l st2 e
|[],st,st2,e,h,d=>d.symm.trans h
|(i,o)::r,st,st2,e,h,d=>by
  rw[RunF]at h ⊢
  obtain⟨q,f,n,s⟩:=h
  exact⟨q,TG f (fun t _=>(d.1 t).symm) (fun b _=>(d.2 b).symm),n,RunF.congr s (yP d)⟩
def RunF.pull{fp:Nat->Foot}{i:Nat}{o:Oper}{B:List (Nat×Oper)}:∀{A:List (Nat×Oper)}{st e:St},RunF E ops fp (A++(i,o)::B) st e->(∀ jp∈A,kM (fp jp.1) (fp i)=true) ->
  ∃ q,Wl E ops o st=some q/\q.2.2=fp i/\RunF E ops fp (A++B) (after E o st q) e
|[],st,e,h,_=>h
|(j,p)::A,st,e,h,hA=>by
  rw[Aup,RunF]at h
  obtain⟨d,s,f,t⟩:=h
  obtain⟨l,u,n,v⟩:=RunF.pull t (fun jp x=>hA jp (by simp[x]))
  have hi:kM d.2.2 l.2.2=true:=by rw[f,n];exact hA (j,p) (by simp)
  obtain⟨a1,a2,a3⟩:=Ard s u hi
  refine⟨l,a1,n,?_⟩
  rw[Aup,RunF]
  exact⟨d,a2,f,RunF.congr v a3.symm⟩
end
end Gx
