/- A part of the proof; each theorem says what it holds. -/
import GoSem.Step
import Derived.KernelRfl
import Derived.WalkKit
import Derived.Deep.MidRow
import Derived.Deep.AppendSrc
import Derived.Laws.IdiomStrings
import Derived.Deep.Upon
import Derived.Lib.Builder
import Derived.Laws.BytesString
import Derived.Lib.UnsafeStr
import Derived.Laws.Externs
import Derived.Laws.Tables
import Derived.Laws.StructEq
import Derived.ChangeKeysEq
import Derived.MapKept
set_option linter.unusedVariables false
set_option linter.defProp false
set_option linter.unusedSimpArgs false
open Nat (ble beq)
open List (take drop replicate)
open Go.IntKind (wrap)
namespace Gx
abbrev Lu:=List UInt8
def A09:=@List.length_append
def A1a:=@List.length_cons
def A1b:=@List.length_nil
def A1c:=@List.take_of_length_le
def A1d:=@Int.toNat_natCast
def A1e:=@Option.bind_assoc
def A1f:=@Bool.and_eq_true
def A1g:=@List.getElem?_eq_getElem
def A1h:=@Nat.le_refl
def A1i:=@List.length_map
def A1j:=@List.mem_cons
def A1k:=@List.mem_append
def A1l:=@List.append_assoc
def A1m:=@List.getD_eq_getElem?_getD
def A1n:=@Nat.eq_of_beq_eq_true
def A1o:=@List.cons_append
def A1p:=@List.append_nil
def A1q:=@List.getElem_mem
def A1r:=@List.map_cons
def A1s:=@List.getElem?_eq_some_iff
def A1t:=@List.getElem_of_mem
def A1u:=@List.all_eq_true
def A1v:=@List.not_mem_nil
def A1w:=@Nat.zero_add
def A1x:=@Nat.mul_one
def A1y:=@List.mem_map
def A1z:=@List.drop_zero
def A10:=@List.flatMap_cons
def A11:=@List.nil_append
def A12:=@List.all_cons
def A13:=@List.take_succ_eq_append_getElem
def A14:=@Nat.pow_succ
def A15:=@List.mem_cons_of_mem
def A16:=@Nat.mul_le_mul_right
def A17:=@List.drop_eq_getElem_cons
def A18:=@Nat.pow_le_pow_right
def A19:=@List.head?_eq_getElem?
def A2a:=@List.length_take
def A2b:=@Nat.mod_eq_of_lt
def A2c:=@Bool.true_and
def A2d:=@List.length_singleton
def A2e:=@List.take_length
def A2f:=@List.drop_succ_cons
def A2g:=@List.mem_map_of_mem
def A2h:=@Nat.min_eq_left
def A2i:=@Int.sign_eq_neg_one_of_neg
def A2j:=@List.getElem?_append
def A2k:=@Bool.or_assoc
def A2l:=@Nat.add_assoc
def A2m:=@List.nodup_cons
def A2n:=@List.flatMap_append
def A2o:=@Nat.mul_add
def A2p:=@Nat.mul_assoc
def A2q:=@List.map_append
def A2r:=@Rat.num_intCast
def A2s:=@List.mem_singleton
def A2t:=@Nat.eq_zero_or_pos
def A2u:=@List.getElem?_eq_none
def A2v:=@Bool.false_or
def A2w:=@Option.bind_some
def A2x:=@Array.getElem?_eq_none
def A2y:=@Bool.or_eq_false_iff
def A2z:=@Int.sign_eq_one_of_pos
def A20:=@Nat.add_zero
def A21:=@List.mem_cons_self
def A22:=@Nat.lt_of_lt_of_le
def A23:=@Nat.add_mul
def A24:=@List.map_nil
def A25:=@Nat.mul_comm
def A26:=@Array.ext'
def A27:=@List.getElem?_drop
def A28:=@List.getElem?_take
def A29:=@List.all_nil
def A3a:=@List.getElem?_map
def A3b:=@Array.getElem?_eq_some_iff
def A3c:=@Bool.not_false
def A3d:=@Bool.not_true
def A3e:=@List.drop_eq_nil_of_le
def A3f:=@Nat.le_trans
def A3g:=@Option.some.injEq
def A3h:=@Array.getElem?_modify
def A3i:=@Bool.and_true
def A3j:=@Bool.or_false
def A3k:=@List.take_left'
def A3l:=@Nat.lt_of_le_of_lt
def A3m:=@List.length_eq_zero_iff
def A3n:=@Nat.div_eq_of_lt
def A3o:=@Array.getD_eq_getD_getElem?
def A3p:=@List.any_cons
def A3q:=@Rat.den_intCast
def A3r:=@Bool.false_eq_true
def A3s:=@Int.natAbs_natCast
def A3t:=@Int.natCast_zero
def A3u:=@List.eq_nil_of_length_eq_zero
def A3v:=@List.take_zero
def A3w:=@List.any_eq_false
def A3x:=@List.foldl_cons
def A3y:=@List.mem_filter
def A3z:=@Nat.div_add_mod
def A30:=@Nat.mul_le_mul_left
def A31:=@Bool.or_true
def A32:=@Bool.true_or
def A33:=@List.any_nil
def A34:=@Nat.pow_add
def A35:=@Nat.zero_mul
def A36:=@Array.length_toList
def A37:=@List.map_congr_left
def A38:=@Bool.and_assoc
def A39:=@List.filter_cons
def A4a:=@List.flatMap_nil
def A4b:=@Nat.le_of_not_lt
def A4c:=@List.contains_cons
def A4d:=@List.map_map
def A4e:=@Nat.mod_lt
def A4f:=@Nat.div_le_self
def A4g:=@Eq.trans
def A4h:=@List.mem_of_mem_take
def A4i:=@List.mem_flatMap
def A4j:=@List.replicate_succ
def A4k:=@List.take_succ_cons
def A4l:=@BitVec.toNat_ofNat
def A4m:=@Nat.zero_le
def A4n:=@Bool.not_eq_true'
def A4o:=@List.getElem_cons_succ
def A4p:=@Option.map_eq_some_iff
def A4q:=@Array.getElem?_setIfInBounds_ne
def A4r:=@List.getElem_map
def A4s:=@Option.bind_none
def A4t:=@List.getLast?_append
def A4u:=@List.mem_of_getElem?
def A4v:=@Nat.pow_pos
def A4w:=@Array.getElem?_setIfInBounds
def A4x:=@Bool.or_eq_true
def A4y:=@List.dropLast_concat_getLast
def A4z:=@List.filter_eq_self
def A40:=@Nat.lt_or_ge
def A41:=@Array.getElem?_append_left
def A42:=@List.drop_left
def A43:=@List.pairwise_cons
def A44:=@Classical.byContradiction
def A45:=@Int.lt_trichotomy
def A46:=@Nat.dvd_mul_right
def A47:=@Nat.mul_left_comm
def A48:=@Array.size_setIfInBounds
def A49:=@Int.mul_ediv_cancel_left
def A5a:=@Nat.gcd_pos_of_pos_right
def A5b:=@Option.isSome_iff_exists
def A5c:=@List.append_cons
def A5d:=@List.getLast_eq_getElem
def A5e:=@List.range'_succ
def A5f:=@Nat.add_sub_cancel_left
def A5g:=@Nat.gcd_dvd_left
def A5h:=@Nat.le_mul_of_pos_right
def A5i:=@Nat.mul_lt_mul''
def A5j:=@Bool.or_comm
def A5k:=@List.getElem_cons_zero
def A5l:=@Nat.add_comm
def A5m:=@Nat.beq_eq
def A5n:=@Nat.div_div_eq_div_mul
def A5o:=@Nat.gcd_comm
def A5p:=@Nat.pow_zero
def A5q:=@Nat.le_max_left
def A5r:=@UInt8.toNat_inj
def A5s:=@Array.getElem?_toList
def A5t:=@List.set_append_right
def A5u:=@List.set_getElem_self
def A5v:=@List.take_append_drop
def A5w:=@List.getElem?_zipIdx
def A5x:=@List.mapM_cons
def A5y:=@List.mem_of_getLast?
def A5z:=@List.nodup_nil
def A50:=@List.pairwise_append
def A51:=@List.take_left
def A52:=@Nat.add_mul_div_left
def A53:=@Nat.mul_le_mul
def A54:=@Nat.mul_pos
def A55:=@Nat.one_mul
def A56:=@Nat.pow_mul
def A57:=@Int.toNat_of_nonneg
def A58:=@Nat.pow_le_pow_left
def A59:=@List.drop_nil
def A6a:=@List.map_drop
def A6b:=@Prod.mk.injEq
def A6c:=@Int.tmod_lt_of_pos
def A6d:=@List.append_of_mem
def A6e:=@List.set_cons_zero
def A6f:=@Nat.add_sub_cancel
def A6g:=@Nat.ble_eq
def A6h:=@Nat.gcd_zero_right
def A6m:=@Nat.succ_mul
def A6w:=@Nat.pow_two
end Gx
namespace Gx
open Go
inductive AV where
 | int (k:IntKind) (n:Int)
 | bool (b:Bool)
 | str (s:List UInt8)
 | nsl
 | imm (c:List AV) (len sz:Nat) (tight org:Bool)
 | iptr (c:List AV) (org:Bool)
 | pagg (c:List AV) (org:Bool)
 | own (b off len:Nat)
 | optr (b off:Nat)
 | agg (c:List AV)
 | tup (c:List AV)
 | fn (f:Nat) (caps:List AV)
 | nilptr
 | nilfn
 | undef
 | omap (b:Nat)
structure Blk where
 dead:Bool
 sealed:Bool
 pure:Bool
 taint:Bool
 sz:Nat
 cells:List AV
 mp:Bool:=false
 ty:Option (Nat×Nat):=none
abbrev LA:=List AV
abbrev O (R:Type):=Option R
abbrev A1:=List (Nat×Blk)
abbrev Ik:=List (Nat×AV)
def Ak:A1→Nat→Option Blk
 | [],_=>none
 | (i,x)::r,b=>cond (beq i b) (some x) (Ak r b)
def Gq:A1→Nat→Blk→A1
 | [],b,y=>[(b,y)]
 | (i,x)::r,b,y=>cond (beq i b) ((b,y)::r) (cond (Nat.blt b i) ((b,y)::(i,x)::r) ((i,x)::Gq r b y))
def Hs:Ik→Nat→AV
 | [],_=>.undef
 | (i,x)::r,b=>cond (beq i b) x (Hs r b)
def e_:Ik→Nat→AV→Ik
 | [],b,y=>[(b,y)]
 | (i,x)::r,b,y=>cond (beq i b) ((b,y)::r) (cond (Nat.blt b i) ((b,y)::(i,x)::r) ((i,x)::e_ r b y))
structure St where
 s:Ik
 h:A1
mutual
def jz:Value→AV
 | .int k n=>.int k n
 | .bool b=>.bool b
 | .string ⟨⟨s⟩⟩=>.str s
 | .slice none 0 0=>.nsl
 | .pointer none=>.nilptr
 | .nilFunc=>.nilfn
 | .agg ⟨cs⟩=>.agg (N3 cs)
 | _=>.undef
def N3:List Value→List AV
 | []=>[]
 | v::r=>jz v::N3 r
end
def ev (s:Ik):Operand→AV
 | .tmp t=>Hs s t
 | .const v=>jz v
 | .func f=>cond (Nat.blt f 1000000) (.fn f []) .undef
 | .global _=>.undef
def Bv (P:Program) (t:TypeId):Option Nat:=(P.info? t).map (·.size)
def xj (P:Program) (t:TypeId):Option Nat:=(P.info? t).map (·.bytes)
def Aii (P:Program) (t:TypeId):Bool:=((P.info? t).map (·.hasPointers)).getD true
def ql (P:Program) (t:TypeId):Option AV:=((P.info? t).bind (·.zero)).map jz
def A2:LA→Bool
 | []=>true
 | .int ..::r=>A2 r
 | .bool _::r=>A2 r
 | .str _::r=>A2 r
 | .nsl::r=>A2 r
 | .nilptr::r=>A2 r
 | .nilfn::r=>A2 r
 | _=>false
def dE (P:Program) (t:TypeId):Option (LA) :=
 (P.info? t).bind fun i=>(i.zero).bind fun v=>cond (A2 (N3 v.cells.toList)&&beq v.cells.toList.length i.size) (some (N3 v.cells.toList)) none
def kA (op:BinOp) (k:IntKind) (a b:Int):Option AV :=
 match op with
 | .add=>some (.int k (k.wrap (a+b)))
 | .sub=>some (.int k (k.wrap (a - b)))
 | .mul=>some (.int k (k.wrap (a*b)))
 | .and=>some (.int k (k.wrap ((BitVec.ofInt k.bits a &&& BitVec.ofInt k.bits b).toNat:Int)))
 | .or=>some (.int k (k.wrap ((BitVec.ofInt k.bits a ||| BitVec.ofInt k.bits b).toNat:Int)))
 | .xor=>some (.int k (k.wrap ((BitVec.ofInt k.bits a ^^^ BitVec.ofInt k.bits b).toNat:Int)))
 | .andNot=>some (.int k (k.wrap ((BitVec.ofInt k.bits a &&& ~~~ (BitVec.ofInt k.bits b)).toNat:Int)))
 | .eql=>some (.bool (a==b))
 | .neq=>some (.bool (a != b))
 | .lss=>some (.bool (decide (a<b)))
 | .leq=>some (.bool (decide (a≤b)))
 | .gtr=>some (.bool (decide (a>b)))
 | .geq=>some (.bool (decide (a≥b)))
 | _=>none
def P2 (k k':IntKind):Bool:=decide (k=k')
def ZA (P:Program) (t:TypeId):Bool:=match P.underlying t with | some .bool=>true | _=>false
def Akc {R:Type} (P:Program) (t:TypeId) (op:BinOp) (x y:AV) (r:AV→O R):O R :=
 match x,y with
 | .int k a,.int k' b =>
  match op with
  | .shl=>cond (decide (b<0)) none (r (.int k (k.wrap (a*2 ^ (min b.toNat k.bits)))))
  | .shr=>cond (decide (b<0)) none (r (.int k (a.fdiv (2 ^ (min b.toNat k.bits)))))
  | .quo=>cond (P2 k k') (cond (b==0) none (r (.int k (k.wrap (a.tdiv b))))) none
  | .rem=>cond (P2 k k') (cond (b==0) none (r (.int k (a.tmod b)))) none
  | op=>cond (P2 k k') ((kA op k a b).bind r) none
 | .bool a,.bool b =>
  match op with
  | .eql=>cond (ZA P t) (r (.bool (a==b))) none
  | .neq=>cond (ZA P t) (r (.bool (!(a==b)))) none
  | _=>none
 | .str a,.str b =>
  match op with
  | .add=>cond (ble (a.length+b.length) 140737488355328) (r (.str (a++b))) none
  | .eql=>r (.bool (a==b))
  | .neq=>r (.bool (!(a==b)))
  | .lss=>r (.bool (Op.bytesLess a b))
  | .leq=>r (.bool (Op.bytesLess a b||a==b))
  | .gtr=>r (.bool (!(Op.bytesLess a b||a==b)))
  | .geq=>r (.bool (!Op.bytesLess a b))
  | _=>none
 | _,_=>none
def Ax6 (op:UnOp) (x:AV):Option AV :=
 match op,x with
 | .neg,.int k n=>some (.int k (k.wrap (0 - n)))
 | .xor,.int k n=>kA .xor k (cond k.signed (-1) k.max) n
 | .not,.bool b=>some (.bool (!b))
 | _,_=>none
def dF (k:IntKind):AV→Option Int
 | .int k' n=>cond (P2 k k') (some n) none
 | _=>none
def asBool:AV→Option Bool
 | .bool b=>some b
 | _=>none
def m0:AV→Option Lu
 | .str s=>some s
 | _=>none
def Am4 (sz:Nat):AV→Option (LA×Nat)
 | .imm c len sz' _ _=>cond (beq sz sz') (some (c,len)) none
 | .nsl=>some ([],0)
 | _=>none
def Am5:AV→Option UInt8
 | .int .u8 n=>some (UInt8.ofNat n.toNat)
 | _=>none
def gM:LA→Option Lu
 | []=>some []
 | x::r=>(Am5 x).bind fun b=>(gM r).bind fun l=>some (b::l)
def LZ {R:Type} (step:TypeId→LA→LA→(Bool→O R)→O R) (x y:LA):List (Nat×TypeId)→(Bool→O R)→O R
 | [],k=>k true
 | (off,t)::r,k=>step t (x.drop off) (y.drop off) fun b=>LZ step x y r fun c=>k (b&&c)
def xk (P:Program) (sz:Nat) (f:Field):Bool:=match Bv P f.type with
 | some s => ble 1 s && (ble (f.offset + s) sz && !(f.name == "_"))
 | none=>false
def pF {R:Type} (P:Program):Nat→TypeId→LA→LA→(Bool→O R)→O R
 | 0,_,_,_,_=>none
 | d+1,t,x,y,k=>match P.underlying t with
  | some (.int kd)=>(x.head?).bind fun u=>(dF kd u).bind fun a=>(y.head?).bind fun v=>(dF kd v).bind fun b=>k (a==b)
  | some .bool=>(x.head?).bind fun u=>(asBool u).bind fun a=>(y.head?).bind fun v=>(asBool v).bind fun b=>k (a==b)
  | some .string=>(x.head?).bind fun u=>(m0 u).bind fun a=>(y.head?).bind fun v=>(m0 v).bind fun b=>k (a==b)
  | some (.struct fs)=>(Bv P t).bind fun sz=>cond (P.stoodInHeld t||!(fs.toList.all (xk P sz))) none (LZ (pF P d) x y (fs.toList.map fun f=>(f.offset,f.type)) k)
  | some (.array n e)=>(Bv P e).bind fun s=>(Bv P t).bind fun sz=>cond (ble 1 s&&ble (n*s) sz) (LZ (pF P d) x y ((List.range n).map fun i=>(i*s,e)) k) none
  | _=>none
def xl:AV→Option (LA)
 | .pagg c _=>some c
 | .agg c=>some c
 | _=>none
def Am6 (P:Program) (t:TypeId):Bool:=match P.underlying t with | some (.struct _)=>true | some (.array _ _)=>true | _=>false
def wF {R:Type} (P:Program) (t:TypeId) (op:BinOp) (x y:AV) (r:AV→O R):O R :=
 match xl x,xl y with
 | some a,some b=>(Bv P t).bind fun s=>cond (ble 1 s&&(beq a.length s&&(beq b.length s&&(Am6 P t&&!(P.eqGuardType P.depth t)))))
  (match op with
   | .eql=>pF P 8 t a b fun c=>r (.bool c)
   | .neq=>pF P 8 t a b fun c=>r (.bool (!c))
   | _=>none) none
 | _,_=>Akc P t op x y r
def DH {R:Type} (P:Program) (t:TypeId) (c:LA) (org:Bool) (k:Bool→O R):O R :=
 cond (Aii P t) (k org) (cond (!org||A2 c) (k false) none)
def UT {R:Type} (P:Program) (t:TypeId) (c:LA) (org:Bool) (k:AV→O R):O R :=
 match P.underlying t with
 | some (.int kd)=>(c.head?).bind fun x=>(dF kd x).bind fun n=>k (.int kd n)
 | some .bool=>(c.head?).bind fun x=>(asBool x).bind fun b=>k (.bool b)
 | some .string=>(c.head?).bind fun x=>(m0 x).bind fun s=>k (.str s)
 | some (.slice e)=>(Bv P e).bind fun sz=>(c.head?).bind fun x=>(Am4 sz x).bind fun p=>k (.imm p.1 p.2 sz false org)
 | some (.struct _)=>(Bv P t).bind fun n=>cond (ble n c.length) (DH P t (c.take n) org fun o=>k (.pagg (c.take n) o)) none
 | some (.array _ _)=>(Bv P t).bind fun n=>cond (ble n c.length) (DH P t (c.take n) org fun o=>k (.pagg (c.take n) o)) none
 | _=>none
def OR {R:Type} (n:Nat) (k:AV→O R):LA→Nat→O R
 | [],_=>none
 | v::r,i=>cond (beq n i) (k v) (OR n k r (i+1))
def m7 {R:Type} (P:Program) (t:TypeId) (c:LA) (k:AV→O R):O R :=
 match P.underlying t with
 | some (.struct _)=>(Bv P t).bind fun n=>cond (ble n c.length) (k (.agg (c.take n))) none
 | some (.array _ _)=>(Bv P t).bind fun n=>cond (ble n c.length) (k (.agg (c.take n))) none
 | some _=>(c.head?).bind k
 | none=>none
def UU {R:Type} (P:Program) (t:TypeId) (c:LA) (off:Nat) (k:AV→O R):O R :=
 match P.underlying t with
 | some (.struct _)=>(Bv P t).bind fun n=>cond (ble n (c.drop off).length) (k (.agg ((c.drop off).take n))) none
 | some (.array _ _)=>(Bv P t).bind fun n=>cond (ble n (c.drop off).length) (k (.agg ((c.drop off).take n))) none
 | some _=>OR off k c 0
 | none=>none
abbrev Bk:=Nat→Option Blk
def Hm (g:Bk) (b:Nat):Option Blk:=(g b).bind fun x=>cond x.dead none (some x)
def qn {R:Type} (P:Program) (g:Bk) (t:TypeId) (p:AV) (k:AV→O R):O R :=
 match p with
 | .iptr c org=>UT P t c org k
 | .optr b off=>(Hm g b).bind fun x=>cond x.pure (UT P t (x.cells.drop off) x.taint k) (UU P t x.cells off k)
 | _=>none
def Ag (i:Int) (n:Nat):Bool:=decide (0≤i)&&decide (i<(n:Int))
def Xf {R:Type} (P:Program) (t:TypeId) (x i:AV) (k:AV→O R):O R :=
 match P.underlying t,x,i with
 | some (.slice el),.imm c len sz _ org,.int _ i=>(Bv P el).bind fun sz'=>cond (beq sz sz') (cond (Ag i len) (k (.iptr (c.drop (i.toNat*sz)) org)) none) none
 | some (.slice el),.own b off len,.int _ i=>(Bv P el).bind fun sz=>cond (Ag i len) (k (.optr b (off+i.toNat*sz))) none
 | some (.array len el),.iptr c org,.int _ i=>(Bv P el).bind fun sz=>cond (Ag i len) (k (.iptr (c.drop (i.toNat*sz)) org)) none
 | some (.array len el),.optr b off,.int _ i=>(Bv P el).bind fun sz=>cond (Ag i len) (k (.optr b (off+i.toNat*sz))) none
 | _,_,_=>none
def qa (P:Program) (t:TypeId) (f:Nat):Option (Nat×TypeId) :=
 match P.underlying t with
 | some (.struct fs)=>(fs[f]?).map fun x=>(x.offset,x.type)
 | _=>none
def Xg {R:Type} (P:Program) (t:TypeId) (x:AV) (f:Nat) (k:AV→O R):O R :=
 (qa P t f).bind fun p=>(Bv P p.2).bind fun n=>cond (beq n 0) none
 (match x with
 | .iptr c org=>k (.iptr (c.drop p.1) org)
 | .optr b off=>k (.optr b (off+p.1))
 | _=>none)
def kC {R:Type} (P:Program) (t:TypeId) (x:AV) (f:Nat) (k:AV→O R):O R :=
 (qa P t f).bind fun p =>
 match x with
 | .pagg c org=>UT P p.2 (c.drop p.1) org k
 | .agg c=>m7 P p.2 (c.drop p.1) k
 | _=>none
def kD {R:Type} (P:Program) (t:TypeId) (x i:AV) (k:AV→O R):O R :=
 match P.underlying t,x,i with
 | some .string,.str s,.int _ i=>cond (Ag i s.length) (k (.int .u8 ((s.getD i.toNat 0).toNat:Int))) none
 | some (.array len el),.pagg c org,.int _ i=>(Bv P el).bind fun sz=>cond (Ag i len) (UT P el (c.drop (i.toNat*sz)) org k) none
 | some (.array len el),.agg c,.int _ i=>(Bv P el).bind fun sz=>cond (Ag i len) (UU P el c (i.toNat*sz) k) none
 | _,_,_=>none
def gN (o:Option AV) (d:Nat):Option Int:=match o with | none=>some (d:Int) | some (.int _ i)=>some i | _=>none
def DI {R:Type} (lo hi mx:Option AV) (n:Nat) (k:Nat→Nat→O R):O R :=
 (gN lo 0).bind fun l=>(gN hi n).bind fun h=>(gN mx n).bind fun m=>cond (mx.isSome&&!hi.isSome) none <|
 cond (decide (0≤l)&&(decide (l≤h)&&(decide (h≤m)&&decide (m≤(n:Int))))) (k l.toNat h.toNat) none
def Aij (tight:Bool) (hi mx:Option AV):Bool:=match hi,mx with | none,none=>tight | some (.int _ a),some (.int _ b)=>a==b | _,_=>false
def kE {R:Type} (P:Program) (g:Bk) (t:TypeId) (x:AV) (lo hi mx:Option AV) (k:AV→O R):O R :=
 match P.underlying t,x with
 | some .string,.str s=>cond mx.isSome none (DI lo hi none s.length fun l h=>k (.str ((s.drop l).take (h - l))))
 | some (.slice el),.nsl=>(Bv P el).bind fun _=>DI lo hi mx 0 fun _ _=>k .nsl
 | some (.slice el),.imm c n sz tight org=>(Bv P el).bind fun sz'=>cond (beq sz sz') (DI lo hi mx n fun l h =>
   k (.imm ((c.drop (l*sz)).take ((h - l)*sz)) (h - l) sz (Aij tight hi mx) org)) none
 | some (.slice el),.own b off n=>(Bv P el).bind fun sz=>(Hm g b).bind fun y=>cond (beq sz y.sz) (DI lo hi mx n fun l h=>k (.own b (off+l*sz) (h - l))) none
 | some (.array n el),.optr b off=>(Bv P el).bind fun _=>(Hm g b).bind fun y=>cond (beq y.sz 0&&(ble (off+n) y.cells.length&&(lo.isNone&&(hi.isNone&&mx.isNone)))) (k (.own b off n)) none
 | _,_=>none
def Atr (P:Program) (t:TypeId) (x:AV):Option AV :=
 match P.underlying t,x with
 | some (.slice _),.nsl=>some (.int .i64 0)
 | some (.slice _),.imm _ n _ _ _=>some (.int .i64 n)
 | some (.slice _),.own _ _ n=>some (.int .i64 n)
 | some .string,.str s=>some (.int .i64 s.length)
 | some (.array n _),_=>some (.int .i64 n)
 | _,_=>none
def wG (g:Bk) (sz:Nat):AV→Option (LA×Nat×Bool)
 | .nsl=>some ([],0,false)
 | .imm c n sz' _ org=>cond (beq sz sz') (some (c,n,org)) none
 | .own b off n=>(Hm g b).bind fun x=>cond (x.pure&&beq sz x.sz) (some ((x.cells.drop off).take (n*sz),n,x.taint)) none
 | .str s=>cond (beq sz 1) (some (s.map fun b=>.int .u8 (b.toNat:Int),s.length,false)) none
 | _=>none
def ek {R:Type} (P:Program) (el:TypeId) (g:Bk) (sz:Nat) (x:AV) (k:LA×Nat×Bool→O R):O R :=
 (wG g sz x).bind fun q=>DH P el q.1 q.2.2 fun o=>k (q.1,q.2.1,o)
abbrev Ez:=List (Nat×Option Blk)
def dG (g:Bk):AV→Option (AV×Ez×Bool)
 | .own b off n=>(Hm g b).bind fun x=>cond x.pure (some (.imm ((x.cells.drop off).take (n*x.sz)) n x.sz false x.taint,[(b,some { x with sealed:=true })],x.taint)) none
 | .optr .. | .agg _ | .tup _ | .undef | .fn .. | .omap _=>none
 | .imm c n sz t org=>some (.imm c n sz t org,[],org)
 | .iptr c org=>some (.iptr c org,[],org)
 | .pagg _ _=>none
 | v=>some (v,[],false)
def ER (g:Bk):LA→Option (LA×Ez×Bool)
 | []=>some ([],[],false)
 | v::r=>(dG g v).bind fun p=>(ER g r).bind fun q=>some (p.1::q.1,p.2.1++q.2.1,p.2.2||q.2.2)
def EF (g:Bk):AV→Option (LA×Ez×Bool)
 | .pagg c org=>some (c,[],org)
 | .agg c=>ER g c
 | v=>ER g [v]
def Du (c:LA) (off:Nat) (vs:LA):LA:=c.take off++vs++c.drop (off+vs.length)
def Bg:Ez→Nat→Bool
 | [],_=>false
 | (i,_)::r,b=>cond (beq i b) true (Bg r b)
def L_ (g:Bk):AV→Bool
 | .own b _ _=>(Hm g b).isSome
 | .optr b _=>(Hm g b).isSome
 | .agg _=>false
 | .pagg _ _=>false
 | .tup _=>false
 | .undef=>false
 | .omap _=>false
 | _=>true
def Qz (g:Bk):LA→Bool
 | []=>true
 | v::r=>L_ g v&&Qz g r
def setCells (c:LA) (off:Nat) (vs:LA):LA:=match vs with | [y]=>c.set off y | ys=>Du c off ys
def kF {R:Type} (P:Program) (g:Bk) (t:TypeId) (p v:AV) (k:AV→Ez→O R):O R :=
  match p with
  | .optr b off=>(Hm g b).bind fun x=>(Bv P t).bind fun n =>
    cond x.sealed none
    (cond x.pure
      ((EF g v).bind fun q=>cond (beq q.1.length n&&(ble (off+n) x.cells.length&&!Bg q.2.1 b))
        (k .undef (q.2.1++[(b,some { x with cells:=setCells x.cells off q.1,taint:=x.taint||q.2.2 })])) none)
      (match v with
        | .agg c=>cond (Qz g c&&(beq c.length n&&ble (off+n) x.cells.length)) (k .undef [(b,some { x with cells:=Du x.cells off c })]) none
        | .pagg c org=>cond (beq off 0&&(beq c.length n&&beq x.cells.length n)) (k .undef [(b,some { x with pure:=true,taint:=org,cells:=c })]) none
        | v=>cond (L_ g v&&(beq n 1&&Nat.blt off x.cells.length)) (k .undef [(b,some { x with cells:=x.cells.set off v })]) none))
  | _=>none
def I6:Nat:=1000000
def nid (d:Nat):Nat:=1000000+d*16
def xm (P:Program) (t:TypeId):Option (Nat×Nat) :=
 match P.underlying t with
 | some (.struct fs)=>(fs[0]?).bind fun f=>match P.underlying f.type with
  | some (.pointer u)=>cond (beq u t) ((Bv P t).map fun n=>(t,n)) none
  | some (.struct gs)=>(gs[0]?).bind fun g=>match P.underlying g.type with
   | some (.pointer u)=>cond (beq u f.type) ((Bv P t).map fun n=>(t,n)) none
   | _=>none
  | _=>none
 | _=>none
def Uz (d:Nat) (pure taint:Bool) (sz:Nat) (cells:LA):Ez :=
 [(nid d,some { dead:=false,sealed:=false,pure,taint,sz,cells })]
def Aav {R:Type} (P:Program) (g:Bk) (d:Nat) (t:TypeId) (v:AV) (k:AV→Ez→O R):O R :=
 match v with
 | .pagg c org=>k (.optr (nid d) 0) (Uz d true org 0 c)
 | .agg c =>
  cond (Aii P t) (cond (Qz g c&&beq c.length ((Bv P t).getD 0)) (k (.optr (nid d) 0) [(nid d,some { dead:=false,sealed:=false,pure:=false,taint:=false,sz:=0,cells:=c,ty:=xm P t })]) none)
   ((ER g c).bind fun q=>k (.optr (nid d) 0) (q.2.1++Uz d true q.2.2 0 q.1))
 | v=>cond (L_ g v) (k (.optr (nid d) 0) (Uz d false false 0 [v])) none
def Ht (sz:Nat):Blk:={ dead:=false,sealed:=false,pure:=true,taint:=false,sz,cells:=[] }
def Am7 (co:Bool) (v:AV):AV:=match co,v with
 | true,.agg c=>cond (A2 c) (.pagg c false) (.agg c)
 | _,v=>v
def kG {R:Type} (P:Program) (g:Bk) (co:Bool) (d:Nat) (t:TypeId) (k:AV→Ez→O R):O R :=
 match P.underlying t,ql P t with
 | some (.slice el),some .nsl=>(Bv P el).bind fun sz=>k (.optr (nid d) 0) [(nid d+1,some (Ht sz)),(nid d,some { dead:=false,sealed:=false,pure:=false,taint:=false,sz:=0,cells:=[.own (nid d+1) 0 0] })]
 | _,some z=>Aav P g d t (Am7 co z) k
 | _,none=>none
def R4 (place:Nat→Option (Nat×Nat)):List (Nat×LA)→LA→Option (LA)
 | [],c=>some c
 | (i,vs)::r,c=>(place i).bind fun p=>cond (beq vs.length p.2&&ble (p.1+p.2) c.length) (R4 place r (setCells c p.1 vs)) none
def m8 {R:Type} (place:Nat→Option (Nat×Nat)):List (Nat×LA)→LA→(LA→O R)→O R
 | [],c,k=>k c
 | (i,vs)::r,c,k=>(place i).bind fun p=>cond (beq vs.length p.2&&ble (p.1+p.2) c.length) (m8 place r (setCells c p.1 vs) k) none
def F2 (n:Nat) (z:LA):LA:=match z with | [v]=>replicate n v | z=>(replicate n z).flatten
def EG (g:Bk):List (Nat×AV)→Option (List (Nat×LA)×Ez×Bool)
 | []=>some ([],[],false)
 | (i,v)::r=>(EF g v).bind fun q=>(EG g r).bind fun q'=>some ((i,q.1)::q'.1,q.2.1++q'.2.1,q.2.2||q'.2.2)
def Am8:AV→Bool
 | .optr ..=>true
 | .fn _ (_::_)=>true
 | _=>false
def Xh {R:Type} (P:Program) (g:Bk) (d:Nat) (t:TypeId) (len:Nat) (parts:List (Nat×AV)) (k:AV→Ez→O R):O R :=
 match P.underlying t with
 | some (.slice el)=>(Bv P el).bind fun sz=>(dE P el).bind fun z =>
  cond (beq sz 1&&(ble len 16777216&&Qz g (parts.map (·.2)))) ((R4 (fun i=>some (i*1,1)) (parts.map fun p=>(p.1,[p.2])) (F2 len z)).bind fun cells =>
   k (.own (nid d) 0 len) (Uz d false false 1 cells)) none
 | _=>none
def Uh {R:Type} (P:Program) (g:Bk) (d:Nat) (t:TypeId) (len:Nat) (parts:List (Nat×AV)) (k:AV→Ez→O R):O R :=
 match P.underlying t with
 | some (.slice el)=>(Bv P el).bind fun sz=>(dE P el).bind fun z=>(EG g parts).bind fun q =>
  cond (ble (len*sz) 16777216) (m8 (fun i=>some (i*sz,sz)) q.1 (F2 len z) fun cells =>
   k (.own (nid d) 0 len) (q.2.1++Uz d true q.2.2 sz cells)) none
 | _=>none
def en:AV→Bool
 | .own .. | .optr .. | .fn .. | .undef | .agg _ | .pagg _ _ | .tup _ | .omap _=>true
 | _=>false
def qo:AV→Bool
 | .agg c=>c.any en
 | .pagg _ _=>false
 | v=>en v
def cellsOf:AV→LA
 | .agg c=>c
 | .pagg c _=>c
 | v=>[v]
def xn:AV→Bool
 | .imm _ _ _ _ o=>o
 | .iptr _ o=>o
 | _=>false
def m9:AV→Bool
 | .pagg _ o=>o
 | .agg c=>c.any xn
 | v=>xn v
def OS:AV→Bool
 | .pagg _ _=>true
 | _=>false
def UV (P:Program) (t:TypeId):Option (Nat→Option (Nat×Nat)) :=
 match P.underlying t with
 | some (.array _ e)=>(P.info? e).map fun ie=>fun i=>some (i*ie.size,ie.size)
 | some (.struct fs)=>(fs.toList.mapM fun f=>(P.info? f.type).map fun i=>(f.offset,i.size)).map fun pl=>fun i=>pl[i]?
 | _=>none
def wH (P:Program) (t:TypeId):Option (LA):=(P.info? t).bind fun i=>(i.zero).map fun v=>N3 v.cells.toList
def Hg:List (Nat×AV)→List (Nat×LA)
 | []=>[]
 | (i,v)::r=>(i,cellsOf v)::Hg r
def Aaw (o:Bool):AV→AV
 | .imm c n s t _=>.imm c n s t o
 | .iptr c _=>.iptr c o
 | v=>v
def qp:AV→LA
 | .agg c=>c
 | .pagg c o=>c.map (Aaw o)
 | v=>[v]
def Ms:List (Nat×AV)→List (Nat×LA)
 | []=>[]
 | (i,v)::r=>(i,qp v)::Ms r
def UW:AV→Bool
 | .undef=>false
 | .tup _=>false
 | .omap _=>false
 | _=>true
def xo (P:Program) (t:TypeId) (parts:List (Nat×AV)):Option AV :=
 (UV P t).bind fun place=>cond (parts.all fun p=>UW p.2) (
 cond (parts.any fun p=>OS p.2)
  (cond (parts.any fun p=>qo p.2) ((wH P t).bind fun z=>(R4 place (Ms parts) z).map fun c=>.agg c) ((dE P t).bind fun z=>(R4 place (Hg parts) z).map fun c=>.pagg c (parts.any fun p=>m9 p.2)))
  ((wH P t).bind fun z=>(R4 place (Hg parts) z).map fun c=>.agg c)) none
def xp {R:Type} (P:Program) (t:TypeId) (parts:List (Nat×AV)) (k:AV→O R):O R :=
 (UV P t).bind fun place=>cond (parts.all fun p=>UW p.2) (
 cond (parts.any fun p=>OS p.2)
  (cond (parts.any fun p=>qo p.2) ((wH P t).bind fun z=>m8 place (Ms parts) z fun c=>k (.agg c)) ((dE P t).bind fun z=>m8 place (Hg parts) z fun c=>k (.pagg c (parts.any fun p=>m9 p.2))))
  ((wH P t).bind fun z=>m8 place (Hg parts) z fun c=>k (.agg c))) none
def ZB {R:Type} (P:Program) (g:Bk) (t:TypeId) (parts:List (Nat×AV)) (k:AV→Ez→O R):O R :=
 (UV P t).bind fun place=>(dE P t).bind fun z=>(EG g parts).bind fun q=>m8 place q.1 z fun c=>k (.pagg c q.2.2) q.2.1
def Akd (P:Program) (t:TypeId):List (Nat×Nat) :=
 match P.underlying t with
 | some (.struct fs)=>fs.toList.filterMap fun f=>match P.underlying f.type with | some (.slice el)=>(Bv P el).map fun s=>(f.offset,s) | _=>none
 | _=>[]
def Aik (P:Program) (n:Nat) (e:TypeId) (off:Nat):List (Nat×Nat) :=
 match P.underlying e with
 | some (.slice el)=>((Bv P el).map fun s=>(List.range n).map fun i=>(off+i,s)).getD []
 | _=>[]
def U0 (P:Program) (t:TypeId):List (Nat×Nat) :=
 match P.underlying t with
 | some (.array n e)=>Aik P n e 0
 | some (.struct fs)=>fs.toList.flatMap fun f=>match P.underlying f.type with
  | some (.slice el)=>((Bv P el).map fun s=>(f.offset,s)).toList
  | some (.struct _)=>(Akd P f.type).map fun p=>(f.offset+p.1,p.2)
  | some (.array n e)=>Aik P n e f.offset
  | _=>[]
 | _=>[]
def Hz (d:Nat):List (Nat×Nat)→Nat→LA→LA×Ez
 | [],_,c=>(c,[])
 | (o,sz)::r,j,c=>match c[o]? with
  | some .nsl=>((Hz d r (j+1) (c.set o (.own (nid d+j) 0 0))).1,(nid d+j,some (Ht sz))::(Hz d r (j+1) (c.set o (.own (nid d+j) 0 0))).2)
  | _=>Hz d r (j+1) c
def Ake {R:Type} (P:Program) (t:TypeId) (co:Bool) (d:Nat) (v:AV) (k:AV→Ez→O R):O R :=
 match co,v with
 | true,.agg c=>cond (ble (U0 P t).length 15) (k (.agg (Hz d (U0 P t) 1 c).1) (Hz d (U0 P t) 1 c).2) none
 | _,v=>k v []
def ZC {R:Type} (P:Program) (g:Bk) (d:Nat) (t:TypeId) (k:AV→Ez→O R):O R :=
 match ql P t with
 | some (.agg c)=>cond (ble (U0 P t).length 15&&Qz g c) (k (.optr (nid d) 0) ((Hz d (U0 P t) 1 c).2++Uz d false false 0 (Hz d (U0 P t) 1 c).1)) none
 | _=>none
def Ail (P:Program):Nat→TypeId→Nat→List (Nat×TypeId)
 | 0,t,off=>[(off,t)]
 | d+1,t,off=>match P.underlying t with
  | some (.struct fs)=>fs.toList.flatMap fun f=>Ail P d f.type (off+f.offset)
  | _=>[(off,t)]
def Am9 (P:Program) (t:TypeId):Bool:=match P.underlying t with
 | some (.int _)=>true | some .bool=>true | some .string=>true | some (.slice _)=>true | _=>false
def gP {R:Type} (P:Program) (c:LA) (org:Bool):List (Nat×TypeId)→LA→(LA→O R)→O R
 | [],acc,k=>k acc
 | (off,t)::r,acc,k=>cond (beq off acc.length&&Am9 P t) (UT P t (c.drop off) org fun v=>gP P c org r (acc++[v]) k) none
def kH {R:Type} (P:Program) (co:Bool) (t:TypeId) (v:AV) (k:AV→O R):O R :=
 match co,v with
 | true,.pagg c org=>gP P c org (Ail P 4 t 0) [] fun l=>cond (beq c.length l.length) (k (.agg l)) none
 | _,v=>k v
def wI {R:Type} (P:Program) (d:Nat) (t:TypeId) (len cap:AV) (k:AV→Ez→O R):O R :=
 match P.underlying t,len,cap with
 | some (.slice el),.int .i64 l,.int .i64 c=>(Bv P el).bind fun sz=>(xj P el).bind fun by_=>(dE P el).bind fun z =>
  cond (decide (0≤l)&&(decide (l≤c)&&(decide (c≤140737488355328)&&decide (c*(by_:Int)≤140737488355328)))) (
   k (.own (nid d) 0 l.toNat) (Uz d true false sz (F2 l.toNat z))) none
 | _,_,_=>none
def Aim (g:Bk) (sz:Nat) (s:AV):Option (LA×Nat×Bool×Ez) :=
 match s with
 | .nsl=>some ([],0,false,[])
 | .imm _ n _ true _=>cond (beq n 0) (some ([],0,false,[])) none
 | .own b off n=>(Hm g b).bind fun x=>cond (x.pure&&(!x.sealed&&beq sz x.sz)) (some ((x.cells.drop off).take (n*sz),n,x.taint,[(b,none)])) none
 | _=>none
def m_ (P:Program) (g:Bk) (el tx:TypeId) (s:AV):Option (Nat×Nat) :=
 match s with
 | .nsl=>match P.underlying tx with | some .string=>some (el,0) | _=>none
 | .own b off _=>(Hm g b).bind fun x=>(x.ty).bind fun q=>cond (beq q.1 el&&(beq q.2 0&&beq off 0)) (some (el,0)) none
 | _=>none
def xq (P:Program) (t:TypeId):Bool:=match P.underlying t with | some (.slice _)=>true | some .string=>true | _=>false
def ZD {R:Type} (P:Program) (g:Bk) (d:Nat) (t tx:TypeId) (s x:AV) (k:AV→Ez→O R):O R :=
 match P.underlying t with
 | some (.slice el)=>cond (xq P tx) ( (Bv P el).bind fun sz=>(xj P el).bind fun by_=>(dE P el).bind fun _ =>
  (Aim g sz s).bind fun old=>ek P el g sz x fun new =>
  cond (ble (old.2.1+new.2.1) 140737488355328&&ble ((old.2.1+new.2.1)*by_) 140737488355328) (
   k (.own (nid d) 0 (old.2.1+new.2.1)) (old.2.2.2++[(nid d,some { dead:=false,sealed:=false,pure:=true,taint:=old.2.2.1||new.2.2,sz,cells:=old.1++new.1,ty:=m_ P g el tx s })])) none) none
 | _=>none
def eo {R:Type} (kd:IntKind):Nat→LA→(LA→O R)→O R
 | 0,_,k=>k []
 | n+1,c,k=>(c.head?).bind fun x=>(dF kd x).bind fun v=>eo kd n (c.drop 1) fun l=>k (.int kd v::l)
def kI {R:Type} (P:Program) (el sz b off n:Nat) (y:Blk) (new:LA×Nat×Bool) (k:AV→Ez→O R):O R :=
 match P.underlying el with
 | some (.int kd)=>cond (beq sz 1&&(ble 1 n&&(beq y.sz 0&&(!y.sealed&&(!y.pure&&(ble n new.2.1&&ble (off+n) y.cells.length)))))) (
   eo kd n new.1 fun vs=>k (.int .i64 (n:Nat)) [(b,some { y with cells:=Du y.cells off vs })]) none
 | _=>none
def wJ {R:Type} (P:Program) (g:Bk) (t:TypeId) (s x:AV) (k:AV→Ez→O R):O R :=
 match P.underlying t,s with
 | some (.slice el),.own b off n=>(Bv P el).bind fun sz=>(Hm g b).bind fun y=>ek P el g sz x fun new =>
  cond (y.pure&&(!y.sealed&&beq sz y.sz)) (
   k (.int .i64 (min new.2.1 n:Nat)) [(b,some { y with cells:=Du y.cells off (new.1.take ((min new.2.1 n)*sz)),taint:=y.taint||new.2.2 })]) (kI P el sz b off n y new k)
 | some (.slice el),.nsl=>(Bv P el).bind fun sz=>ek P el g sz x fun _=>k (.int .i64 0) []
 | _,_=>none
def kJ {R:Type} (P:Program) (g:Bk) (t:TypeId) (s:AV) (k:AV→Ez→O R):O R :=
 match P.underlying t,s with
 | some (.slice el),.own b off n=>(Bv P el).bind fun sz=>(dE P el).bind fun z=>(Hm g b).bind fun y =>
  cond (y.pure&&(!y.sealed&&beq sz y.sz)) (k (.tup []) [(b,some { y with cells:=Du y.cells off (F2 n z) })]) none
 | _,_=>none
def wK {R:Type} (P:Program) (g:Bk) (d:Nat) (src dst:TypeId) (x:AV) (k:AV→Ez→O R):O R :=
 match P.underlying dst with
 | some (.int kd)=>match x with | .int _ n=>cond (P.underlying src).isSome (k (.int kd (kd.wrap n)) []) none | _=>none
 | some .string=>match P.underlying src with
  | some .string=>match x with | .str s=>k (.str s) [] | _=>none
  | some (.slice el)=>match P.underlying el with
   | some (.int .u8)=>match x with
    | .str _=>none
    | x=>(wG g 1 x).bind fun q=>(gM q.1).bind fun s=>k (.str s) []
   | _=>none
  | _=>none
 | some (.slice el)=>match P.underlying src,P.underlying el,x with
  | some (.slice _),some (.int .u8),.own b off n=>cond (beq src dst&&ble 1 n) ((Hm g b).bind fun x=>cond x.sealed none (k (.own b off n) [])) none
  | some .string,some (.int .u8),.str s=>k (.own (nid d) 0 s.length) (Uz d true false 1 (s.map fun b=>.int .u8 (b.toNat:Int)))
  | _,_,_=>none
 | _=>none
def kK {R:Type} (P:Program) (g:Bk) (d:Nat) (src dst:TypeId) (x:AV) (k:AV→Ez→O R):O R :=
 match P.underlying dst with
 | some .unsafePointer=>match P.underlying src,x with
  | some (.pointer t),.optr b off=>(Bv P t).bind fun n=>(Hm g b).bind fun y=>cond (!(beq n 0)&&Nat.blt off y.cells.length) (k (.optr b off) []) none
  | _,_=>none
 | some (.pointer u)=>match P.underlying src,x with
  | some .unsafePointer,.optr b off=>(Bv P u).bind fun _=>(Hm g b).bind fun y=>(y.ty).bind fun q =>
    cond (Nat.blt 0 q.2&&(Nat.blt 0 y.cells.length&&liesAt P P.depth q.1 (q.2/P.cellsOf q.1) off u 1)) (k (.optr b off) []) none
  | _,_=>none
 | _=>wK P g d src dst x k
def xr:AV→Option UInt8
 | .int .u8 n=>cond (decide (((UInt8.ofNat n.toNat).toNat:Int)=n)) (some (UInt8.ofNat n.toNat)) none
 | _=>none
def UX:LA→Option Lu
 | []=>some []
 | x::r=>(xr x).bind fun b=>(UX r).bind fun l=>some (b::l)
def Xi {R:Type} (g:Bk) (x:AV) (k:AV→Ez→O R):O R :=
 match x with
 | .nsl=>k .nilptr []
 | .own b off n=>(Hm g b).bind fun _=>cond (Nat.blt 0 n) (k (.optr b off) []) none
 | _=>none
def Xj {R:Type} (P:Program) (g:Bk) (t:TypeId) (x n:AV) (k:AV→Ez→O R):O R :=
 match x,n with
 | .nilptr,.int .i64 n=>cond (n==0) (k (.str []) []) none
 | .optr b off,.int .i64 n=>(Hm g b).bind fun y=>(y.ty).bind fun q=>match P.underlying t with
  | some (.pointer e)=>cond (beq q.1 e&&(beq (P.cellsOf e) 1&&(y.pure&&(!y.sealed&&(beq off 0&&(decide (0<n)&&(decide (n≤(y.cells.length:Int))&&decide (n≤9223372036854775807))))))))
    ((UX (y.cells.take n.toNat)).bind fun s=>k (.str s) [(b,none)]) none
  | _=>none
 | _,_=>none
def qq:LA→Int→Bool
 | [],_=>false
 | .int _ m::r,n=>cond (n==m) true (qq r n)
 | _::r,n=>qq r n
def Ana (c:LA) (n:Int):LA:=cond (qq c n) c (c++[.int .i64 n])
def xt (P:Program) (t:TypeId):Bool:=match P.underlying t with
 | some (.map k e)=>(match P.underlying k with | some (.int .i64)=>true | _=>false)&&(match ql P e with | some (.bool false)=>true | _=>false)
 | _=>false
def ES {R:Type} (d:Nat) (r:Option AV) (k:AV→Ez→O R):O R :=
 match r with
 | none=>k (.omap (nid d)) [(nid d,some { dead:=false,sealed:=false,pure:=true,taint:=false,sz:=0,cells:=[],mp:=true })]
 | some _=>none
def kL {R:Type} (P:Program) (g:Bk) (t:TypeId) (m key val:AV) (k:AV→Ez→O R):O R :=
 match m,key,val with
 | .omap b,.int .i64 n,.bool true=>cond (xt P t) ((Hm g b).bind fun x=>cond (x.mp&&beq x.sz 0) (k .undef [(b,some { x with cells:=Ana x.cells n })]) none) none
 | _,_,_=>none
def wL {R:Type} (P:Program) (g:Bk) (t:TypeId) (m key:AV) (comma:Bool) (k:AV→O R):O R :=
 match m,key,comma with
 | .omap b,.int .i64 n,false=>cond (xt P t) ((Hm g b).bind fun x=>cond (x.mp&&beq x.sz 0) (k (.bool (qq x.cells n))) none) none
 | _,_,_=>none
def BM (s:Lu) (p:Int):Nat×Nat:=Utf8.decode ⟨⟨s⟩⟩ p.toNat
def kM {R:Type} (P:Program) (d:Nat) (t:TypeId) (x:AV) (k:AV→Ez→O R):O R :=
 match P.underlying t,x with
 | some .string,.str s=>k (.omap (nid d)) [(nid d,some { dead:=false,sealed:=false,pure:=true,taint:=false,sz:=1,cells:=[.str s,.int .i64 0],mp:=true })]
 | _,_=>none
def wN {R:Type} (g:Bk) (it:AV) (isString:Bool) (k:AV→Ez→O R):O R :=
 match it,isString with
 | .omap b,true=>(Hm g b).bind fun x=>cond (x.mp&&beq x.sz 1)
  (match x.cells with
   | [.str s,.int .i64 p]=>cond (decide (p<(s.length:Int)))
     (k (.tup [.bool true,.int .i64 p,.int .i32 ((BM s p).1:Nat)]) [(b,some { x with cells:=[.str s,.int .i64 (p+((BM s p).2:Nat))] })]) (k (.tup [.bool false]) [])
   | _=>none) none
 | _,_=>none
def Anb (g:Bk) (x y:AV):Option Bool :=
 match x,y with
 | .nilptr,.nilptr=>some true
 | .nilptr,.optr _ _=>some false
 | .optr _ _,.nilptr=>some false
 | .nilptr,.iptr _ _=>some false
 | .iptr _ _,.nilptr=>some false
 | .optr b o,.optr b' o'=>(Hm g b).bind fun _=>cond (beq b b') (some (beq o o')) none
 | _,_=>none
def Afa (P:Program) (t:TypeId):Bool:=match P.underlying t with
 | some (.pointer e)=>match Bv P e with | some n=>!(beq n 0) | none=>false
 | _=>false
def wO {R:Type} (P:Program) (g:Bk) (t:TypeId) (op:BinOp) (x y:AV) (r:AV→O R):O R :=
 match Anb g x y with
 | some b=>cond (Afa P t) (match op with
  | .eql=>r (.bool b)
  | .neq=>r (.bool (!b))
  | _=>none) none
 | none=>wF P t op x y r
mutual
def Il:AV→List Nat
 | .own b _ _=>[b]
 | .optr b _=>[b]
 | .omap b=>[b]
 | .agg c=>Kr c
 | .tup c=>Kr c
 | .fn _ c=>Kr c
 | _=>[]
def Kr:List AV→List Nat
 | []=>[]
 | v::r=>Il v++Kr r
end
mutual
def aZ (ρ:Nat→Nat):AV→AV
 | .own b off n=>.own (ρ b) off n
 | .optr b off=>.optr (ρ b) off
 | .omap b=>.omap (ρ b)
 | .agg c=>.agg (CA ρ c)
 | .tup c=>.tup (CA ρ c)
 | .fn f c=>.fn f (CA ρ c)
 | v=>v
def CA (ρ:Nat→Nat):List AV→List AV
 | []=>[]
 | v::r=>aZ ρ v::CA ρ r
end
def OT (g:Bk):AV→Option (AV×Bool)
 | .own b off n=>(Hm g b).bind fun x=>cond x.pure (some (.imm ((x.cells.drop off).take (n*x.sz)) n x.sz false (!x.sealed||x.taint),!x.sealed||x.taint)) none
 | .imm c n sz _ org=>some (.imm c n sz false org,org)
 | .iptr c org=>some (.iptr c org,org)
 | .optr .. | .agg _ | .tup _ | .undef | .fn .. | .pagg .. | .omap _=>none
 | v=>some (v,false)
def UY (g:Bk):LA→Option (LA×Bool)
 | []=>some ([],false)
 | v::r=>(OT g v).bind fun p=>(UY g r).bind fun q=>some (p.1::q.1,p.2||q.2)
def xu (g:Bk):AV→Option (AV×Bool)
 | .own b off n=>(Hm g b).bind fun x=>cond x.pure (some (.imm ((x.cells.drop off).take (n*x.sz)) n x.sz false (!x.sealed||x.taint),!x.sealed)) none
 | .imm c n sz _ org=>some (.imm c n sz false org,false)
 | .optr b off=>(Hm g b).bind fun x=>cond x.pure (some (.iptr (x.cells.drop off) (!x.sealed||x.taint),!x.sealed)) none
 | .agg c=>(UY g c).bind fun q=>some (.pagg q.1 q.2,true)
 | .fn f []=>some (.fn f [],false)
 | .fn _ _ | .tup _ | .undef | .omap _=>none
 | v=>some (v,false)
def Lh (d:Nat):List (Nat×Nat)→Nat→Nat
 | [],_=>d
 | (i,x)::r,b=>cond (beq i b) x (Lh d r b)
def Jh:List Nat→Nat→Bool
 | [],_=>false
 | i::r,b=>cond (beq i b) true (Jh r b)
def mb:List Nat→List Nat→List Nat
 | [],acc=>acc.reverse
 | i::r,acc=>cond (Jh acc i) (mb r acc) (mb r (i::acc))
def UZ:List Nat→Bool
 | []=>true
 | i::r=>!Jh r i&&UZ r
def A6 (base:Nat):List Nat→List (Nat×Nat)
 | []=>[]
 | i::r=>(i,base)::A6 (base+1) r
def N4 (g:Bk):List Nat→List Nat
 | []=>[]
 | b::r=>(match g b with | some x=>cond x.pure [] (Kr x.cells) | none=>[])++N4 g r
def ET (g:Bk) (ids:List Nat):List Nat:=mb (ids++N4 g (ids++N4 g ids)) []
def U_ (g:Bk):List Nat→Bool
 | []=>true
 | b::r=>(match g b with | some x=>!x.dead | none=>false)&&U_ g r
def HX (ρ:Nat→Nat) (x:Blk):Blk:={ x with cells:=cond x.pure x.cells (CA ρ x.cells) }
def sub (g:Bk) (ρ:Nat→Nat):List Nat→A1
 | []=>[]
 | b::r=>match g b with
  | some x=>Gq (sub g ρ r) (ρ b) (HX ρ x)
  | none=>sub g ρ r
structure Tw where
 runK:{R:Type}→List AV→A1→(AV→A1→O R)→O R
 eq:∀ {R:Type} (args:List AV) (h:A1) (k:AV→A1→O R),runK args h k=(runK args h fun v h'=>some (v,h')).bind fun p=>k p.1 p.2
def gQ {R:Type}:List (Nat×Tw)→Nat→LA→A1→(AV→A1→O R)→O R
 | [],_,_,_,_=>none
 | (g,t)::r,f,args,h,k=>cond (beq g f) (t.runK args h k) (gQ r f args h k)
structure Env where
 P:Program
 nt:Nat
 muts:Nat→List Bool
 nils:List (Nat×Nat)
 free:List Nat
 cob:List Nat
 tbl:List (Nat×Tw)
mutual
def KU:AV→Bool
 | .imm _ _ _ _ o=>o
 | .iptr _ o=>o
 | .pagg _ o=>o
 | .agg c=>Yu c
 | .tup c=>Yu c
 | .fn _ c=>Yu c
 | _=>false
def Yu:List AV→Bool
 | []=>false
 | v::r=>KU v||Yu r
end
def gR:A1→Bool
 | []=>false
 | (_,x)::r=>x.taint||(cond x.pure false (Yu x.cells))||gR r
def Mt (g:Bk):LA→List Nat
 | []=>[]
 | .own b _ _::r=>match g b with | some x=>cond x.sealed (Mt g r) (b::Mt g r) | none=>Mt g r
 | _::r=>Mt g r
def MA (g:Bk):AV→List Nat
 | .own b _ _=>match g b with | some x=>cond x.sealed [] [b] | none=>[]
 | .optr b _=>match g b with | some x=>cond x.sealed [] [b] | none=>[]
 | .agg c=>Mt g c
 | _=>[]
def MB (g:Bk):List Bool→LA→Option (LA×List Nat×List Nat)
 | _,[]=>some ([],[],[])
 | ms,v::r =>
  cond (ms.headD false)
   ((MB g ms.tail r).bind fun q=>some (v::q.1,Il v++q.2.1,q.2.2))
   ((xu g v).bind fun p=>(MB g ms.tail r).bind fun q=>some (p.1::q.1,q.2.1,MA g v++q.2.2))
def SF (ids:List Nat):List Nat→Bool
 | []=>true
 | b::r=>Jh ids b&&SF ids r
def Aax:List Nat→List Nat→Bool
 | [],_=>true
 | i::r,l=>!Jh l i&&Aax r l
def xv:List Nat→Bool
 | []=>true
 | _=>false
def wQ {R:Type} (E:Env) (g:Bk) (d:Nat) (f:Nat) (args:LA) (k:AV→Ez→O R):O R :=
 (MB g (E.muts f) args).bind fun q =>
 let ids:=ET g q.2.1
 let tin:=A6 100000 ids
 let outs:=tin.map (·.2)
 cond (U_ g ids&&(SF ids q.2.1&&(SF ids (N4 g ids)&&(Aax q.2.2 ids&&(UZ (ids.map (Lh 0 tin))&&ble ids.length 100000))))) (
  gQ E.tbl f (CA (Lh 0 tin) q.1) (sub g (Lh 0 tin) ids) fun rv rh =>
  let all:=ET (Ak rh) (Il rv++outs)
  let new:=all.filter fun b=>!Jh outs b
  let tnew:=A6 (nid d) new
  let σ:=Lh 0 ((tin.map fun p=>(p.2,p.1))++tnew)
  cond (!xv q.2.2&&(KU rv||gR rh)) none
   (cond (U_ (Ak rh) new&&(ble new.length 16&&(SF all (Il rv)&&(SF all outs&&(SF all (N4 (Ak rh) all)&&UZ (all.map σ))))))
    (k (aZ σ rv) ((tin.map fun p=>(p.1,(Ak rh p.2).map (HX σ)))++tnew.map fun p=>(p.2,(Ak rh p.1).map (HX σ)))) none)) none
def wR {R:Type} (c a b:AV) (k:AV→O R):O R :=
 match c,a,b with
 | .bool t,.bool x,.bool y=>k (.bool (cond t x y))
 | .bool t,x,.tup []=>cond t (k x) none
 | .bool t,.tup [],y=>cond t none (k y)
 | .bool t,x,y=>cond t (k x) (k y)
 | _,_,_=>none
def xw (P : Program) (f : Nat) : Bool := match P.funcs[f]? with | some fn => fn.body.isSome && !(fn.name == "runtime.NumGoroutine") | none => false
def Anc (P : Program) (f : Nat) : Bool := match P.funcs[f]? with | some fn => fn.body.isNone && (fn.name == "internal/abi.NoEscape" && fn.origin == "") | none => false
def Mm (a b:Int):Int:=cond (decide (b<a)) b a
def ep (a b:Int):Int:=cond (decide (b>a)) b a
def Akf:AV→AV→Option AV
 | .int k a,.int _ b=>some (.int k (Mm a b))
 | _,_=>none
def Akg:AV→AV→Option AV
 | .int k a,.int _ b=>some (.int k (ep a b))
 | _,_=>none
def u4 {R:Type} (E:Env) (g:Bk) (d:Nat) (v:Operand→AV) (o:Op) (k:AV→Ez→O R):O R :=
 match o with
 | .move x=>k (v x) []
 | .assign x=>k (v x) []
 | .pick c a b=>wR (v c) (v a) (v b) fun r=>k r []
 | .alloc t=>cond (Jh E.cob (d+1000000)) (ZC E.P g d t k) (kG E.P g (Jh E.cob d) d t k)
 | .box t x=>kH E.P (Jh E.cob d) t (v x) fun u=>Aav E.P g d t u k
 | .build t parts=>cond (Jh E.cob (d+4000000)) (ZB E.P g t (parts.toList.map fun p=>(p.1,v p.2)) k) (xp E.P t (parts.toList.map fun p=>(p.1,v p.2)) fun r=>Ake E.P t (Jh E.cob d) d r k)
 | .buildSlice t len parts=>cond ((parts.toList.map fun p=>(p.1,v p.2)).any fun p=>Am8 p.2) (Xh E.P g d t len (parts.toList.map fun p=>(p.1,v p.2)) k) (Uh E.P g d t len (parts.toList.map fun p=>(p.1,v p.2)) k)
 | .load t a=>qn E.P g t (v a) fun r=>k r []
 | .store t a x=>kF E.P g t (v a) (v x) k
 | .nilCheck x=>match v x with | .iptr c o=>k (.iptr c o) [] | .optr b o=>k (.optr b o) [] | _=>none
 | .binOp op t x y _=>wO E.P g t op (v x) (v y) fun r=>k r []
 | .unOp op _ x=>(Ax6 op (v x)).bind fun r=>k r []
 | .convert s t x=>kK E.P g d s t (v x) k
 | .makeFunc (.func f) first caps=>cond (Nat.blt f 1000000) (k (.fn (f+1000000*first.toList.length) ((first.toList++caps.toList).map v)) []) none
 | .makeSlice t l c=>wI E.P d t (v l) (v c) k
 | .slice t x lo hi mx=>kE E.P g t (v x) (lo.map v) (hi.map v) (mx.map v) fun r=>k r []
 | .fieldAddr t x f=>Xg E.P t (v x) f fun r=>k r []
 | .field t x f=>kC E.P t (v x) f fun r=>k r []
 | .indexAddr t x i=>Xf E.P t (v x) (v i) fun r=>k r []
 | .index t x i=>kD E.P t (v x) (v i) fun r=>k r []
 | .makeMap _ r=>ES d (r.map v) k
 | .mapUpdate t m x y=>kL E.P g t (v m) (v x) (v y) k
 | .lookup t m x c=>wL E.P g t (v m) (v x) c fun r=>k r []
 | .range t x=>kM E.P d t (v x) k
 | .next it s=>wN g (v it) s k
 | .extract t i=>match v t with | .tup vs=>(vs[i]?).bind fun r=>k r [] | _=>none
 | .call c=>match c.callee with
  | .builtin .len=>match c.args.toList,c.argTypes.toList with | [x],[t]=>(Atr E.P t (v x)).bind fun r=>k r [] | _,_=>none
  | .builtin .append=>match c.args.toList,c.argTypes.toList with | [s,x],[t,tx]=>ZD E.P g d t tx (v s) (v x) k | _,_=>none
  | .builtin .copy=>match c.args.toList,c.argTypes.toList with | [s,x],[t,_]=>wJ E.P g t (v s) (v x) k | _,_=>none
  | .builtin .clear=>match c.args.toList,c.argTypes.toList with | [x],[t]=>kJ E.P g t (v x) k | _,_=>none
  | .builtin .min=>match c.args.toList with | [x,y]=>(Akf (v x) (v y)).bind fun r=>k r [] | [x,y,z]=>(Akf (v x) (v y)).bind fun q=>(Akf q (v z)).bind fun r=>k r [] | _=>none
  | .builtin .max=>match c.args.toList with | [x,y]=>(Akg (v x) (v y)).bind fun r=>k r [] | [x,y,z]=>(Akg (v x) (v y)).bind fun q=>(Akg q (v z)).bind fun r=>k r [] | _=>none
  | .builtin .unsafeSliceData=>match c.args.toList with | [x]=>Xi g (v x) k | _=>none
  | .builtin .unsafeString=>match c.args.toList,c.argTypes.toList with | [x,y],[t,_]=>Xj E.P g t (v x) (v y) k | _,_=>none
  | .value fo=>match v fo with
   | .fn f caps=>cond (xw E.P (f%1000000)) (wQ E g d (f%1000000) (caps.take (f/1000000)++(c.args.toList.map v++caps.drop (f/1000000))) k)
     (cond (Anc E.P (f%1000000)) (match caps,c.args.toList.map v with | [],[x]=>k x [] | _,_=>none) none)
   | _=>none
  | _=>none
 | _=>none
structure Foot where
 r:List Nat
 w:Option Nat
 f:List Nat
 u:List Nat
def ex:List Operand→List Nat
 | []=>[]
 | .tmp t::r=>t::ex r
 | _::r=>ex r
def Al:Ez→A1→A1
 | [],h=>h
 | (b,some x)::r,h=>Al r (Gq h b x)
 | (b,none)::r,h=>Al r (match Ak h b with | some x=>Gq h b { x with dead:=true,pure:=true,cells:=[] } | none=>h)
def ZE (ops:Array Oper) (o:Oper):Option (Nat×Bool) :=
 match o.guard with
 | none=>none
 | some (j,want)=>((ops[j]?).bind (·.dst)).map fun t=>(t,want)
def OU (ops:Array Oper) (s:Ik) (o:Oper):Option Bool :=
 match o.guard with
 | none=>some true
 | some (j,want)=>match (ops[j]?).bind (·.dst) with
  | some t=>match Hs s t with
   | .bool b=>some (b==want)
   | .tup []=>some false
   | _=>none
  | none=>some false
def Afb (nt:Nat) (s:Ik) (d:Option Nat) (v:AV):Ik:=match d with | some d=>cond (Nat.blt d nt) (e_ s d v) s | none=>s
def Ain:Op→Bool
 | .binOp op ..=>match op with | .eql | .neq=>true | _=>false
 | .move _ | .assign _ | .pick .. | .unOp .. | .makeFunc .. | .fieldAddr .. | .field .. | .indexAddr .. | .index .. | .extract .. | .nilCheck _=>false
 | .call c=>match c.callee with
  | .builtin .len | .builtin .min | .builtin .max=>false
  | _=>true
 | _=>true
def Aio:Op→Bool
 | .load .. | .binOp ..=>true
 | _=>false
def BN (h:A1) (op:Op) (vals:LA):List Nat:=cond (Ain op) (cond (Aio op) (mb (Kr vals) []) (ET (Ak h) (Kr vals))) []
def MC (d b:Nat):Bool:=ble (nid d) b&&Nat.blt b (nid d+16)
def dH (d:Nat) (F:List Nat) (h:A1):Ez→Bool
 | []=>true
 | (b,_)::r=>cond (MC d b) (Ak h b).isNone (Jh F b&&(Ak h b).isSome)&&dH d F h r
def Aay {R:Type} (E:Env) (ops:Array Oper) (o:Oper) (st:St) (k:St→Foot→O R):O R :=
 (OU ops st.s o).bind fun wanted=>cond wanted (
  u4 E (fun b=>cond (Jh (BN st.h o.op (o.op.operands.toList.map (ev st.s))) b) (Ak st.h b) none) (o.dst.getD 50000) (ev st.s) o.op fun v ups =>
  cond (dH (o.dst.getD 50000) (BN st.h o.op (o.op.operands.toList.map (ev st.s))) st.h ups)
   (k { s:=Afb E.nt st.s o.dst v,h:=Al ups st.h } { r:=(match ZE ops o with | some p=>[p.1] | none=>[])++ex o.op.operands.toList,w:=o.dst,f:=BN st.h o.op (o.op.operands.toList.map (ev st.s)),u:=ups.map (·.1) }) none)
  (k { st with s:=Afb E.nt st.s o.dst (.tup []) } { r:=(match ZE ops o with | some p=>[p.1] | none=>[]),w:=o.dst,f:=[],u:=[] })
def kN {R:Type} (ops:Array Oper) (o:Oper) (st:St) (k:St→O R):O R :=
 match o.guard with
 | none=>k st
 | some (j,want)=>match (ops[j]?).bind (·.dst) with
  | none=>k st
  | some t=>match Hs st.s t with
   | .bool b=>cond (b==want) (k { s:=e_ st.s t (.bool want),h:=st.h }) (k { s:=e_ st.s t (.bool (!want)),h:=st.h })
   | _=>k st
def qr {R:Type} (E:Env) (ops:Array Oper):List Oper→St→List Foot→(St→List Foot→O R)→O R
 | [],st,tr,k=>k st tr
 | o::r,st,tr,k=>kN ops o st fun st=>Aay E ops o st fun st f=>qr E ops r st (f::tr) k
def wIn:Option Nat→List Nat→Bool
 | none,_=>false
 | some d,l=>Jh l d
def mf (a b:Foot):Bool :=
 !wIn a.w b.r&&!wIn b.w a.r&&(match a.w,b.w with | some x,some y=>!beq x y | _,_=>true)&&Aax a.u (b.f++b.u)&&Aax b.u a.f
def U' (e:Edge):Bool:=match e.ground with | .textOnly _=>false | .gcOnly _=>false | _=>true
def OV (o:Oper):List Nat:=(o.after.toList.filter U').map (·.on)
def xx {α:Type}:List Nat→(List Nat→α)→α
 | [],k=>k []
 | i::r,k=>xx r fun s=>k (i::s)
theorem MD {α:Type}:∀ (l:List Nat) (k:List Nat→α),xx l k=k l
 | [],_=>rfl
 | i::r,k=>by rw[xx,MD r]
def If:List Oper→List (List Nat)→List (List Nat)
 | [],acc=>acc
 | o::r,acc=>xx (mb (OV o++((OV o).flatMap fun i=>(acc[i]?).getD [])) []) fun a=>If r (acc++[a])
def EH:Nat→List Oper→Bool
 | _,[]=>true
 | i,o::r=>(o.after.toList.all fun e=>!U' e||Nat.blt e.on i)&&EH (i+1) r
def gV (f:Foot) (anc:List Nat):Nat→List Foot→Bool
 | _,[]=>true
 | i,g::r=>(Jh anc i||mf g f)&&gV f anc (i+1) r
def ZF:List Foot→List (List Nat)→List Foot→Bool
 | [],_,_=>true
 | f::r,a::az9,seen=>gV f a 0 seen&&ZF r az9 (seen++[f])
 | _::_,[],_=>false
def N5 (b:Nat):Nat:=cond (ble I6 b) (b - I6) b
mutual
def EU (g:Bk):AV→AV
 | .own b off n=>match Hm g b with | some _=>.own (N5 b) off n | none=>.undef
 | .optr b off=>match Hm g b with | some _=>.optr (N5 b) off | none=>.undef
 | .omap b=>match Hm g b with | some _=>.omap (N5 b) | none=>.undef
 | .agg c=>.agg (Mu g c)
 | .tup c=>.tup (Mu g c)
 | .fn f c=>.fn f (Mu g c)
 | v=>v
def Mu (g:Bk):List AV→List AV
 | []=>[]
 | v::r=>EU g v::Mu g r
end
def kO (g:Bk) (K:List Nat):Ik→Ik
 | []=>[]
 | (t,v)::r=>cond (Jh K t) ((t,EU g v)::kO g K r) (kO g K r)
def qs (K:List Nat):Ik→List Nat
 | []=>[]
 | (t,v)::r=>cond (Jh K t) (Il v++qs K r) (qs K r)
def EV (g:Bk):List Nat→A1
 | []=>[]
 | b::r=>match Hm g b with
  | some x=>Gq (EV g r) (N5 b) { x with cells:=cond x.pure x.cells (Mu g x.cells) }
  | none=>EV g r
def IA (g:Bk) (ids:List Nat):List Nat:=ids.filter fun b=>match Hm g b with | some _=>true | none=>false
def qt (g:Bk) (ids:List Nat):List Nat→Bool
 | []=>true
 | b::r=>(Jh ids b||(Hm g b).isNone)&&qt g ids r
def Aip:List Nat→Bool
 | []=>true
 | b::r=>cond (ble I6 b) (Nat.blt (N5 b) 100000) true&&Aip r
def clean (K roots:List Nat) (st:St):Option St :=
 let g:=Ak st.h
 let ids:=IA g (ET g (qs K st.s++roots))
 cond (UZ (ids.map N5)&&(qt g ids (qs K st.s)&&(qt g ids (N4 g ids)&&Aip ids))) (some { s:=kO g K st.s,h:=EV g ids }) none
def OW {R:Type} (E:Env) (roots:List Nat) (ops:Array Oper) (draw:Bool) (st:St) (k:St→O R):O R :=
 qr E ops ops.toList st [] fun st tr =>
  cond (!draw||(EH 0 ops.toList&&ZF tr.reverse (If ops.toList []) [])) ((clean (st.s.map (·.1)) roots st).bind k) none
def qu (b:Nat):Bool:=ble 100000 b&&Nat.blt b 200000
def OX (live:List Nat):List (Nat×Nat)→St→Option St
 | [],st=>some st
 | (t,sz)::r,st=>cond (ble 1000000 sz)
  (match Jh live t,Hs st.s t with
  | true,.nsl=>OX live r { s:=e_ st.s t (.imm [] 0 (sz - 1000000) false false),h:=st.h }
  | true,.own b off n=>(dG (Ak st.h) (.own b off n)).bind fun q=>OX live r { s:=e_ st.s t q.1,h:=Al q.2.1 st.h }
  | _,_=>OX live r st)
  (match Jh live t,Hs st.s t with
  | true,.nsl=>cond (Ak st.h (nid t+15)).isSome none (OX live r { s:=e_ st.s t (.own (nid t+15) 0 0),h:=Gq st.h (nid t+15) (Ht sz) })
  | _,_=>OX live r st)
def ME (free:List Nat) (b:Nat):Bool:=qu b&&!Jh free b
def Ane (free ids:List Nat):List (Nat×Nat):=A6 300000 (ids.filter fun b=>!ME free b)
def EW (free ids:List Nat) (b:Nat):Nat:=cond (ME free b) b (Lh 0 (Ane free ids) b)
def Anf (ρ:Nat→Nat) (K:List Nat):Ik→Ik
 | []=>[]
 | (t,v)::r=>cond (Jh K t) ((t,aZ ρ v)::Anf ρ K r) (Anf ρ K r)
def SG (E:Env) (live roots:List Nat) (st:St):Option St :=
 (OX live E.nils st).bind fun st =>
 let g:=Ak st.h
 let ids:=IA g (ET g (qs live st.s++roots))
 cond (UZ (ids.map (EW E.free ids))&&(SF ids (qs live st.s)&&(SF ids (N4 g ids)&&ble ids.length 100000))) (some { s:=Anf (EW E.free ids) live st.s,h:=sub g (EW E.free ids) ids }) none
inductive Hint where
 | leaf
 | node (live:List Nat) (a b:Hint)
 | join (live:List Nat) (a b:Hint)
def Hint.live:Hint→List Nat
 | .leaf=>[]
 | .node l _ _=>l
 | .join l _ _=>l
def Hint.a:Hint→Hint
 | .leaf=>.leaf
 | .node _ a _=>a
 | .join _ a _=>a
def Hint.b:Hint→Hint
 | .leaf=>.leaf
 | .node _ _ b=>b
 | .join _ _ b=>b
def Hint.isJoin:Hint→Bool
 | .join _ _ _=>true
 | _=>false
noncomputable def Ac {α:Type} (a:α):{ x:α // x=a }:=Classical.choice ⟨⟨a,rfl⟩⟩
noncomputable def Ang {R:Type} (j:Bool) (f:St→O R):St→O R:=cond j (Ac f).1 f
theorem Yv {R:Type} (j:Bool) (f:St→O R):Ang j f=f:=by cases j;rfl;exact(Ac f).2
noncomputable def Aaz {R:Type} (E:Env) (roots:List Nat) (H:Hint) (f:St→O R) (st:St):O R:=cond H.isJoin ((SG E H.live roots st).bind (Ang true f)) (f st)
def SH {R:Type} (cn:St→Option St) (body:(St→O R)→St→O R):Nat→St→O R
 | 0,_=>none
 | n+1,st=>body (fun st=>(cn st).bind (SH cn body n)) st
noncomputable def Fb {R:Type} (E:Env) (roots:List Nat) (N:Nat):Code→Hint→(St→O R)→(Nat→St→O R)→(St→O R)→St→O R
 | .skip,_,k,_,_,st=>k st
 | .region _ ops draw,_,k,_,_,st=>OW E roots ops draw st k
 | .seq a b,H,k,x,r,st=>Fb E roots N a H.a (Aaz E roots H fun st=>Fb E roots N b H.b k x r st) x r st
 | .cond c a b,H,k,x,r,st=>match ev st.s c with
  | .bool t=>cond t (Fb E roots N a H.a k x r st) (Fb E roots N b H.b k x r st)
  | _=>none
 | .block id c,H,k,x,r,st=>Fb E roots N c H.a k (fun j st=>cond (beq j id) (k st) (x j st)) r st
 | .loop c,H,_,x,r,st=>(SG E H.live roots st).bind (Ang true (SH (SG E H.live roots) (fun k st=>Fb E roots N c H.a k x r st) N))
 | .exit id,_,_,x,_,st=>x id st
 | .ret,_,_,_,r,st=>r st
 | _,_,_,_,_,_=>none
def Q5 {R:Type} (E:Env) (st:St):List ResultVar→LA→(LA→O R)→O R
 | [],acc,k=>k acc.reverse
 | .tmp t::r,acc,k=>Q5 E st r (Hs st.s t::acc) k
 | .cell a t::r,acc,k=>qn E.P (Ak st.h) t (Hs st.s a) fun v=>Q5 E st r (v::acc) k
def Ats (g:Bk) (i:Nat) (m:Nat×Nat) (v:AV):Option (AV×Ez) :=
 cond (beq m.1 0) (some (v,[]))
 (cond (beq m.1 1) (match v with
  | .nsl=>some (.imm [] 0 m.2 false false,[])
  | .imm c n sz _ o=>some (.imm c n sz false o,[])
  | .own b off n=>(dG g (.own b off n)).bind fun q=>some (q.1,q.2.1)
  | _=>none)
 (cond (beq m.1 2) (match v with
  | .nsl=>cond (g (nid 90000+i)).isSome none (some (.own (nid 90000+i) 0 0,[(nid 90000+i,some (Ht m.2))]))
  | v=>some (v,[]))
 (match v with
  | .agg c=>(ER g c).bind fun q=>some (.pagg q.1 q.2.2,q.2.1)
  | .pagg c o=>some (.pagg c o,[])
  | _=>none)))
def Aa0 (h:A1):Nat→List (Nat×Nat)→LA→Option (LA×A1)
 | _,_,[]=>some ([],h)
 | i,ms,v::r=>(Ats (Ak h) i (ms.headD (0,0)) v).bind fun p=>(Aa0 (Al p.2 h) (i+1) ms.tail r).bind fun q=>some (p.1::q.1,q.2)
def Att (l:LA):AV:=match l with | [v]=>v | l=>.tup l
def Yw {R:Type} (E:Env) (fn:Func) (modes:List (Nat×Nat)) (outs:List Nat) (k:AV→A1→O R) (st:St):O R :=
 Q5 E st fn.results.toList [] fun l =>
 (Aa0 st.h 0 modes l).bind fun q =>
 let v:=Att q.1
 let g:=Ak q.2
 let ids:=IA g (ET g (Il v++outs))
 cond (UZ (ids.map (EW E.free ids))&&(SF ids (Il v)&&(SF ids (N4 g ids)&&ble ids.length 100000))) (k (aZ (EW E.free ids) v) (sub g (EW E.free ids) ids)) none
def qv:Nat→LA→Ik
 | _,[]=>[]
 | i,v::r=>(i,v)::qv (i+1) r
structure Hints where
 H:Hint
 nils:List (Nat×Nat):=[]
 modes:List (Nat×Nat):=[]
 free:List Nat:=[]
 cob:List Nat:=[]
def gW:A1→Bool
 | []=>true
 | (b,_)::r=>qu b&&gW r
noncomputable def mg {R:Type} (P:Program) (muts:Nat→List Bool) (T:List (Nat×Tw)) (hs:Hints) (N f:Nat) (args:LA) (h:A1) (k:AV→A1→O R):O R :=
 match P.funcs[f]? with
 | none=>none
 | some fn=>match fn.body with
  | none=>none
  | some c =>
   let E:Env:={ P,nt:=fn.ntmps,muts,nils:=hs.nils,free:=hs.free,cob:=hs.cob,tbl:=T }
   let outs:=h.map (·.1)
   let fin:=Yw E fn hs.modes outs k
   cond (ble args.length fn.ntmps&&gW h) (Fb E outs N c hs.H fin (fun _ _=>none) fin { s:=qv 0 args,h }) none
end Gx
namespace Gx
open Go
mutual
def RepC (J:Nat→Prop) (w:World):AV→Value→Prop
 | .int k n,v=>v=.int k n
 | .bool b,v=>v=.bool b
 | .str s,v=>v=.string ⟨⟨s⟩⟩
 | .nsl,v=>v=.slice none 0 0
 | .imm c len sz tight _,v=>c.length=len*sz∧∃ A cap,v=.slice A len cap∧len≤cap∧(tight=true→cap=len) ∧
   (len=0∨∃ a,A=some a∧J a.block∧RepCs J w c (fun j=>w.cell? (a.add j)) 0)
 | .iptr c _,v=>∃ a,v=.pointer (some a)∧J a.block∧RepCs J w c (fun j=>w.cell? (a.add j)) 0
 | .nilptr,v=>v=.pointer none
 | .nilfn,v=>v=.nilFunc
 | .fn f [],v=>v=.func (.func (f%1000000)) #[] #[]
 | _,_=>False
def RepCs (J:Nat→Prop) (w:World):List AV→(Nat→Option Value)→Nat→Prop
 | [],_,_=>True
 | x::r,rd,i=>(∃ u,rd i=some u∧RepC J w x u)∧RepCs J w r rd (i+1)
end
theorem Cb {J:Nat→Prop} {w:World}:∀ {c:LA} {rd:Nat→Option Value} {i:Nat},
  RepCs J w c rd i↔∀ j x,c[j]?=some x→∃ u,rd (i+j)=some u∧RepC J w x u:=by
 intro c
 induction c with
 | nil=>intro rd i;simp[RepCs]
 | cons x r f =>
  intro rd i
  rw[RepCs,f]
  constructor
  ·rintro⟨k,l⟩ j y d
   cases j with
   | zero=>simp at d;subst d;simpa using k
   | succ j=>have:=l j y (by simpa using d);rwa [show i+1+j=i+(j+1) by omega] at this
  ·intro h
   refine⟨by simpa using h 0 x (by simp),fun j y d=>?_⟩
   have:=h (j+1) y (by simpa using d)
   rwa [show i+(j+1)=i+1+j by omega] at this
def Aa1 (J:Nat→Prop) (w w':World):Prop:=∀ k,J k→w'.heap[k]?=w.heap[k]?
theorem kP {J:Nat→Prop} {w w':World} (h:Aa1 J w w') {a:Addr} (d:J a.block):w'.cell? a=w.cell? a:=by
 unfold World.cell?;rw[h a.block d]
theorem Xk (a:Addr) (n:Nat):(a.add n).block=a.block:=by unfold Addr.add;split<;>rfl
mutual
theorem RepC.keep {J J':Nat→Prop} {w w':World} (hJ:∀ k,J k→J' k) (hk:Aa1 J w w'):∀ {x:AV} {v:Value},RepC J w x v→RepC J' w' x v
 | .int ..,_,h=>h
 | .bool _,_,h=>h
 | .str _,_,h=>h
 | .nsl,_,h=>h
 | .imm c _ _ _ _,_,h=>by
  rw[RepC] at h ⊢
  obtain⟨h1,A,cap,h2,h3,h4,h5⟩:=h
  refine⟨h1,A,cap,h2,h3,h4,?_⟩
  rcases h5 with h5 | ⟨a,ha,hj,hc⟩
  ·exact .inl h5
  ·refine .inr ⟨a,ha,hJ _ hj,RepCs.keep hJ hk (c:=c) (fun j=>?_) hc⟩
   exact kP hk (by rw[Xk];exact hj)
 | .iptr c _,_,h=>by
  rw[RepC] at h ⊢
  obtain⟨a,ha,hj,hc⟩:=h
  exact⟨a,ha,hJ _ hj,RepCs.keep hJ hk (c:=c) (fun j=>kP hk (by rw[Xk];exact hj)) hc⟩
 | .nilptr,_,h=>h
 | .nilfn,_,h=>h
 | .fn _ [],_,h=>h
 | .fn _ (_::_),_,h=>by simp[RepC] at h
 | .pagg ..,_,h=>by simp[RepC] at h
 | .agg _,_,h=>by simp[RepC] at h
 | .tup _,_,h=>by simp[RepC] at h
 | .own ..,_,h=>by simp[RepC] at h
 | .optr ..,_,h=>by simp[RepC] at h
 | .undef,_,h=>by simp[RepC] at h
 | .omap _,_,h=>by simp[RepC] at h
theorem RepCs.keep {J J':Nat→Prop} {w w':World} (hJ:∀ k,J k→J' k) (hk:Aa1 J w w'):∀ {c:List AV} {rd rd':Nat→Option Value} {i:Nat},(∀ j,rd' j=rd j)→RepCs J w c rd i→RepCs J' w' c rd' i
 | [],_,_,_,_,_=>trivial
 | x::r,rd,rd',i,he,h=>by
  rw[RepCs] at h ⊢
  obtain⟨⟨u,hu,hx⟩,hr⟩:=h
  exact⟨⟨u,by rw[he];exact hu,RepC.keep hJ hk (x:=x) hx⟩,RepCs.keep hJ hk (c:=r) he hr⟩
end
abbrev Cu:=Nat→Option (Nat×Nat)
def Be (w:World) (k:Nat):Nat:=match w.heap[k]? with | some (.cells cs _ _)=>cs.size | _=>0
def Avo (sz k:Nat):Value:=match sz with | 0=>.map (some k) | _+1=>.pointer (some ⟨k,0,none⟩)
mutual
def Rep (J:Bool→Nat→Prop) (β:Cu) (h:A1) (w:World):AV→Value→Prop
 | .own b off n,v=>∃ x A cap,(Ak h b=some x∧x.mp=false)∧v=.slice A n cap∧n≤cap∧(cap=0∨∃ k o,A=some ⟨k,o+off,none⟩ ∧
   (x.dead=true∨(β b=some (k,o)∧o+off+cap*x.sz≤Be w k∧off+n*x.sz≤x.cells.length)))
 | .omap b,v=>∃ x k,(Ak h b=some x∧x.mp=true)∧(x.dead=true∨(β b=some (k,0)∧v=Avo x.sz k))
 | .optr b off,v=>∃ x k o,(Ak h b=some x∧x.mp=false)∧v=.pointer (some ⟨k,o+off,none⟩)∧(x.dead=true∨β b=some (k,o))
 | .pagg c org,v=>∃ cs,v=.agg ⟨cs⟩∧cs.length=c.length∧RepCs (J org) w c (fun j=>cs[j]?) 0
 | .agg c,v=>∃ cs,v=.agg ⟨cs⟩∧Reps J β h w c cs
 | .tup c,v=>∃ cs,v=.tuple ⟨cs⟩∧Reps J β h w c cs
 | .fn f c,v=>∃ cs:List Value,v=.func (.func (f%1000000)) ⟨cs.take (f/1000000)⟩ ⟨cs.drop (f/1000000)⟩∧Reps J β h w c cs
 | .undef,_=>True
 | .imm c n sz t org,v=>RepC (J org) w (.imm c n sz t org) v
 | .iptr c org,v=>RepC (J org) w (.iptr c org) v
 | .int k n,v=>v=.int k n
 | .bool b,v=>v=.bool b
 | .str s,v=>v=.string ⟨⟨s⟩⟩
 | .nsl,v=>v=.slice none 0 0
 | .nilptr,v=>v=.pointer none
 | .nilfn,v=>v=.nilFunc
def Reps (J:Bool→Nat→Prop) (β:Cu) (h:A1) (w:World):List AV→List Value→Prop
 | [],cs=>cs=[]
 | x::r,cs=>∃ u us,cs=u::us∧Rep J β h w x u∧Reps J β h w r us
end
structure Ext (J:Bool→Nat→Prop) (β:Cu) (h:A1) (w:World) (J':Bool→Nat→Prop) (β':Cu) (h':A1) (w':World):Prop where
 jsub:∀ o k,J o k→J' o k
 keep:∀ o,Aa1 (J o) w w'
 blk:∀ b x,Ak h b=some x→∃ x',(Ak h' b=some x'∧x'.mp=x.mp)∧(x'.dead=true∨(x.dead=false∧β' b=β b∧x'.sz=x.sz∧(x.mp=false→x'.cells.length=x.cells.length)))
 size:∀ b k o,β b=some (k,o)→Be w k≤Be w' k
mutual
theorem Rep.ext {J J':Bool→Nat→Prop} {β β':Cu} {h h':A1} {w w':World} (E:Ext J β h w J' β' h' w'):∀ {x:AV} {v:Value},Rep J β h w x v→Rep J' β' h' w' x v
 | .own b off n,v,hr=>by
  rw[Rep] at hr ⊢
  obtain⟨x,A,cap,⟨hx,hm⟩,h1,h2,hr⟩:=hr
  obtain⟨x',⟨hx',hm'⟩,hd⟩:=E.blk b x hx
  refine⟨x',A,cap,⟨hx',by rw[hm',hm]⟩,h1,h2,?_⟩
  rcases hr with hr | ⟨k,o,h3,hr⟩
  ·exact .inl hr
  ·refine .inr ⟨k,o,h3,?_⟩
   rcases hd with hd | ⟨hd,hβ,hs,hl⟩
   ·exact .inl hd
   ·rcases hr with hr | ⟨h4,h5,h6⟩
    ·simp[hd] at hr
    ·exact .inr ⟨by rw[hβ];exact h4,by rw[hs];exact A3f h5 (E.size b k o h4),by rw[hs,hl hm];exact h6⟩
 | .optr b off,v,hr=>by
  rw[Rep] at hr ⊢
  obtain⟨x,k,o,⟨hx,hm⟩,h1,hr⟩:=hr
  obtain⟨x',⟨hx',hm'⟩,hd⟩:=E.blk b x hx
  refine⟨x',k,o,⟨hx',by rw[hm',hm]⟩,h1,?_⟩
  rcases hd with hd | ⟨hd,hβ,hs,hl⟩
  ·exact .inl hd
  ·rcases hr with hr | hr
   ·simp[hd] at hr
   ·exact .inr (by rw[hβ];exact hr)
 | .omap b,v,hr=>by
  rw[Rep] at hr ⊢
  obtain⟨x,k,⟨hx,hm⟩,hr⟩:=hr
  obtain⟨x',⟨hx',hm'⟩,hd⟩:=E.blk b x hx
  refine⟨x',k,⟨hx',by rw[hm',hm]⟩,?_⟩
  rcases hd with hd | ⟨hd,hβ,hs,hl⟩
  ·exact .inl hd
  ·rcases hr with hr | ⟨hr,hv⟩
   ·simp[hd] at hr
   ·exact .inr ⟨by rw[hβ];exact hr,by rw[hs];exact hv⟩
 | .pagg c org,v,hr=>by
  rw[Rep] at hr ⊢
  obtain⟨cs,h1,h2,h3⟩:=hr
  exact⟨cs,h1,h2,RepCs.keep (E.jsub org) (E.keep org) (fun _=>rfl) h3⟩
 | .agg c,v,hr=>by
  rw[Rep] at hr ⊢
  obtain⟨cs,h1,h2⟩:=hr
  exact⟨cs,h1,Reps.ext E (c:=c) h2⟩
 | .tup c,v,hr=>by
  rw[Rep] at hr ⊢
  obtain⟨cs,h1,h2⟩:=hr
  exact⟨cs,h1,Reps.ext E (c:=c) h2⟩
 | .fn f c,v,hr=>by
  rw[Rep] at hr ⊢
  obtain⟨cs,h1,h2⟩:=hr
  exact⟨cs,h1,Reps.ext E (c:=c) h2⟩
 | .undef,_,_=>by rw[Rep];trivial
 | .imm c n sz t org,v,hr=>by rw[Rep] at hr ⊢;exact RepC.keep (E.jsub org) (E.keep org) hr
 | .iptr c org,v,hr=>by rw[Rep] at hr ⊢;exact RepC.keep (E.jsub org) (E.keep org) hr
 | .int ..,_,hr=>hr
 | .bool _,_,hr=>hr
 | .str _,_,hr=>hr
 | .nsl,_,hr=>hr
 | .nilptr,_,hr=>hr
 | .nilfn,_,hr=>hr
theorem Reps.ext {J J':Bool→Nat→Prop} {β β':Cu} {h h':A1} {w w':World} (E:Ext J β h w J' β' h' w'):∀ {c:List AV} {cs:List Value},Reps J β h w c cs→Reps J' β' h' w' c cs
 | [],_,hr=>hr
 | x::r,cs,hr=>by
  rw[Reps] at hr ⊢
  obtain⟨u,us,h1,h2,h3⟩:=hr
  exact⟨u,us,h1,Rep.ext E (x:=x) h2,Reps.ext E (c:=r) h3⟩
end
end Gx
namespace Gx
open Go
def Asz:List (Nat×List Value):=[(1,(List.range 20).map fun i=>.int .u64 ((10 ^ i:Nat):Int))]
def Afc:List Nat:=[0]
end Gx
namespace Gx
open Go
def CellsRep (J:Bool→Nat→Prop) (β:Cu) (h:A1) (w:World) (x:Blk) (rd:Nat→Option Value):Prop :=
 (x.pure=true→RepCs (J x.taint) w x.cells rd 0) ∧
 (x.pure=false→∀ j c,x.cells[j]?=some c→∃ u,rd j=some u∧Rep J β h w c u∧u.oneCell'=true)
def FrOk (n:Nat) (fr:Nat×Nat):Prop:=fr.1=fr.2∨n≤fr.1
theorem FrOk.at {n:Nat} {fr:Nat×Nat} (h:FrOk n fr) (j:Nat) (d:j<n):¬ (fr.1≤j∧j<fr.2):=by rcases h with h | h<;>omega
def TyOk (X:Option (Nat×Nat)) (ty:TypeId) (o n:Nat):Prop:=∀ t m,X=some (t,m)→ty=t∧o=0∧(m=0∨n=m)
def FrTy (X:Option (Nat×Nat)) (ty:TypeId) (o n:Nat) (fr:Nat×Nat):Prop:=FrOk n fr∧TyOk X ty o n
theorem TyOk.none {ty:TypeId} {o n:Nat}:TyOk .none ty o n:=fun _ _ h=>by cases h
theorem FrOk.un {n:Nat} {fr:Nat×Nat} (h:FrOk n fr) {ty:TypeId} {o:Nat}:FrTy .none ty o n fr:=⟨h,TyOk.none⟩
theorem FrTy.un0 {ty:TypeId} {o n a:Nat}:FrTy .none ty o n (a,a):=⟨.inl rfl,TyOk.none⟩
def Atu (J:Bool→Nat→Prop) (β:Cu) (h:A1) (w:World) (b:Nat) (x:Blk):Prop :=
 (β b=none∧x.cells=[])∨∃ k o cs ty fr,β b=some (k,o)∧w.heap[k]?=some (.cells cs ty fr) ∧
  FrTy x.ty ty o cs.size fr∧o+x.cells.length≤cs.size∧CellsRep J β h w x (fun j=>cs[o+j]?) ∧
  (x.sealed=false→∀ g,¬ J g k)∧(x.sealed=true→J x.taint k)
def Atv (c:LA) (es:Array MapEntry):Prop:=∃ l:List Int,c=l.map (fun n=>.int .i64 n)∧es.toList.map (fun e=>(e.key,e.val))=l.map (fun n=>(.int .i64 n,.bool true))
def ObjIs (x:Blk) (ob:Obj):Prop:=(x.sz=0∧∃ es clk,ob=.map es clk∧Atv x.cells es)∨(x.sz=1∧∃ s pos,ob=.stringIter ⟨⟨s⟩⟩ pos∧x.cells=[.str s,.int .i64 (pos:Int)])
def MapRep (J:Bool→Nat→Prop) (β:Cu) (w:World) (b:Nat) (x:Blk):Prop :=
 x.pure=true∧x.sealed=false∧∃ k ob,β b=some (k,0)∧w.heap[k]?=some ob∧ObjIs x ob∧∀ g,¬ J g k
theorem ObjIs.row {x:Blk} {ob:Obj} (h:ObjIs x ob) {cs:Array Value} {ty:TypeId} {fr:Nat×Nat}:ob≠.cells cs ty fr:=by
 rcases h with⟨_,es,clk,rfl,_⟩ | ⟨_,s,pos,rfl,_⟩<;>exact fun h=>by cases h
def GlobOk (J:Bool→Nat→Prop) (w:World):Prop:=(∀ p ∈ Asz,J false p.1∧∃ ty fr,w.heap[p.1]?=some (.cells p.2.toArray ty fr))∧∀ g ∈ Afc,J false g∧∃ m,w.cell? ⟨g,0,none⟩=some (.int .i64 m)
theorem GlobOk.to {J J':Bool→Nat→Prop} {w w':World} (h:GlobOk J w) (l:∀ k,J false k→J' false k) (n:Aa1 (J false) w w'):GlobOk J' w':=⟨fun p d =>
 ⟨l _ (h.1 p d).1,by rw[n _ (h.1 p d).1];exact(h.1 p d).2⟩,fun g f=>⟨l _ (h.2 g f).1,by rw[kP n (by exact(h.2 g f).1)];exact(h.2 g f).2⟩⟩
theorem GlobOk.ext {J J':Bool→Nat→Prop} {β β':Cu} {h h':A1} {w w':World} (G:GlobOk J w) (E:Ext J β h w J' β' h' w'):GlobOk J' w':=G.to (E.jsub false) (E.keep false)
structure SimH (J:Bool→Nat→Prop) (β:Cu) (h:A1) (w:World):Prop where
 jlt:∀ o k,J o k→k<w.heap.size
 jft:∀ k,J false k→J true k
 gl:GlobOk J w
 blk:∀ b x,Ak h b=some x→x.dead=false→x.mp=false→Atu J β h w b x
 mblk:∀ b x,Ak h b=some x→x.dead=false→x.mp=true→MapRep J β w b x
 sep:∀ b b' x x' k o o',Ak h b=some x→Ak h b'=some x'→x.dead=false→x'.dead=false→x.sealed=false→β b=some (k,o)→β b'=some (k,o')→b=b'
mutual
theorem OY {J:Bool→Nat→Prop} {β:Cu} {h:A1} {w:World}:∀ v:Value,Rep J β h w (jz v) v
 | .int ..=>by simp[jz,Rep]
 | .bool _=>by simp[jz,Rep]
 | .string ⟨⟨s⟩⟩=>by simp[jz,Rep]
 | .slice none 0 0=>by simp[jz,Rep]
 | .slice none 0 (_+1)=>by simp[jz,Rep]
 | .slice none (_+1) _=>by simp[jz,Rep]
 | .slice (some _) _ _=>by simp[jz,Rep]
 | .pointer none=>by simp[jz,Rep]
 | .pointer (some _)=>by simp[jz,Rep]
 | .nilFunc=>by simp[jz,Rep]
 | .agg ⟨cs⟩=>by rw[jz,Rep];exact⟨cs,rfl,ZG cs⟩
 | .float ..=>by simp[jz,Rep]
 | .complex ..=>by simp[jz,Rep]
 | .map _=>by simp[jz,Rep]
 | .chan _=>by simp[jz,Rep]
 | .func ..=>by simp[jz,Rep]
 | .iface ..=>by simp[jz,Rep]
 | .nilIface=>by simp[jz,Rep]
 | .tuple _=>by simp[jz,Rep]
theorem ZG {J:Bool→Nat→Prop} {β:Cu} {h:A1} {w:World}:∀ cs:List Value,Reps J β h w (N3 cs) cs
 | []=>by simp[N3,Reps]
 | v::r=>by rw[N3,Reps];exact⟨v,r,rfl,OY v,ZG r⟩
end
structure SimS (J:Bool→Nat→Prop) (β:Cu) (h:A1) (w:World) (s:Ik) (t:Array Value):Prop where
 slot:∀ i v,t[i]?=some v→Rep J β h w (Hs s i) v
 out:∀ i,t.size≤i→Hs s i=.undef
theorem Bj {J:Bool→Nat→Prop} {β:Cu} {h:A1} {w:World} {s:Ik} {a:Act} (H:SimS J β h w s a.tmps) (x:Operand):Rep J β h w (ev s x) (a.eval x):=by
 cases x with
 | tmp t =>
  rw[ev,Act.eval,A3o]
  cases d:a.tmps[t]? with
  | some v=>exact H.slot t v d
  | none =>
   have:a.tmps.size≤t:=by simpa using d
   rw[H.out t this];simp[Rep]
 | const v=>exact OY v
 | global g=>simp[ev,Rep]
 | func f =>
  rw[ev]
  cases k:Nat.blt f 1000000 with
  | false=>simp[Rep]
  | true =>
   have:f<1000000:=by simpa using k
   simp[Rep,Act.eval,Reps,A2b this]
section
variable {R:Type} {r:R} {P:Program} {J:Bool→Nat→Prop} {β:Cu} {h:A1} {w:World}
theorem xy {t:TypeId} {op:BinOp} {k:IntKind} {a b:Int} {v:AV} (d:kA op k a b=some v) :
  ∃ vc,(binOp op t (.int k a) (.int k b)).run P w=.ok vc w∧Rep J β h w v vc:=by
 cases op<;>simp[kA] at d<;>subst d<;>simp[binOp,Op.intArith,Op.intBits,Op.intCmp,Rep]
theorem Afd {op:BinOp} {t:TypeId} {x y:AV} {k:AV→O R} {vx vy:Value} (f:Akc P t op x y k=some r) (hx:Rep J β h w x vx) (z:Rep J β h w y vy) (ox oy:Operand) :
  ∃ v vc,k v=some r∧(do eqGuard op t ox oy vx vy;binOp op t vx vy:Sem Value).run P w=.ok vc w∧Rep J β h w v vc:=by
 unfold Akc at f
 split at f
 ·rename_i s a k2 b
  rw[Rep] at hx z;subst hx z
  have n:(eqGuard op t ox oy (.int s a) (.int k2 b)).run P w=.ok () w:=by
   unfold eqGuard;cases op<;>simp
  split at f
  ·cases l:decide (b<0)<;>rw[l] at f<;>simp at f l
   refine⟨_,_,f,?_,by rw[Rep]⟩
   simp[n,binOp,Op.shift];intro D;omega
  ·cases l:decide (b<0)<;>rw[l] at f<;>simp at f l
   refine⟨_,_,f,?_,by rw[Rep]⟩
   simp[n,binOp,Op.shift];intro D;omega
  ·cases u:P2 s k2<;>rw[u] at f<;>simp at f
   have q:s=k2:=by simpa[P2] using u
   subst q
   cases l:(b==0)<;>rw[l] at f<;>simp at f l
   refine⟨_,_,f,?_,by rw[Rep]⟩
   simp[n,binOp,Op.intDiv,l]
  ·cases u:P2 s k2<;>rw[u] at f<;>simp at f
   have q:s=k2:=by simpa[P2] using u
   subst q
   cases l:(b==0)<;>rw[l] at f<;>simp at f l
   refine⟨_,_,f,?_,by rw[Rep]⟩
   simp[n,binOp,Op.intDiv,l]
  ·cases u:P2 s k2<;>rw[u] at f<;>simp at f
   have q:s=k2:=by simpa[P2] using u
   subst q
   cases hi:kA op s a b with
   | none=>rw[hi] at f;simp at f
   | some v =>
    rw[hi] at f
    obtain⟨vc,F,G⟩:=xy (P:=P) (J:=J) (β:=β) (h:=h) (w:=w) (t:=t) hi
    exact⟨v,vc,by simpa using f,by simp[n,F],G⟩
 ·rename_i a b
  rw[Rep] at hx z;subst hx z
  split at f
  ·cases l:ZA P t<;>rw[l] at f<;>simp at f
   have A:P.underlying t=some .bool:=by unfold ZA at l;split at l<;>simp_all
   refine⟨_,_,f,?_,by rw[Rep]⟩
   have C:(Op.equal t (.bool a) (.bool b)).run P w=.ok (a==b) w:=by
    have:∀ d,(Op.equalIn (d+1) t (.bool a) (.bool b)).run P w=.ok (a==b) w:=fun d=>by
     unfold Op.equalIn;simp only[Sem.run_bind,run_underlying A,Result.andThen_ok,Sem.run_pure]
    exact this 9999
   have n:∀ op,(eqGuard op t ox oy (.bool a) (.bool b)).run P w=.ok () w:=fun op=>by unfold eqGuard;cases op<;>simp
   simp only[Sem.run_bind,n,Result.andThen_ok,binOp,C,Sem.run_pure]
  ·cases l:ZA P t<;>rw[l] at f<;>simp at f
   have A:P.underlying t=some .bool:=by unfold ZA at l;split at l<;>simp_all
   refine⟨_,_,f,?_,by rw[Rep]⟩
   have C:(Op.equal t (.bool a) (.bool b)).run P w=.ok (a==b) w:=by
    have:∀ d,(Op.equalIn (d+1) t (.bool a) (.bool b)).run P w=.ok (a==b) w:=fun d=>by
     unfold Op.equalIn;simp only[Sem.run_bind,run_underlying A,Result.andThen_ok,Sem.run_pure]
    exact this 9999
   have n:∀ op,(eqGuard op t ox oy (.bool a) (.bool b)).run P w=.ok () w:=fun op=>by unfold eqGuard;cases op<;>simp
   simp only[Sem.run_bind,n,Result.andThen_ok,binOp,C,Sem.run_pure]
  ·simp at f
 ·rename_i a b
  rw[Rep] at hx z;subst hx z
  have I:(⟨⟨a⟩⟩:ByteArray).toList=a:=by simp[ByteArray.toList_eq]
  have eb:(⟨⟨b⟩⟩:ByteArray).toList=b:=by simp[ByteArray.toList_eq]
  have n:∀ op,(eqGuard op t ox oy (.string ⟨⟨a⟩⟩) (.string ⟨⟨b⟩⟩)).run P w=.ok () w:=fun op=>by unfold eqGuard;cases op<;>simp
  split at f
  ·cases l:ble (a.length+b.length) 140737488355328<;>rw[l] at f<;>simp at f l
   refine⟨_,_,f,?_,by rw[Rep]⟩
   have M:¬ (((⟨⟨a⟩⟩:ByteArray).size+(⟨⟨b⟩⟩:ByteArray).size:Nat):Int)>IntKind.i64.max:=by
    show ¬ ((a.length+b.length:Nat):Int)>9223372036854775807
    omega
   have S:(⟨⟨a⟩⟩:ByteArray)++⟨⟨b⟩⟩=⟨⟨a++b⟩⟩:=by
    apply ByteArray.ext;simp[ByteArray.data_append]
   simp only[Sem.run_bind,n,Result.andThen_ok,binOp,Op.stringOp,if_neg M,Sem.run_pure,S]
  all_goals first
   | (refine⟨_,_,f,?_,by rw[Rep]⟩;simp only[Sem.run_bind,n,Result.andThen_ok,binOp,Op.stringOp,Sem.run_pure,I,eb];done)
   | simp at f
 ·simp at f
end
end Gx
namespace Gx
open Go
section
variable {R:Type} {r:R} {P:Program} {J:Bool→Nat→Prop} {β:Cu} {h:A1} {w:World}
theorem ub {α:Type} {o:Option α} {f:α→O R} (d:o.bind f=some r):∃ x,o=some x∧f x=some r:=by
 cases o with
 | none=>simp at d
 | some x=>exact⟨x,rfl,by simpa using d⟩
theorem uc {b:Bool} {x:O R} (d:cond b x none=some r):b=true∧x=some r:=by
 cases b<;>simp at d;exact⟨rfl,d⟩
theorem Afe {b:Bool} {x:O R} (d:cond b none x=some r):b=false∧x=some r:=by
 cases b<;>simp at d;exact⟨rfl,d⟩
theorem Akh {op:UnOp} {x v:AV} {vx:Value} (d:Ax6 op x=some v) (hx:Rep J β h w x vx) :
  ∃ vc,(Op.unary op vx).run P w=.ok vc w∧Rep J β h w v vc:=by
 unfold Ax6 at d
 split at d
 ·rename_i k n
  rw[Rep] at hx;subst hx;simp at d;subst d
  refine⟨.int k (k.wrap (-n)),by simp[Op.unary,Op.intArith],?_⟩
  rw[Rep]
 ·rename_i k n
  rw[Rep] at hx;subst hx
  have f:=d
  rw[kA] at f
  simp only[A3g] at f;subst f
  refine⟨_,rfl,?_⟩
  rw[Rep];cases k.signed<;>rfl
 ·rename_i b
  rw[Rep] at hx;subst hx;simp at d;subst d
  exact⟨.bool (!b),by simp[Op.unary],by rw[Rep]⟩
 ·simp at d
def mh (P:Program) (J:Bool→Nat→Prop) (β:Cu) (h:A1) (w:World) (t:TypeId) (rd:Nat→Option Value) (v:AV):Prop :=
 (∃ d,P.underlying t=some d∧d.isRow=false∧∃ u,rd 0=some u∧Rep J β h w v u) ∨
 (∃ d,P.underlying t=some d∧d.isRow=true∧∃ us:List Value,(P.info? t).map (·.size)=some us.length∧(∀ j u,us[j]?=some u→rd j=some u)∧Rep J β h w v (.agg us.toArray))
theorem RepCs.at {J:Nat→Prop} {c:LA} {rd:Nat→Option Value} (d:RepCs J w c rd 0) {j:Nat} {x:AV} (f:c[j]?=some x):∃ u,rd j=some u∧RepC J w x u:=by
 have:=Cb.1 d j x f;simpa using this
theorem RepCs.drop {J:Nat→Prop} {c:LA} {rd:Nat→Option Value} (d:RepCs J w c rd 0) (n:Nat):RepCs J w (c.drop n) (fun j=>rd (n+j)) 0:=by
 rw[Cb] at d ⊢
 intro j x f
 rw[A27] at f
 simpa using d (n+j) x f
theorem RepCs.take {J:Nat→Prop} {c:LA} {rd:Nat→Option Value} (f:RepCs J w c rd 0) (n:Nat):RepCs J w (c.take n) rd 0:=by
 rw[Cb] at f ⊢
 intro j x d
 rw[A28] at d
 split at d
 ·exact f j x d
 ·simp at d
theorem RepCs.list {J:Nat→Prop} {c:LA} {rd:Nat→Option Value} (k:RepCs J w c rd 0) :
  ∃ us:List Value,us.length=c.length∧(∀ j u,us[j]?=some u→rd j=some u)∧RepCs J w c (fun j=>us[j]?) 0:=by
 refine⟨c.zipIdx.map fun p=>(rd p.2).getD undef,by simp,fun j u d=>?_,?_⟩
 ·rw[A3a,A5w] at d
  cases hx:c[j]? with
  | none=>rw[hx] at d;simp at d
  | some x =>
   rw[hx] at d
   obtain⟨l,f,_⟩:=k.at hx
   simp[f] at d
   rw[f,d]
 ·rw[Cb]
  intro j x d
  obtain⟨u,f,hr⟩:=k.at d
  refine⟨u,?_,hr⟩
  simp[d,f]
theorem mj {J1 J2:Nat→Prop}:∀ {c:LA} {rd:Nat→Option Value} {i:Nat},A2 c=true→RepCs J1 w c rd i→RepCs J2 w c rd i
 | [],_,_,_,_=>trivial
 | x::r,rd,i,d,f=>by
  rw[RepCs] at f ⊢
  obtain⟨⟨u,k,n⟩,l⟩:=f
  have hr:A2 r=true:=by unfold A2 at d;split at d<;>simp_all
  refine⟨⟨u,k,?_⟩,mj hr l⟩
  unfold A2 at d
  split at d<;>simp_all[RepC]
theorem dI {t:TypeId} {c:LA} {org:Bool} {k:Bool→O R} {rd:Nat→Option Value} {i:Nat} (d:DH P t c org k=some r) (f:RepCs (J org) w c rd i):∃ o,k o=some r∧RepCs (J o) w c rd i:=by
 unfold DH at d
 cases l:Aii P t with
 | true=>rw[l] at d;exact⟨org,d,f⟩
 | false =>
  rw[l,cond_false] at d
  obtain⟨n,q⟩:=uc d
  refine⟨false,q,?_⟩
  cases org with
  | false=>exact f
  | true=>exact mj (by simpa using n) f
theorem Z2 {t:TypeId} {c:LA} {org:Bool} {k:AV→O R} {rd:Nat→Option Value} (f:UT P t c org k=some r) (z:RepCs (J org) w c rd 0) :
  ∃ v,k v=some r∧mh P J β h w t rd v:=by
 unfold UT at f
 have agg:∀ {d:TypeDesc},P.underlying t=some d→d.isRow=true→((Bv P t).bind fun n=>cond (ble n c.length) (DH P t (c.take n) org fun o=>k (.pagg (c.take n) o)) none)=some r →
   ∃ v,k v=some r∧mh P J β h w t rd v:=by
  intro d q T f
  obtain⟨n,hn,f⟩:=ub f
  obtain⟨G,f⟩:=uc f
  have S:n≤c.length:=by simpa using G
  obtain⟨us,s,l,I⟩:=(z.take n).list
  have U:us.length=n:=by rw[s];simp;omega
  obtain⟨o,f,M⟩:=dI f I
  refine⟨_,f,.inr ⟨d,q,T,us,?_,l,?_⟩⟩
  ·rw[U];exact hn
  ·rw[Rep];exact⟨us,rfl,by rw[s],M⟩
 split at f
 ·rename_i kd q
  obtain⟨x,hx,f⟩:=ub f
  obtain⟨n,hn,f⟩:=ub f
  obtain⟨u,s,l⟩:=z.at (by rw[←A19];exact hx)
  refine⟨_,f,.inl ⟨_,q,rfl,u,s,?_⟩⟩
  unfold dF at hn
  split at hn
  ·obtain⟨C,D⟩:=uc hn
   simp[P2] at C D;subst C;subst D
   rw[RepC] at l;rw[Rep];exact l
  ·simp at hn
 ·rename_i q
  obtain⟨x,hx,f⟩:=ub f
  obtain⟨n,hn,f⟩:=ub f
  obtain⟨u,s,l⟩:=z.at (by rw[←A19];exact hx)
  refine⟨_,f,.inl ⟨_,q,rfl,u,s,?_⟩⟩
  unfold asBool at hn
  split at hn
  ·simp at hn;subst hn
   rw[RepC] at l;rw[Rep];exact l
  ·simp at hn
 ·rename_i q
  obtain⟨x,hx,f⟩:=ub f
  obtain⟨n,hn,f⟩:=ub f
  obtain⟨u,s,l⟩:=z.at (by rw[←A19];exact hx)
  refine⟨_,f,.inl ⟨_,q,rfl,u,s,?_⟩⟩
  unfold m0 at hn
  split at hn
  ·simp at hn;subst hn
   rw[RepC] at l;rw[Rep];exact l
  ·simp at hn
 ·rename_i e q
  obtain⟨sz,V,f⟩:=ub f
  obtain⟨x,hx,f⟩:=ub f
  obtain⟨p,y,f⟩:=ub f
  obtain⟨u,s,l⟩:=z.at (by rw[←A19];exact hx)
  refine⟨_,f,.inl ⟨_,q,rfl,u,s,?_⟩⟩
  unfold Am4 at y
  rw[Rep,RepC]
  split at y
  ·obtain⟨C,F⟩:=uc y
   simp at C F;subst C;subst F
   rw[RepC] at l
   obtain⟨I,A,cap,M,X,h6,Y⟩:=l
   exact⟨I,A,cap,M,X,by simp,Y⟩
  ·simp at y;subst y
   rw[RepC] at l
   exact⟨by simp,none,0,l,by simp,by simp,.inl rfl⟩
  ·simp at y
 ·rename_i q;exact agg q rfl f
 ·rename_i q;exact agg q rfl f
 ·simp at f
theorem Cv:∀ {c:LA} {cs:List Value},Reps J β h w c cs↔cs.length=c.length∧∀ (j:Nat) (x:AV) (u:Value),c[j]?=some x→cs[j]?=some u→Rep J β h w x u
 | [],cs=>by rw[Reps];simp
 | x::r,cs=>by
  rw[Reps]
  constructor
  ·rintro⟨u,us,rfl,k,l⟩
   rw[Cv] at l
   refine⟨by simp[l.1],fun j y v d f=>?_⟩
   cases j with
   | zero=>simp at d f;subst d f;exact k
   | succ j=>exact l.2 j y v (by simpa using d) (by simpa using f)
  ·rintro⟨n,k⟩
   cases cs with
   | nil=>simp at n
   | cons u us =>
    refine⟨u,us,rfl,k 0 x u (by simp) (by simp),?_⟩
    rw[Cv]
    exact⟨by simpa using n,fun j y v d f=>k (j+1) y v (by simpa using d) (by simpa using f)⟩
theorem VA {t:TypeId} {c:LA} {k:AV→O R} {rd:Nat→Option Value} (f:m7 P t c k=some r)
  (z:∀ j x,c[j]?=some x→∃ u,rd j=some u∧Rep J β h w x u) :
  ∃ v,k v=some r∧mh P J β h w t rd v:=by
 unfold m7 at f
 have agg:∀ {d:TypeDesc},P.underlying t=some d→d.isRow=true→((Bv P t).bind fun n=>cond (ble n c.length) (k (.agg (c.take n))) none)=some r →
   ∃ v,k v=some r∧mh P J β h w t rd v:=by
  intro d l C f
  obtain⟨n,hn,f⟩:=ub f
  obtain⟨A,f⟩:=uc f
  have y:n≤c.length:=by simpa using A
  refine⟨_,f,.inr ⟨d,l,C,(c.take n).zipIdx.map fun p=>(rd p.2).getD undef,?_,fun j u s=>?_,?_⟩⟩
  ·simp;rw[A2h y];exact A4p.1 hn
  ·rw[A3a,A5w] at s
   cases hx:(c.take n)[j]? with
   | none=>rw[hx] at s;simp at s
   | some x =>
    rw[hx] at s
    rw[A28] at hx
    split at hx
    ·obtain⟨D,q,_⟩:=z j x hx
     simp[q] at s
     rw[q,s]
    ·simp at hx
  ·rw[Rep]
   refine⟨_,rfl,Cv.2 ⟨by simp,fun j x u hx l=>?_⟩⟩
   simp[hx] at l
   rw[A28] at hx
   split at hx
   ·obtain⟨D,q,hr⟩:=z j x hx
    simp[q] at l;subst l;exact hr
   ·simp at hx
 split at f
 ·rename_i l;exact agg l rfl f
 ·rename_i l;exact agg l rfl f
 ·rename_i d _ _ l
  obtain⟨x,hx,f⟩:=ub f
  obtain⟨u,F,G⟩:=z 0 x (by rw[←A19];exact hx)
  refine⟨x,f,.inl ⟨d,l,?_,u,F,G⟩⟩
  cases d<;>simp_all
 ·simp at f
theorem wT {n:Nat} {k:AV→O R}:∀ {c:LA} {i:Nat},OR n k c i=some r→i≤n∧∃ x,c[n - i]?=some x∧k x=some r
 | [],i,d=>by simp[OR] at d
 | v::c,i,d=>by
  rw[OR] at d
  cases f:beq n i with
  | true =>
   rw[f] at d
   have:n=i:=A1n f
   subst this
   exact⟨A1h _,v,by simp,d⟩
  | false =>
   rw[f] at d
   obtain⟨s,x,l,q⟩:=wT (c:=c) d
   refine⟨by omega,x,?_,q⟩
   rw[show n - i=(n - (i+1))+1 by omega];simpa using l
theorem gX {t:TypeId} {c:LA} {off:Nat} {k:AV→O R} (f:UU P t c off k=some r):m7 P t (c.drop off) k=some r:=by
 unfold UU at f
 unfold m7
 split at f
 ·exact f
 ·exact f
 ·rename_i d s u v
  obtain⟨_,x,l,n⟩:=wT f
  have q:(c.drop off).head?=some x:=by rw[A19,A27];simpa using l
  rw[q];exact n
 ·simp at f
theorem ZH {t:TypeId} {d:TypeDesc} (f:P.underlying t=some d):(isAgg t).run P w=.ok d.isRow w:=by
 unfold isAgg
 rw[Sem.run_bind,run_underlying f w]
 cases d<;>simp
theorem dJ {t:TypeId} {a:Addr} {v:AV} (hr:mh P J β h w t (fun j=>w.cell? (a.add j)) v):∃ vc,(loadVar t a).run P w=.ok vc w∧Rep J β h w v vc:=by
 rcases hr with⟨d,k,l,u,f,n⟩ | ⟨d,k,l,us,f,n,s⟩
 ·refine⟨u,?_,n⟩
  have q:w.cell? a=some u:=by simpa[Addr.add] using f
  simp[loadVar,ZH k,l,q]
 ·refine⟨_,?_,s⟩
  have x:=run_loadCells_list (P:=P) w a us n
  cases hq:P.info? t with
  | none=>simp[hq] at f
  | some i =>
   have hs:i.size=us.length:=by simpa[hq] using f
   simp[loadVar,Sem.run_bind,ZH k,l,Go.sizeOf,typeInfo,hq,hs,x]
theorem Yx {t:TypeId} {cs:List Value} {off:Nat} {v:AV} (hr:mh P J β h w t (fun j=>cs[off+j]?) v):∃ vc,(part t ⟨cs⟩ off).run P w=.ok vc w∧Rep J β h w v vc:=by
 rcases hr with⟨d,k,l,u,f,n⟩ | ⟨d,k,l,us,f,n,s⟩
 ·refine⟨u,?_,n⟩
  simp at f
  simp[part,ZH k,l,f]
 ·refine⟨_,?_,s⟩
  cases hq:P.info? t with
  | none=>simp[hq] at f
  | some i =>
   have hs:i.size=us.length:=by simpa[hq] using f
   have:(⟨cs⟩:Array Value).extract off (off+us.length)=us.toArray:=by
    apply A26
    simp
    apply List.ext_getElem?
    intro j
    rw[A28,A27]
    split
    ·rename_i q
     rw[A1g q]
     exact n j _ (A1g q)
    ·rename_i q
     rw[A2u (by omega)]
   simp only[part,Sem.run_bind,ZH k,l,Go.sizeOf,typeInfo,run_program,Result.andThen_ok,hq,Sem.run_pure,hs,if_true,this]
end
end Gx
namespace Gx
open Go
section
variable {R:Type} {r:R} {P:Program} {J:Bool→Nat→Prop} {β:Cu} {h:A1} {w:World} {g:Bk}
theorem Sk {k:Nat} {cs:Array Value} {ty:TypeId} {fr:Nat×Nat} (d:w.heap[k]?=some (.cells cs ty fr)) (i:Nat):w.cell? ⟨k,i,none⟩=cs[i]?:=by
 simp[World.cell?,d]
def Looks (g:Bk) (h:A1):Prop:=∀ b x,g b=some x→Ak h b=some x
theorem D3 {b:Nat} {x:Blk} (f:Looks g h) (d:Hm g b=some x):Ak h b=some x∧x.dead=false:=by
 unfold Hm at d
 obtain⟨y,k,d⟩:=ub d
 obtain⟨l,d⟩:=Afe d
 simp at d;subst d
 exact⟨f b _ k,l⟩
theorem xz {b off:Nat} {x:Blk} {v:Value} (S:SimH J β h w) (n:Ak h b=some x) (q:x.dead=false) (hr:Rep J β h w (.optr b off) v) :
  ∃ k o cs ty fr,β b=some (k,o)∧v=.pointer (some ⟨k,o+off,none⟩)∧w.heap[k]?=some (.cells cs ty fr) ∧
  FrTy x.ty ty o cs.size fr∧o+x.cells.length≤cs.size∧CellsRep J β h w x (fun j=>cs[o+j]?) ∧
  (x.sealed=false→∀ g,¬ J g k)∧(x.sealed=true→J x.taint k):=by
 rw[Rep] at hr
 obtain⟨y,k,o,⟨f,s⟩,t,hr⟩:=hr
 rw[n] at f;simp at f;subst f
 rcases hr with hr | l
 ·simp[q] at hr
 ·rcases S.blk b x n q s with⟨hn,_⟩ | ⟨G,o',cs,ty,fr,d,u,z,A,C,D,F⟩
  ·rw[l] at hn;simp at hn
  ·rw[l] at d;simp at d;obtain⟨rfl,rfl⟩:=d
   exact⟨k,o,cs,ty,fr,l,t,u,z,A,C,D,F⟩
theorem CellsRep.reads {t:TypeId} {x:Blk} {cs:Array Value} {o off:Nat} {k:AV→O R} (q:CellsRep J β h w x (fun j=>cs[o+j]?))
  (d:cond x.pure (UT P t (x.cells.drop off) x.taint k) (UU P t x.cells off k)=some r) :
  ∃ v,k v=some r∧mh P J β h w t (fun j=>cs[o+off+j]?) v:=by
 cases f:x.pure with
 | true =>
  rw[f] at d
  have:=(q.1 f).drop off
  obtain⟨v,l,n⟩:=Z2 (β:=β) (h:=h) d this
  exact⟨v,l,by simpa[A2l] using n⟩
 | false =>
  rw[f] at d
  obtain⟨v,l,n⟩:=VA (J:=J) (β:=β) (h:=h) (w:=w) (rd:=fun j=>cs[o+(off+j)]?) (gX d) (fun j y s=>by
   rw[A27] at s
   obtain⟨u,z,hr,_⟩:=q.2 f _ _ s
   exact⟨u,z,hr⟩)
  exact⟨v,l,by simpa[A2l] using n⟩
theorem mm {t:TypeId} {p:AV} {vp:Value} {k:AV→O R} (S:SimH J β h w) (z:Looks g h) (d:qn P g t p k=some r) (f:Rep J β h w p vp) :
  ∃ v vc,k v=some r∧(Instr.loadAt t vp).run P w=.ok vc w∧Rep J β h w v vc:=by
 unfold qn at d
 split at d
 ·rename_i c org
  rw[Rep,RepC] at f
  obtain⟨a,rfl,_,l⟩:=f
  obtain⟨v,n,q⟩:=Z2 (β:=β) (h:=h) d l
  obtain⟨vc,s,u⟩:=dJ q
  exact⟨v,vc,n,by simp[Instr.loadAt,Instr.sureAddr,s],u⟩
 ·rename_i b off
  obtain⟨x,hx,d⟩:=ub d
  obtain⟨A,C⟩:=D3 z hx
  obtain⟨kk,o,cs,ty,fr,F,rfl,D,_,_,l,_⟩:=xz S A C f
  obtain⟨v,n,q⟩:=l.reads d
  have y:mh P J β h w t (fun j=>w.cell? ((⟨kk,o+off,none⟩:Addr).add j)) v:=by
   simpa only[Addr.add_mid,Sk D] using q
  obtain⟨vc,s,u⟩:=dJ y
  exact⟨v,vc,n,by simp[Instr.loadAt,Instr.sureAddr,s],u⟩
 ·simp at d
theorem C1 {t:TypeId} {n:Nat} (hs:Bv P t=some n) (w:World):(Go.sizeOf t).run P w=.ok n w:=by
 unfold Bv at hs
 cases hq:P.info? t with
 | none=>simp[hq] at hs
 | some i=>simp[hq] at hs;simp[Go.sizeOf,typeInfo,hq,hs]
theorem Xl {i:Int} {n:Nat} (hi:Ag i n=true):0≤i∧i<(n:Int):=by simpa[Ag] using hi
theorem gY {J:Nat→Prop} {c:LA} {a:Addr} (d:RepCs J w c (fun j=>w.cell? (a.add j)) 0) (n:Nat):RepCs J w (c.drop n) (fun j=>w.cell? ((a.add n).add j)) 0:=by
 have e:∀ j,(a.add n).add j=a.add (n+j):=fun j=>by
  unfold Addr.add
  by_cases f:n=0<;>by_cases k:j=0<;>simp[f,k,A2l]
 simpa[e] using d.drop n
theorem Aq1 {b off n:Nat} {v:Value} (m:Nat) (hr:Rep J β h w (.own b off n) v) (hn:n≠0) :
  ∃ k o cap,v=.slice (some ⟨k,o,none⟩) n cap∧Rep J β h w (.optr b (off+m)) (.pointer (some ⟨k,o+m,none⟩)):=by
 rw[Rep] at hr
 obtain⟨x,A,cap,hx,rfl,d,hr⟩:=hr
 rcases hr with hr | ⟨k,o,rfl,hr⟩
 ·omega
 ·refine⟨k,o+off,cap,rfl,?_⟩
  rw[Rep];exact⟨x,k,o,hx,by rw[A2l],hr.imp id (·.1)⟩
theorem dK {t d:TypeId} {kd:IntKind} {i:Int} {len cap sz:Nat} {a:Addr} (f:P.underlying t=some (.slice d)) (hs:Bv P d=some sz) (k:Ag i len=true) :
  (Instr.indexAt t (.slice (some a) len cap) (.int kd i)).run P w=.ok (.pointer (some (a.add (i.toNat*sz)))) w:=by
 obtain⟨l,n⟩:=Xl k
 simp[Instr.indexAt,asIntOf,run_underlying f,l,n,C1 hs]
theorem dL {t d:TypeId} {kd:IntKind} {i:Int} {len sz:Nat} {a:Addr} (f:P.underlying t=some (.array len d)) (hs:Bv P d=some sz) (k:Ag i len=true) :
  (Instr.indexAt t (.pointer (some a)) (.int kd i)).run P w=.ok (.pointer (some (a.add (i.toNat*sz)))) w:=by
 obtain⟨l,n⟩:=Xl k
 simp[Instr.indexAt,asIntOf,run_underlying f,l,n,C1 hs,Instr.sureAddr]
theorem kQ {t:TypeId} {x i:AV} {vx vi:Value} {k:AV→O R} (f:Xf P t x i k=some r) (hx:Rep J β h w x vx) (hi:Rep J β h w i vi) :
  ∃ v vc,k v=some r∧(Instr.indexAt t vx vi).run P w=.ok vc w∧Rep J β h w v vc:=by
 unfold Xf at f
 split at f
 ·rename_i s c len sz tight org kd i l
  obtain⟨u,hs,n⟩:=ub f
  obtain⟨G,S⟩:=uc n
  obtain⟨d,q⟩:=uc S
  have z:u=sz:=by simp at G;exact G.symm
  subst z
  rw[Rep] at hi;subst hi
  rw[Rep,RepC] at hx
  obtain⟨I,A,cap,rfl,M,_,hA⟩:=hx
  rcases hA with hA | ⟨a,rfl,C,D⟩
  ·have:=Xl d;omega
  refine⟨_,_,q,dK l hs d,?_⟩
  rw[Rep,RepC]
  exact⟨_,rfl,by rw[Xk];exact C,gY D _⟩
 ·rename_i s b off len kd i l
  obtain⟨sz,hs,n⟩:=ub f
  obtain⟨d,q⟩:=uc n
  rw[Rep] at hi;subst hi
  obtain⟨kk,o,cap,rfl,F⟩:=Aq1 (i.toNat*sz) hx (by have:=Xl d;omega)
  exact⟨_,_,q,dK l hs d,by rw[Addr.add_mid];exact F⟩
 ·rename_i len s c org kd i l
  obtain⟨sz,hs,n⟩:=ub f
  obtain⟨d,q⟩:=uc n
  rw[Rep] at hi;subst hi
  rw[Rep,RepC] at hx
  obtain⟨a,rfl,C,D⟩:=hx
  refine⟨_,_,q,dL l hs d,?_⟩
  rw[Rep,RepC]
  exact⟨_,rfl,by rw[Xk];exact C,gY D _⟩
 ·rename_i len s b off kd i l
  obtain⟨sz,hs,n⟩:=ub f
  obtain⟨d,q⟩:=uc n
  rw[Rep] at hi;subst hi
  rw[Rep] at hx
  obtain⟨y,kk,o,T,rfl,F⟩:=hx
  refine⟨_,_,q,dL l hs d,?_⟩
  rw[Rep,Addr.add_mid]
  exact⟨y,kk,o,T,by rw[A2l],F⟩
 ·simp at f
theorem gZ {t:TypeId} {f:Nat} {p:Nat×TypeId} (d:qa P t f=some p):∃ fs fd,P.underlying t=some (.struct fs)∧fs[f]?=some fd∧fd.offset=p.1∧fd.type=p.2:=by
 unfold qa at d
 split at d
 ·rename_i fs k
  cases hq:fs[f]? with
  | none=>simp[hq] at d
  | some fd=>simp[hq] at d;subst d;exact⟨fs,fd,k,hq,rfl,rfl⟩
 ·simp at d
theorem kR {t:TypeId} {x:AV} {f:Nat} {vx:Value} {k:AV→O R} (q:Xg P t x f k=some r) (hx:Rep J β h w x vx) :
  ∃ v vc,k v=some r∧(Instr.fieldAt t vx f).run P w=.ok vc w∧Rep J β h w v vc:=by
 unfold Xg at q
 obtain⟨p,s,u⟩:=ub q
 obtain⟨n,hn,z⟩:=ub u
 obtain⟨A,d⟩:=Afe z
 obtain⟨fs,fd,C,D,F,G⟩:=gZ s
 have l:n≠0:=by intro e;subst e;simp at A
 have run:∀ a:Addr,(Instr.fieldAt t (.pointer (some a)) f).run P w=.ok (.pointer (some (a.add p.1))) w:=fun a=>by
  simp[Instr.fieldAt,run_underlying C,D,Instr.sureAddr,fieldPlace,G,C1 hn,l,F]
 split at d
 ·rw[Rep,RepC] at hx
  obtain⟨a,rfl,I,M⟩:=hx
  refine⟨_,_,d,run a,?_⟩
  rw[Rep,RepC]
  exact⟨_,rfl,by rw[Xk];exact I,gY M _⟩
 ·rw[Rep] at hx
  obtain⟨y,kk,o,S,rfl,T⟩:=hx
  refine⟨_,_,d,run _,?_⟩
  rw[Rep,Addr.add_mid]
  exact⟨y,kk,o,S,by rw[A2l],T⟩
 ·simp at d
theorem yH {t:TypeId} {x:AV} {f:Nat} {vx:Value} {k:AV→O R} (A:kC P t x f k=some r) (hx:Rep J β h w x vx) :
  ∃ v vc,k v=some r∧(Instr.field t vx f).run P w=.ok vc w∧Rep J β h w v vc:=by
 unfold kC at A
 obtain⟨p,I,l⟩:=ub A
 obtain⟨fs,fd,C,D,F,G⟩:=gZ I
 split at l
 ·rename_i c org
  rw[Rep] at hx
  obtain⟨cs,rfl,M,d⟩:=hx
  obtain⟨v,n,q⟩:=Z2 (β:=β) (h:=h) l (d.drop p.1)
  obtain⟨vc,s,u⟩:=Yx q
  exact⟨v,vc,n,by simp[Instr.field,run_underlying C,D,asAgg,G,F,s],u⟩
 ·rename_i c
  rw[Rep] at hx
  obtain⟨cs,rfl,d⟩:=hx
  rw[Cv] at d
  obtain⟨v,n,q⟩:=VA (J:=J) (β:=β) (h:=h) (w:=w) (rd:=fun j=>cs[p.1+j]?) l (fun j y z=>by
   rw[A27] at z
   have:p.1+j<cs.length:=by
    rw[d.1];exact(A1s.1 z).1
   exact⟨cs[p.1+j],A1g this,d.2 _ _ _ z (A1g this)⟩)
  obtain⟨vc,s,u⟩:=Yx q
  exact⟨v,vc,n,by simp[Instr.field,run_underlying C,D,asAgg,G,F,s],u⟩
 ·simp at l
theorem yI {t:TypeId} {x i:AV} {vx vi:Value} {k:AV→O R} (d:kD P t x i k=some r) (hx:Rep J β h w x vx) (hi:Rep J β h w i vi) :
  ∃ v vc,k v=some r∧(Instr.index t vx vi).run P w=.ok vc w∧Rep J β h w v vc:=by
 unfold kD at d
 split at d
 ·rename_i s kd i f
  obtain⟨l,n⟩:=uc d
  obtain⟨q,A⟩:=Xl l
  rw[Rep] at hi;rw[Rep] at hx;subst hi hx
  have u:i.toNat<s.length:=by omega
  refine⟨_,.int .u8 ((s.getD i.toNat 0).toNat:Int),n,?_,by rw[Rep]⟩
  have S:(⟨⟨s⟩⟩:ByteArray)[i.toNat]?=some s[i.toNat]:=by
   have:i.toNat<(⟨⟨s⟩⟩:ByteArray).size:=u
   rw[getElem?_pos (⟨⟨s⟩⟩:ByteArray) i.toNat this];rfl
  simp only[Instr.index,asIntOf,Sem.run_bind,Sem.run_pure,Result.andThen_ok,run_underlying f,q,if_true,S,A1m,A1g u,Option.getD_some]
 ·rename_i len T c org kd i f
  obtain⟨sz,hs,n⟩:=ub d
  obtain⟨l,A⟩:=uc n
  obtain⟨q,C⟩:=Xl l
  rw[Rep] at hi;rw[Rep] at hx;subst hi
  obtain⟨cs,rfl,U,z⟩:=hx
  obtain⟨v,D,F⟩:=Z2 (β:=β) (h:=h) A (z.drop (i.toNat*sz))
  obtain⟨vc,G,I⟩:=Yx F
  exact⟨v,vc,D,by simp[Instr.index,asIntOf,run_underlying f,q,C,C1 hs,G],I⟩
 ·rename_i len T c kd i f
  obtain⟨sz,hs,n⟩:=ub d
  obtain⟨l,A⟩:=uc n
  obtain⟨q,C⟩:=Xl l
  rw[Rep] at hi;rw[Rep] at hx;subst hi
  obtain⟨cs,rfl,z⟩:=hx
  rw[Cv] at z
  obtain⟨v,D,F⟩:=VA (J:=J) (β:=β) (h:=h) (w:=w) (rd:=fun j=>cs[i.toNat*sz+j]?) (gX A) (fun j y M=>by
   rw[A27] at M
   have:i.toNat*sz+j<cs.length:=by
    rw[z.1];exact(A1s.1 M).1
   exact⟨cs[i.toNat*sz+j],A1g this,z.2 _ _ _ M (A1g this)⟩)
  obtain⟨vc,G,I⟩:=Yx F
  exact⟨v,vc,D,by simp[Instr.index,asIntOf,run_underlying f,q,C,C1 hs,G],I⟩
 ·simp at d
def BO (J:Bool→Nat→Prop) (β:Cu) (h:A1) (w:World):Option AV→Option Value→Prop
 | none,none=>True
 | some x,some v=>Rep J β h w x v
 | _,_=>False
theorem VB {o:Option AV} {vo:Option Value} {d:Nat} {i:Int} (f:gN o d=some i) (l:BO J β h w o vo) :
  (o=none∧vo=none∧i=d)∨∃ k,vo=some (.int k i):=by
 unfold gN at f
 split at f
 ·simp at f;subst f
  cases vo with
  | none=>exact .inl ⟨rfl,rfl,rfl⟩
  | some v=>simp[BO] at l
 ·rename_i k j
  simp at f;subst f
  cases vo with
  | none=>simp[BO] at l
  | some v=>rw[BO,Rep] at l;subst l;exact .inr ⟨k,rfl⟩
 ·simp at f
theorem Yy {lo hi mx:Option AV} {vlo vhi vmx:Option Value} {n cap:Nat} {k:Nat→Nat→O R} {isSlice:Bool} (x:DI lo hi mx n k=some r)
  (u:BO J β h w lo vlo)
  (q:BO J β h w hi vhi)
  (s:BO J β h w mx vmx) (z:n≤cap) :
  ∃ l f m,k l f=some r∧l≤f∧f≤n∧f≤m∧m≤cap∧(mx=none→m=cap)∧(∀ kd i,vmx=some (.int kd i)→(m:Int)=i)∧(∀ kd i,vhi=some (.int kd i)→(f:Int)=i)∧(hi=none→f=n) ∧
   (Instr.sliceBounds isSlice n cap vlo vhi vmx).run P w=.ok (l,f,m) w:=by
 unfold DI at x
 obtain⟨l,F,G⟩:=ub x
 obtain⟨d,I,M⟩:=ub G
 obtain⟨m,S,v⟩:=ub M
 obtain⟨A,v⟩:=Afe v
 obtain⟨C,D⟩:=uc v
 simp at C A
 obtain⟨c1,c2,c3,c4⟩:=C
 have run:∀ (kd:IntKind) (i:Int) (y:Nat) (code:BoundsCode),0≤i→i≤(y:Int)→(Instr.sliceBound (.int kd i) y code).run P w=.ok i.toNat w:=fun kd i y code a b=>by
  simp[Instr.sliceBound,asIntOf,a,b]
 have bl:=VB (J:=J) (β:=β) (h:=h) (w:=w) F u
 have bh:=VB (J:=J) (β:=β) (h:=h) (w:=w) I q
 have bm:=VB (J:=J) (β:=β) (h:=h) (w:=w) S s
 rcases bm with⟨rfl,rfl,rfl⟩ | ⟨km,rfl⟩
 ·refine⟨l.toNat,d.toNat,cap,D,by omega,by omega,by omega,by omega,fun _=>rfl,by simp,?_,?_,?_⟩
  ·intro kd i t
   rcases bh with⟨_,rfl,_⟩ | ⟨kh,rfl⟩
   ·simp at t
   ·simp at t;omega
  ·intro hn
   rcases bh with⟨_,_,rfl⟩ | ⟨kh,rfl⟩
   ·simp
   ·subst hn;simp[BO] at q
  ·rcases bh with⟨_,rfl,rfl⟩ | ⟨kh,rfl⟩<;>rcases bl with⟨_,rfl,rfl⟩ | ⟨kl,rfl⟩
   ·simp[Instr.sliceBounds]
   ·simp[Instr.sliceBounds,run _ l n _ c1 (by omega)]
   ·simp[Instr.sliceBounds,run _ d cap _ (by omega) (by omega)]
   ·simp[Instr.sliceBounds,run _ d cap _ (by omega) (by omega),run _ l d.toNat _ c1 (by omega)]
 ·rcases bh with⟨rfl,rfl,rfl⟩ | ⟨kh,rfl⟩
  ·have:mx.isSome=true:=by
    cases mx with
    | none=>simp[BO] at s
    | some _=>rfl
   have:=A this;simp at this
  ·refine⟨l.toNat,d.toNat,m.toNat,D,by omega,by omega,by omega,by omega,?_,?_,?_,?_,?_⟩
   ·intro hn;subst hn;simp[BO] at s
   ·intro kd i t;simp at t;omega
   ·intro kd i t;simp at t;omega
   ·intro hn;subst hn;simp[BO] at q
   ·rcases bl with⟨_,rfl,rfl⟩ | ⟨kl,rfl⟩
    ·simp[Instr.sliceBounds,run _ m cap _ (by omega) (by omega),run _ d m.toNat _ (by omega) (by omega)]
    ·simp[Instr.sliceBounds,run _ m cap _ (by omega) (by omega),run _ d m.toNat _ (by omega) (by omega),run _ l d.toNat _ c1 (by omega)]
theorem yJ {t:TypeId} {x:AV} {lo hi mx:Option AV} {vx:Value} {vlo vhi vmx:Option Value} {k:AV→O R} (S:SimH J β h w) (hl:Looks g h) (D:kE P g t x lo hi mx k=some r)
  (hx:Rep J β h w x vx) (F:BO J β h w lo vlo) (f:BO J β h w hi vhi) (u:BO J β h w mx vmx) :
  ∃ v vc,k v=some r∧(Instr.sliceAt t vx vlo vhi vmx).run P w=.ok vc w∧Rep J β h w v vc:=by
 unfold kE at D
 split at D
 ·rename_i s G
  obtain⟨hm,V⟩:=Afe D
  have hmn:mx=none:=by cases mx<;>simp_all
  subst hmn
  have hv:vmx=none:=by cases vmx<;>simp_all[BO]
  subst hv
  rw[Rep] at hx;subst hx
  obtain⟨l,d,m,I,X,h4,_,_,h5,_,_,_,h6⟩:=Yy (P:=P) (isSlice:=false) V F f (vmx:=none) (by simp[BO]) (A1h _)
  refine⟨_,_,I,?_,by rw[Rep]⟩
  have hs:(⟨⟨s⟩⟩:ByteArray).size=s.length:=rfl
  have M:(⟨⟨s⟩⟩:ByteArray).extract l d=⟨⟨(s.drop l).take (d - l)⟩⟩:=by
   apply ByteArray.ext
   rw[ByteArray.data_extract]
   simp
  simp[Instr.sliceAt,Instr.slice,run_underlying G,hs,h6,M]
 ·rename_i el G
  rw[Rep] at hx;subst hx
  obtain⟨sz,hs,D⟩:=ub D
  obtain⟨l,d,m,I,X,h4,h5,h6,_,_,_,_,h7⟩:=Yy (P:=P) (isSlice:=true) D F f u (A1h _)
  have:l=0:=by omega
  have:d=0:=by omega
  have:m=0:=by omega
  subst l;subst d;subst m
  refine⟨_,.slice none 0 0,I,?_,by rw[Rep]⟩
  simp[Instr.sliceAt,Instr.slice,run_underlying G,h7,C1 hs]
 ·rename_i el c n sz tight org G
  obtain⟨Y,hs,V⟩:=ub D
  obtain⟨M,I⟩:=uc V
  have T:Y=sz:=by simp at M;exact M.symm
  subst T
  rw[Rep,RepC] at hx
  obtain⟨hlen,A,cap,rfl,z,ht,hA⟩:=hx
  obtain⟨l,d,m,X,h4,h5,h6,h7,h8,h9,h10,h11,h12⟩:=Yy (P:=P) (isSlice:=true) I F f u z
  refine⟨_,.slice (if m=l then A else A.map (·.add (l*Y))) (d - l) (m - l),X,?_,?_⟩
  ·simp[Instr.sliceAt,Instr.slice,run_underlying G,h12,C1 hs]
  ·rw[Rep,RepC]
   refine⟨?_,_,_,rfl,by omega,?_,?_⟩
   ·simp;rw[hlen,←Nat.sub_mul]
    exact A2h (A16 _ (by omega))
   ·intro C
    unfold Aij at C
    split at C
    ·have:=ht C
     have:=h8 rfl
     have:=h11 rfl
     omega
    ·rename_i ka a kb b
     cases vhi with
     | none=>simp[BO] at f
     | some u1=>cases vmx with
      | none=>simp[BO] at u
      | some u2 =>
       rw[BO,Rep] at f u;subst f u
       have e1:=h10 _ _ rfl
       have e2:=h9 _ _ rfl
       simp at C
       omega
    ·simp at C
   ·by_cases hz:d - l=0
    ·exact .inl hz
    ·right
     rcases hA with hA | ⟨a,rfl,hj,hc⟩
     ·omega
     ·refine⟨a.add (l*Y),by rw[if_neg (by omega)];rfl,by rw[Xk];exact hj,(gY hc _).take _⟩
 ·rename_i el b off n G
  obtain⟨sz,hs,V⟩:=ub D
  obtain⟨y,hy,I⟩:=ub V
  obtain⟨M,X⟩:=uc I
  obtain⟨hb,hd⟩:=D3 hl hy
  have T:sz=y.sz:=by simpa using M
  rw[Rep] at hx
  obtain⟨x,A,cap,⟨q,U⟩,rfl,z,hr⟩:=hx
  rw[hb] at q;simp at q;subst q
  obtain⟨l,d,m,h4,h5,h6,h7,h8,_,_,_,_,h9⟩:=Yy (P:=P) (isSlice:=true) X F f u z
  refine⟨_,.slice (if m=l then A else A.map (·.add (l*sz))) (d - l) (m - l),h4,?_,?_⟩
  ·simp[Instr.sliceAt,Instr.slice,run_underlying G,h9,C1 hs]
  ·rw[Rep]
   refine⟨y,_,_,⟨hb,U⟩,rfl,by omega,?_⟩
   by_cases hz:m - l=0
   ·exact .inl hz
   ·right
    rcases hr with hr | ⟨kk,o,rfl,hr⟩
    ·omega
    ·refine⟨kk,o,by rw[if_neg (by omega)];simp[Addr.add_mid,A2l],?_⟩
     rcases hr with hr | ⟨r1,r2,r3⟩
     ·simp[hd] at hr
     ·refine .inr ⟨r1,?_,?_⟩
      ·have:l*sz+(m - l)*y.sz≤cap*y.sz:=by
        rw[T,←A23];exact A16 _ (by omega)
       omega
      ·have:l*sz+(d - l)*y.sz≤n*y.sz:=by
        rw[T,←A23];exact A16 _ (by omega)
       omega
 ·rename_i n el b off G
  obtain⟨sz,hs,V⟩:=ub D
  obtain⟨y,hy,I⟩:=ub V
  obtain⟨M,X⟩:=uc I
  simp at M
  obtain⟨e1,e2,e3,e4,e5⟩:=M
  subst e3;subst e4;subst e5
  obtain⟨hb,hd⟩:=D3 hl hy
  have nlo:vlo=none:=by cases vlo<;>simp_all[BO]
  have nhi:vhi=none:=by cases vhi<;>simp_all[BO]
  have nmx:vmx=none:=by cases vmx<;>simp_all[BO]
  subst nlo;subst nhi;subst nmx
  rw[Rep] at hx
  obtain⟨x,kk,o,⟨q,U⟩,rfl,hr⟩:=hx
  rw[hb] at q;simp at q;subst q
  refine⟨_,.slice (some ⟨kk,o+off,none⟩) n n,X,?_,?_⟩
  ·have e1:(Addr.add ⟨kk,o+off,none⟩ 0)=⟨kk,o+off,none⟩:=rfl
   simp[Instr.sliceAt,Instr.sureAddr,run_underlying G,Instr.sliceBounds,C1 hs,e1]
  ·rw[Rep]
   refine⟨y,_,_,⟨hb,U⟩,rfl,A1h _,.inr ⟨kk,o,rfl,?_⟩⟩
   rcases hr with hr | hr
   ·exact .inl hr
   ·rcases S.blk b y hb hd U with⟨hn',_⟩ | ⟨k',o',cs,ty',fr,hβ',g1,g2,g3,_⟩
    ·rw[hr] at hn';simp at hn'
    ·rw[hr] at hβ';simp at hβ';obtain⟨rfl,rfl⟩:=hβ'
     refine .inr ⟨hr,?_,?_⟩
     ·rw[e1,show Be w kk=cs.size by simp[Be,g1]];omega
     ·rw[e1];omega
 ·simp at D
theorem Aff {t:TypeId} {x v:AV} {vx:Value} {ty:TypeId} (d:Atr P t x=some v) (hx:Rep J β h w x vx) :
  ∃ vc,(Builtin.len_ #[t] ty #[vx]).run P w=.ok vc w∧Rep J β h w v vc:=by
 unfold Atr at d
 split at d
 ·rename_i f
  simp at d;subst d;rw[Rep] at hx;subst hx
  exact⟨.int .i64 0,by simp[Builtin.len_,run_underlying f,goInt],by rw[Rep]⟩
 ·rename_i n _ _ _ f
  simp at d;subst d;rw[Rep,RepC] at hx
  obtain⟨_,A,cap,rfl,_⟩:=hx
  exact⟨.int .i64 n,by simp[Builtin.len_,run_underlying f,goInt],by rw[Rep]⟩
 ·rename_i n f
  simp at d;subst d;rw[Rep] at hx
  obtain⟨_,A,cap,_,rfl,_⟩:=hx
  exact⟨.int .i64 n,by simp[Builtin.len_,run_underlying f,goInt],by rw[Rep]⟩
 ·rename_i s f
  simp at d;subst d;rw[Rep] at hx;subst hx
  refine⟨.int .i64 s.length,?_,by rw[Rep]⟩
  have hs:(⟨⟨s⟩⟩:ByteArray).size=s.length:=rfl
  simp[Builtin.len_,run_underlying f,goInt,hs]
 ·rename_i n _ f
  simp at d;subst d
  exact⟨.int .i64 n,by simp[Builtin.len_,run_underlying f,goInt],by rw[Rep]⟩
 ·simp at d
theorem g8 {J:Nat→Prop}:∀ {x:AV} {u:Value},RepC J w x u→u.oneCell'=true
 | .int ..,_,hr=>by rw[RepC] at hr;subst hr;rfl
 | .bool _,_,hr=>by rw[RepC] at hr;subst hr;rfl
 | .str _,_,hr=>by rw[RepC] at hr;subst hr;rfl
 | .nsl,_,hr=>by rw[RepC] at hr;subst hr;rfl
 | .imm ..,_,hr=>by rw[RepC] at hr;obtain⟨_,A,cap,rfl,_⟩:=hr;rfl
 | .iptr ..,_,hr=>by rw[RepC] at hr;obtain⟨a,rfl,_⟩:=hr;rfl
 | .nilptr,_,hr=>by rw[RepC] at hr;subst hr;rfl
 | .nilfn,_,hr=>by rw[RepC] at hr;subst hr;rfl
 | .fn _ [],_,hr=>by rw[RepC] at hr;subst hr;rfl
 | .fn _ (_::_),_,hr=>by simp[RepC] at hr
 | .pagg ..,_,hr=>by simp[RepC] at hr
 | .agg _,_,hr=>by simp[RepC] at hr
 | .tup _,_,hr=>by simp[RepC] at hr
 | .own ..,_,hr=>by simp[RepC] at hr
 | .optr ..,_,hr=>by simp[RepC] at hr
 | .undef,_,hr=>by simp[RepC] at hr
 | .omap _,_,hr=>by simp[RepC] at hr
theorem RepCs.one {J:Nat→Prop} {c:LA} {us:List Value} (k:RepCs J w c (fun j=>us[j]?) 0) (q:us.length=c.length):∀ u ∈ us,u.oneCell'=true:=by
 intro u l
 obtain⟨j,n,rfl⟩:=A1t l
 have f:j<c.length:=by omega
 obtain⟨s,d,hr⟩:=k.at (A1g f)
 simp[A1g n] at d
 rw[d];exact g8 hr
structure Yield (P:Program) (w:World) (sz:Nat) (vx:Value) (n:Nat) (us:List Value):Prop where
 len:∀ w':World,(Builtin.lenOf vx).run P w'=.ok n w'
 cells:∀ (w':World) (m:Nat),(∀ a,w'.cell? a=w.cell? a)→m≤n→(Builtin.firstCells sz m vx).run P w'=.ok (us.take (m*sz)).toArray w'
 length:us.length=n*sz
theorem mo {sz:Nat} {x:AV} {vx:Value} {q:LA×Nat×Bool} (S:SimH J β h w) (hl:Looks g h) (l:wG g sz x=some q) (hx:Rep J β h w x vx) :
  ∃ us:List Value,Yield P w sz vx q.2.1 us∧q.1.length=us.length∧RepCs (J q.2.2) w q.1 (fun j=>us[j]?) 0:=by
 have ofSlice:∀ (a:Addr) (n cap:Nat) (us:List Value),us.length=n*sz→(∀ j u,us[j]?=some u→w.cell? (a.add j)=some u)→Yield P w sz (.slice (some a) n cap) n us:=fun a n cap us d hu =>
  ⟨fun _=>rfl,fun w' m f T=>by
   have hle:m*sz≤n*sz:=A16 _ T
   refine run_firstCells_some (P:=P) w' sz m a n cap (us.take (m*sz)) (by simp;omega) (fun j v F=>?_)
   rw[f]
   rw[A28] at F
   split at F
   ·exact hu j v F
   ·simp at F,d⟩
 have ofEmpty:∀ (A:Option Addr) (cap:Nat),Yield P w sz (.slice A 0 cap) 0 []:=fun A cap =>
  ⟨fun _=>rfl,fun w' m f T=>by
   have:m=0:=by omega
   subst this
   cases A with
   | none=>simp[run_firstCells_none]
   | some a=>have:=run_firstCells_some (P:=P) w' sz 0 a 0 cap [] (by simp) (fun j v F=>by simp at F);simpa using this,by simp⟩
 unfold wG at l
 split at l
 ·simp at l;subst l;rw[Rep] at hx;subst hx
  exact⟨[],ofEmpty _ _,rfl,by simp[RepCs]⟩
 ·rename_i c n U tight org
  obtain⟨f,z⟩:=uc l
  have V:U=sz:=by simp at f;exact f.symm
  subst V
  simp at z;subst z
  rw[Rep,RepC] at hx
  obtain⟨d,A,cap,rfl,G,ht,hA⟩:=hx
  rcases hA with rfl | ⟨a,rfl,I,hc⟩
  ·have:c=[]:=by simpa using d
   subst this
   exact⟨[],ofEmpty _ _,rfl,by simp[RepCs]⟩
  ·obtain⟨us,t,X,Y⟩:=hc.list
   exact⟨us,ofSlice a n cap us (by rw[t,d]) X,t.symm,Y⟩
 ·rename_i b off n
  obtain⟨y,hy,z⟩:=ub l
  obtain⟨f,t⟩:=uc z
  obtain⟨M,hd⟩:=D3 hl hy
  simp at f t
  obtain⟨hp,f⟩:=f
  subst t;subst f
  rw[Rep] at hx
  obtain⟨x,A,cap,⟨C,hmp⟩,rfl,G,hr⟩:=hx
  rw[M] at C;simp at C;subst C
  rcases hr with hr | ⟨kk,o,rfl,hr⟩
  ·have:n=0:=by omega
   subst this
   exact⟨[],ofEmpty _ _,by simp,by simp[RepCs]⟩
  ·rcases hr with hr | ⟨r1,r2,r3⟩
   ·simp[hd] at hr
   ·rcases S.blk b y M hd hmp with⟨hn,_⟩ | ⟨k',o',cs,ty,fr,D,g1,g2,g3,g4,g5,g6⟩
    ·rw[r1] at hn;simp at hn
    ·rw[r1] at D;simp at D;obtain⟨rfl,rfl⟩:=D
     obtain⟨us,t,X,Y⟩:=(((g4.1 hp).drop off).take (n*y.sz)).list
     have d:us.length=n*y.sz:=by rw[t];simp;omega
     refine⟨us,ofSlice _ n cap us d (fun j u I=>?_),t.symm,Y⟩
     have:=X j u I
     rw[Addr.add_mid,Sk g1,A2l];exact this
 ·rename_i s
  obtain⟨f,z⟩:=uc l
  simp at f z
  subst f;subst z
  rw[Rep] at hx;subst hx
  refine⟨s.map fun b=>.int .u8 (b.toNat:Int),⟨fun _=>rfl,fun w' m _ T=>?_,by simp⟩,by simp,?_⟩
  ·simp[Builtin.firstCells]
  ·rw[Cb]
   intro j x I
   simp at I
   obtain⟨b,M,rfl⟩:=I
   exact⟨_,by simp[M];rfl,by rw[RepC]⟩
 ·simp at l
theorem OZ {n:TypeId} {sz:Nat} {x:AV} {vx:Value} {k:LA×Nat×Bool→O R} (S:SimH J β h w) (s:Looks g h) (l:ek P n g sz x k=some r) (hx:Rep J β h w x vx) :
  ∃ (q:LA×Nat×Bool) (us:List Value),k q=some r∧Yield P w sz vx q.2.1 us∧q.1.length=us.length∧RepCs (J q.2.2) w q.1 (fun j=>us[j]?) 0:=by
 unfold ek at l
 obtain⟨q,hq,t⟩:=ub l
 obtain⟨us,Y,d,f⟩:=mo (P:=P) S s hq hx
 obtain⟨o,u,v⟩:=dI t f
 exact⟨_,us,u,Y,d,v⟩
end
end Gx
namespace Gx
open Go
theorem TW {a b:Nat} (h:a≠b):beq a b=false:=by
 cases d:beq a b with
 | false=>rfl
 | true=>exact absurd (A1n d) h
theorem CB {a b:Nat} (h:beq a b=false):a≠b:=fun e=>by subst e;rw[Nat.beq_refl] at h;cases h
theorem Af:∀ (h:A1) (b:Nat) (y:Blk) (c:Nat),Ak (Gq h b y) c=if c=b then some y else Ak h c
 | [],b,y,c=>by
  by_cases e:c=b
  ·subst e;simp[Gq,Ak]
  ·have:beq b c=false:=TW (fun f=>e f.symm)
   simp[Gq,Ak,e,this]
 | (i,x)::r,b,y,c=>by
  rw[Gq]
  cases l:beq i b with
  | true =>
   have d:i=b:=by simpa using l
   subst d
   by_cases e:c=i
   ·subst e;simp[Ak]
   ·have:beq i c=false:=TW (fun f=>e f.symm)
    simp[Ak,e,this]
  | false =>
   have d:i≠b:=CB l
   cases q:Nat.blt b i with
   | true =>
    by_cases e:c=b
    ·subst e;simp[Ak]
    ·have:beq b c=false:=TW (fun f=>e f.symm)
     simp[Ak,e,this]
   | false =>
    simp only[cond_false]
    rw[Ak]
    cases n:beq i c with
    | true =>
     have k:i=c:=by simpa using n
     subst k
     simp[Ak,d]
    | false=>simp[Ak,n,Af r b y c]
theorem Q6:∀ (h:Ik) (b:Nat) (y:AV) (c:Nat),Hs (e_ h b y) c=if c=b then y else Hs h c
 | [],b,y,c=>by
  by_cases e:c=b
  ·subst e;simp[e_,Hs]
  ·have:beq b c=false:=TW (fun f=>e f.symm)
   simp[e_,Hs,e,this]
 | (i,x)::r,b,y,c=>by
  rw[e_]
  cases l:beq i b with
  | true =>
   have d:i=b:=by simpa using l
   subst d
   by_cases e:c=i
   ·subst e;simp[Hs]
   ·have:beq i c=false:=TW (fun f=>e f.symm)
    simp[Hs,e,this]
  | false =>
   have d:i≠b:=CB l
   cases q:Nat.blt b i with
   | true =>
    by_cases e:c=b
    ·subst e;simp[Hs]
    ·have:beq b c=false:=TW (fun f=>e f.symm)
     simp[Hs,e,this]
   | false =>
    simp only[cond_false]
    rw[Hs]
    cases n:beq i c with
    | true =>
     have k:i=c:=by simpa using n
     subst k
     simp[Hs,d]
    | false=>simp[Hs,n,Q6 r b y c]
def Aa2 (β:Cu) (h:A1) (k:Nat):Prop:=∃ b x o,Ak h b=some x∧x.dead=false∧x.sealed=false∧β b=some (k,o)
structure Step (J:Bool→Nat→Prop) (β:Cu) (h:A1) (w:World) (J':Bool→Nat→Prop) (β':Cu) (h':A1) (w':World):Prop where
 ext:Ext J β h w J' β' h' w'
 sim:SimH J' β' h' w'
 os:w'.os=w.os
 tape:w'.tape=w.tape
 output:w'.output=w.output
 size:w.heap.size≤w'.heap.size
 frame:∀ k,k<w.heap.size→¬ Aa2 β h k→w'.heap[k]?=w.heap[k]?
 wr:∀ k,Aa2 β' h' k→k<w.heap.size→Aa2 β h k
 jup:∀ o k,J' o k→J o k∨Aa2 β h k∨w.heap.size≤k
section
variable {J J' J'':Bool→Nat→Prop} {β β' β'':Cu} {h h' h'':A1} {w w' w'':World}
theorem Ext.refl:Ext J β h w J β h w:=⟨fun _ _ d=>d,fun _ _ _=>rfl,fun b x f=>⟨x,⟨f,rfl⟩,by cases k:x.dead<;>simp⟩,fun _ _ _ _=>A1h _⟩
theorem Ext.trans (A:Ext J β h w J' β' h' w') (B:Ext J' β' h' w' J'' β'' h'' w'') (hs:∀ b k o,β b=some (k,o)→Be w k≤Be w'' k):Ext J β h w J'' β'' h'' w'' where
 jsub o k f:=B.jsub o k (A.jsub o k f)
 keep o k f:=(B.keep o k (A.jsub o k f)).trans (A.keep o k f)
 blk b x q:=by
  obtain⟨x',⟨s,m1⟩,l⟩:=A.blk b x q
  obtain⟨x'',⟨t,m3⟩,d⟩:=B.blk b x' s
  refine⟨x'',⟨t,m3.trans m1⟩,?_⟩
  rcases d with d | ⟨d,u,v,y⟩
  ·exact .inl d
  ·rcases l with l | ⟨z,C,D,F⟩
   ·simp[d] at l
   ·exact .inr ⟨z,u.trans C,v.trans D,fun n=>(y (m1.trans n)).trans (F n)⟩
 size:=hs
theorem Step.refl (S:SimH J β h w):Step J β h w J β h w:=⟨Ext.refl,S,rfl,rfl,rfl,A1h _,fun _ _ _=>rfl,fun _ d _=>d,fun _ _ f=>.inl f⟩
theorem Step.trans (A:Step J β h w J' β' h' w') (B:Step J' β' h' w' J'' β'' h'' w'') (hs:∀ b k o,β b=some (k,o)→Be w k≤Be w'' k):Step J β h w J'' β'' h'' w'' where
 ext:=A.ext.trans B.ext hs
 sim:=B.sim
 os:=B.os.trans A.os
 tape:=B.tape.trans A.tape
 output:=B.output.trans A.output
 size:=A3f A.size B.size
 frame k d l:=(B.frame k (A22 d A.size) (fun n=>l (A.wr k n d))).trans (A.frame k d l)
 wr k l d:=A.wr k (B.wr k l (A22 d A.size)) d
 jup o k q:=by
  rcases B.jup o k q with f | f | f
  ·exact A.jup o k f
  ·by_cases d:k<w.heap.size
   ·exact .inr (.inl (A.wr k f d))
   ·exact .inr (.inr (by omega))
  ·exact .inr (.inr (A3f A.size f))
theorem CellsRep.ext (E:Ext J β h w J' β' h' w') {x:Blk} {rd:Nat→Option Value} (f:CellsRep J β h w x rd):CellsRep J' β' h' w' x rd :=
 ⟨fun d=>RepCs.keep (E.jsub _) (E.keep _) (fun _=>rfl) (f.1 d),fun d j c k=>by
  obtain⟨u,l,n,q⟩:=f.2 d j c k
  exact⟨u,l,Rep.ext E n,q⟩⟩
theorem Fc {k:Nat} {cs:Array Value} {ty:TypeId} {fr:Nat×Nat} (d:w.heap[k]?=some (.cells cs ty fr)):Be w k=cs.size:=by simp[Be,d]
theorem O_ {k:Nat} {o:Obj} (l:w.heap[k]?=some o):k<w.heap.size:=by
 rcases A40 k w.heap.size with d | f
 ·exact d
 ·rw[A2x f] at l;cases l
theorem MapRep.keep {b:Nat} {x:Blk} (M:MapRep J β w b x) (f:β' b=β b) (l:∀ k o,β b=some (k,o)→w'.heap[k]?=w.heap[k]?) (n:∀ g k o,β b=some (k,o)→J' g k→J g k):MapRep J' β' w' b x:=by
 obtain⟨q,s,k,ob,d,t,u,v⟩:=M
 exact⟨q,s,k,ob,by rw[f];exact d,by rw[l k 0 d];exact t,u,fun g y=>v g (n g k 0 d y)⟩
theorem Step.drew (S:SimH J β h w):Step J β h w J β h w.drew where
 ext:=⟨fun _ _ d=>d,fun _ _ _=>rfl,fun b x f=>⟨x,⟨f,rfl⟩,by cases l:x.dead<;>simp⟩,fun _ _ _ _=>A1h _⟩
 sim:=by
  have E:Ext J β h w J β h w.drew:=⟨fun _ _ d=>d,fun _ _ _=>rfl,fun b x f=>⟨x,⟨f,rfl⟩,by cases l:x.dead<;>simp⟩,fun _ _ _ _=>A1h _⟩
  refine⟨S.jlt,S.jft,S.gl.ext E,fun b x f l n=>?_,fun b x f l n=>(S.mblk b x f l n).keep rfl (fun _ _ _=>rfl) (fun _ _ _ _ d=>d),S.sep⟩
  rcases S.blk b x f l n with q | ⟨k,o,cs,ty,fr,q,s,t,u,v,y⟩
  ·exact .inl q
  ·exact .inr ⟨k,o,cs,ty,fr,q,s,t,u,v.ext E,y⟩
 os:=rfl
 tape:=rfl
 output:=rfl
 size:=A1h _
 frame _ _ _:=rfl
 wr _ n _:=n
 jup _ _ d:=.inl d
theorem Ea (w:World) (o:Obj) {k:Nat} (d:k<w.heap.size):(w.alloc o).heap[k]?=w.heap[k]?:=by
 show(w.heap.push o)[k]?=_
 rw[Array.getElem?_push,if_neg (by omega)]
theorem BP (S:SimH J β h w) {b:Nat} {x:Blk} {k o:Nat} (n:Ak h b=some x) (q:x.dead=false) (f:β b=some (k,o)):k<w.heap.size:=by
 cases s:x.mp with
 | false =>
  rcases S.blk b x n q s with⟨hn,_⟩ | ⟨t,o',cs,ty,fr,d,l,_⟩
  ·rw[f] at hn;simp at hn
  ·rw[f] at d;simp at d;obtain⟨rfl,rfl⟩:=d;exact O_ l
 | true =>
  obtain⟨_,_,t,ob,d,l,_⟩:=S.mblk b x n q s
  rw[f] at d;simp at d;obtain⟨rfl,_⟩:=d;exact O_ l
theorem Step.new (S:SimH J β h w) {d:Nat} {x:Blk} {cs:Array Value} {ty:TypeId} {fr:Nat×Nat} (hn:Ak h d=none) (hxd:x.dead=false) (F:x.sealed=false)
  (G:FrTy x.ty ty 0 cs.size fr) (V:x.cells.length≤cs.size) (hc:CellsRep J β h w x (fun j=>cs[j]?)) (I:x.mp=false:=by rfl) :
  Step J β h w J (fun b=>if b=d then some (w.heap.size,0) else β b) (Gq h d x) (w.alloc (.cells cs ty fr)):=by
 have ne:∀ {b y},Ak h b=some y→b≠d:=fun f e=>by subst e;rw[hn] at f;cases f
 have E:Ext J β h w J (fun b=>if b=d then some (w.heap.size,0) else β b) (Gq h d x) (w.alloc (.cells cs ty fr)):=by
  refine⟨fun _ _ n=>n,fun o k n=>Ea w _ (S.jlt o k n),fun b y f=>⟨y,⟨by rw[Af,if_neg (ne f)];exact f,rfl⟩,?_⟩,fun b k o l=>?_⟩
  ·cases t:y.dead
   ·exact .inr ⟨rfl,by simp[ne f],rfl,fun _=>rfl⟩
   ·exact .inl rfl
  ·by_cases v:k<w.heap.size
   ·simp[Be,Ea w _ v]
   ·simp[Be,A2x (A4b v)]
 have z:(w.alloc (.cells cs ty fr)).heap[w.heap.size]?=some (.cells cs ty fr):=by
  show(w.heap.push _)[_]?=_;simp
 have hsz:(w.alloc (.cells cs ty fr)).heap.size=w.heap.size+1:=by show(w.heap.push _).size=_;simp
 refine⟨E,⟨fun o k n=>by have:=S.jlt o k n;omega,S.jft,S.gl.ext E,fun b y f t C=>?_,fun b y f t C=>by
   rw[Af] at f
   by_cases e:b=d
   ·rw[if_pos e] at f;simp at f;subst f;simp[I] at C
   ·rw[if_neg e] at f
    exact(S.mblk b y f t C).keep (by simp[e]) (fun k o l=>Ea w _ (BP S f t l)) (fun _ _ _ _ n=>n),?_⟩,rfl,rfl,rfl,by omega,fun k v _=>Ea w _ v,?_,fun _ _ n=>.inl n⟩
 ·rw[Af] at f
  by_cases e:b=d
  ·subst e;simp at f;subst f
   exact .inr ⟨w.heap.size,0,cs,ty,fr,by simp,z,G,by omega,by simpa using hc.ext E,fun _ g n=>by have:=S.jlt g _ n;omega,fun hs=>by simp[F] at hs⟩
  ·rw[if_neg e] at f
   rcases S.blk b y f t C with D | ⟨k,o,M,T,U,D,X,h3,h4,h5,h6⟩
   ·exact .inl ⟨by simp[e,D.1],D.2⟩
   ·exact .inr ⟨k,o,M,T,U,by simp[e,D],by rw[Ea w _ (O_ X)];exact X,h3,h4,h5.ext E,h6⟩
 ·intro b Y y y' k o o' f q t A hs l s
  rw[Af] at f q
  by_cases e:b=d<;>by_cases u:Y=d
  ·rw[e,u]
  ·rw[if_neg u] at q
   simp[e] at l;simp[u] at s
   have:=BP S q A s;omega
  ·rw[if_neg e] at f
   simp[u] at s;simp[e] at l
   have:=BP S f t l;omega
  ·rw[if_neg e] at f;rw[if_neg u] at q
   simp[e] at l;simp[u] at s
   exact S.sep b Y y y' k o o' f q t A hs l s
 ·rintro k ⟨b,y,o,f,t,hs,l⟩ v
  rw[Af] at f
  by_cases e:b=d
  ·simp[e] at l;omega
  ·rw[if_neg e] at f;simp[e] at l
   exact⟨b,y,o,f,t,hs,l⟩
theorem Step.newNone (S:SimH J β h w) {d:Nat} {x:Blk} (hn:Ak h d=none) (M:x.cells=[]) (z:x.mp=false:=by rfl) :
  Step J β h w J (fun b=>if b=d then none else β b) (Gq h d x) w:=by
 have ne:∀ {b y},Ak h b=some y→b≠d:=fun f e=>by subst e;rw[hn] at f;cases f
 have E:Ext J β h w J (fun b=>if b=d then none else β b) (Gq h d x) w:=by
  refine⟨fun _ _ t=>t,fun o k t=>rfl,fun b y f=>⟨y,⟨by rw[Af,if_neg (ne f)];exact f,rfl⟩,?_⟩,fun b k o l=>A1h _⟩
  cases n:y.dead
  ·exact .inr ⟨rfl,by simp[ne f],rfl,fun _=>rfl⟩
  ·exact .inl rfl
 refine⟨E,⟨S.jlt,S.jft,S.gl.ext E,fun b y f n u=>?_,fun b y f n u=>by
   rw[Af] at f
   by_cases e:b=d
   ·rw[if_pos e] at f;simp at f;subst f;simp[z] at u
   ·rw[if_neg e] at f
    exact(S.mblk b y f n u).keep (by simp[e]) (fun k o l=>rfl) (fun _ _ _ _ t=>t),?_⟩,rfl,rfl,rfl,A1h _,fun k T _=>rfl,?_,fun _ _ t=>.inl t⟩
 ·rw[Af] at f
  by_cases e:b=d
  ·subst e;simp at f;subst f
   exact .inl ⟨by simp,M⟩
  ·rw[if_neg e] at f
   rcases S.blk b y f n u with v | ⟨k,o,A,C,D,v,U,V,X,Y,h6⟩
   ·exact .inl ⟨by simp[e,v.1],v.2⟩
   ·exact .inr ⟨k,o,A,C,D,by simp[e,v],U,V,X,Y.ext E,h6⟩
 ·intro b I y y' k o o' f q n F hs l s
  rw[Af] at f q
  by_cases e:b=d
  ·simp[e] at l
  ·by_cases G:I=d
   ·simp[G] at s
   ·rw[if_neg e] at f;rw[if_neg G] at q
    simp[e] at l;simp[G] at s
    exact S.sep b I y y' k o o' f q n F hs l s
 ·rintro k ⟨b,y,o,f,n,hs,l⟩ T
  rw[Af] at f
  by_cases e:b=d
  ·simp[e] at l
  ·rw[if_neg e] at f;simp[e] at l
   exact⟨b,y,o,f,n,hs,l⟩
theorem Step.newObj (S:SimH J β h w) {d:Nat} {x:Blk} {ob:Obj} (hn:Ak h d=none) (hxd:x.dead=false) (F:x.sealed=false) (G:x.pure=true) (I:ObjIs x ob) (M:x.mp=true) :
  Step J β h w J (fun b=>if b=d then some (w.heap.size,0) else β b) (Gq h d x) (w.alloc ob):=by
 have ne:∀ {b y},Ak h b=some y→b≠d:=fun f e=>by subst e;rw[hn] at f;cases f
 have E:Ext J β h w J (fun b=>if b=d then some (w.heap.size,0) else β b) (Gq h d x) (w.alloc ob):=by
  refine⟨fun _ _ n=>n,fun o k n=>Ea w _ (S.jlt o k n),fun b y f=>⟨y,⟨by rw[Af,if_neg (ne f)];exact f,rfl⟩,?_⟩,fun b k o l=>?_⟩
  ·cases t:y.dead
   ·exact .inr ⟨rfl,by simp[ne f],rfl,fun _=>rfl⟩
   ·exact .inl rfl
  ·by_cases v:k<w.heap.size
   ·simp[Be,Ea w _ v]
   ·simp[Be,A2x (A4b v)]
 have z:(w.alloc ob).heap[w.heap.size]?=some ob:=by
  show(w.heap.push _)[_]?=_;simp
 have hsz:(w.alloc ob).heap.size=w.heap.size+1:=by show(w.heap.push _).size=_;simp
 refine⟨E,⟨fun o k n=>by have:=S.jlt o k n;omega,S.jft,S.gl.ext E,fun b y f t C=>?_,fun b y f t C=>?_,?_⟩,rfl,rfl,rfl,by omega,fun k v _=>Ea w _ v,?_,fun _ _ n=>.inl n⟩
 ·rw[Af] at f
  by_cases e:b=d
  ·rw[if_pos e] at f;simp at f;subst f;simp[M] at C
  ·rw[if_neg e] at f
   rcases S.blk b y f t C with D | ⟨k,o,T,U,V,D,X,h3,h4,h5,h6⟩
   ·exact .inl ⟨by simp[e,D.1],D.2⟩
   ·exact .inr ⟨k,o,T,U,V,by simp[e,D],by rw[Ea w _ (O_ X)];exact X,h3,h4,h5.ext E,h6⟩
 ·rw[Af] at f
  by_cases e:b=d
  ·rw[if_pos e] at f;simp at f;subst f
   exact⟨G,F,w.heap.size,ob,by simp[e],z,I,fun g n=>by have:=S.jlt g _ n;omega⟩
  ·rw[if_neg e] at f
   exact(S.mblk b y f t C).keep (by simp[e]) (fun k o l=>Ea w _ (BP S f t l)) (fun _ _ _ _ n=>n)
 ·intro b Y y y' k o o' f q t A hs l s
  rw[Af] at f q
  by_cases e:b=d<;>by_cases u:Y=d
  ·rw[e,u]
  ·rw[if_neg u] at q
   simp[e] at l;simp[u] at s
   have:=BP S q A s;omega
  ·rw[if_neg e] at f
   simp[u] at s;simp[e] at l
   have:=BP S f t l;omega
  ·rw[if_neg e] at f;rw[if_neg u] at q
   simp[e] at l;simp[u] at s
   exact S.sep b Y y y' k o o' f q t A hs l s
 ·rintro k ⟨b,y,o,f,t,hs,l⟩ v
  rw[Af] at f
  by_cases e:b=d
  ·simp[e] at l;omega
  ·rw[if_neg e] at f;simp[e] at l
   exact⟨b,y,o,f,t,hs,l⟩
theorem Step.kill (S:SimH J β h w) {d:Nat} {x y:Blk} (hx:Ak h d=some x) (q:y.dead=true) (v:y.mp=x.mp:=by rfl):Step J β h w J β (Gq h d y) w:=by
 have E:Ext J β h w J β (Gq h d y) w:=by
  refine⟨fun _ _ s=>s,fun o k s=>rfl,fun b z f=>?_,fun b k o t=>A1h _⟩
  by_cases e:b=d
  ·subst e;rw[hx] at f;simp at f;subst f;exact⟨y,⟨by rw[Af,if_pos rfl],v⟩,.inl q⟩
  ·refine⟨z,⟨by rw[Af,if_neg e];exact f,rfl⟩,?_⟩
   cases n:z.dead
   ·exact .inr ⟨rfl,rfl,rfl,fun _=>rfl⟩
   ·exact .inl rfl
 refine⟨E,⟨S.jlt,S.jft,S.gl.ext E,fun b z f n A=>?_,fun b z f n A=>by
   rw[Af] at f
   by_cases e:b=d
   ·rw[if_pos e] at f;simp at f;subst f;simp[q] at n
   ·rw[if_neg e] at f
    exact(S.mblk b z f n A).keep rfl (fun k o t=>rfl) (fun _ _ _ _ s=>s),?_⟩,rfl,rfl,rfl,A1h _,fun k U _=>rfl,?_,fun _ _ s=>.inl s⟩
 ·rw[Af] at f
  by_cases e:b=d
  ·rw[if_pos e] at f;simp at f;subst f;simp[q] at n
  ·rw[if_neg e] at f
   rcases S.blk b z f n A with C | ⟨k,o,D,F,G,C,V,X,Y,h5,h6⟩
   ·exact .inl C
   ·exact .inr ⟨k,o,D,F,G,C,V,X,Y,h5.ext E,h6⟩
 ·intro b M z z' k o o' f l n u hs t I
  rw[Af] at f l
  by_cases e:b=d
  ·rw[if_pos e] at f;simp at f;subst f;simp[q] at n
  ·by_cases T:M=d
   ·rw[if_pos T] at l;simp at l;subst l;simp[q] at u
   ·rw[if_neg e] at f;rw[if_neg T] at l
    exact S.sep b M z z' k o o' f l n u hs t I
 ·rintro k ⟨b,z,o,f,n,hs,t⟩ U
  rw[Af] at f
  by_cases e:b=d
  ·rw[if_pos e] at f;simp at f;subst f;simp[q] at n
  ·rw[if_neg e] at f
   exact⟨b,z,o,f,n,hs,t⟩
theorem Step.giveUp (S:SimH J β h w) {d k o:Nat} {x y:Blk} (hx:Ak h d=some x) (F:x.dead=false) (hs:x.sealed=false) (G:β d=some (k,o)) (I:x.mp=false) (X:y.dead=true)
  (other:∀ j,j≠k→w'.heap[j]?=w.heap[j]?) (size:w'.heap.size=w.heap.size) (os:w'.os=w.os) (tape:w'.tape=w.tape) (output:w'.output=w.output) (M:Be w k≤Be w' k) (T:y.mp=x.mp:=by rfl) :
  Step J β h w J β (Gq h d y) w':=by
 have nj:∀ g j,J g j→j≠k:=fun g j q e=>by
  subst e
  rcases S.blk d x hx F I with⟨s,_⟩ | ⟨k',o',cs0,ty0,fr0,t,Y,v,h4,h5,h6,h7⟩
  ·rw[G] at s;simp at s
  ·rw[G] at t;simp at t;obtain⟨rfl,rfl⟩:=t
   exact h6 hs g q
 have E:Ext J β h w J β (Gq h d y) w':=by
  refine⟨fun _ _ q=>q,fun o j q=>other j (nj o j q),fun b z f=>?_,fun b j oo f=>?_⟩
  ·by_cases e:b=d
   ·subst e;rw[hx] at f;simp at f;subst f;exact⟨y,⟨by rw[Af,if_pos rfl],T⟩,.inl X⟩
   ·refine⟨z,⟨by rw[Af,if_neg e];exact f,rfl⟩,?_⟩
    cases F:z.dead
    ·exact .inr ⟨rfl,rfl,rfl,fun _=>rfl⟩
    ·exact .inl rfl
  ·by_cases e:j=k
   ·subst e;exact M
   ·simp[Be,other j e]
 have live:∀ {b z},Ak (Gq h d y) b=some z→z.dead=false→b≠d∧Ak h b=some z:=fun {b z} f l=>by
  rw[Af] at f
  by_cases e:b=d
  ·rw[if_pos e] at f;simp at f;subst f;simp[X] at l
  ·rw[if_neg e] at f;exact⟨e,f⟩
 have apart:∀ {b z j oo},b≠d→Ak h b=some z→z.dead=false→β b=some (j,oo)→j≠k:=fun {b z j oo} e f l n ej=>by
  subst ej;exact e (S.sep d b x z j o oo hx f F l hs G n).symm
 refine⟨E,⟨fun g j q=>by rw[size];exact S.jlt g j q,S.jft,S.gl.ext E,fun b z f l A=>?_,fun b z f l A=>by
   obtain⟨e,f⟩:=live f l
   exact(S.mblk b z f l A).keep rfl (fun j oo n=>other j (apart e f l n)) (fun _ _ _ _ q=>q),fun b b' z z' j oo U f V l C u n D=>?_⟩,os,tape,output,by rw[size];exact A1h _,fun j q A=>other j (fun e=>by subst e;exact A ⟨d,x,o,hx,F,hs,G⟩),?_,fun _ _ q=>.inl q⟩
 ·obtain⟨e,f⟩:=live f l
  rcases S.blk b z f l A with s | ⟨j,oo,cs,ty,fr,s,Y,v⟩
  ·exact .inl s
  ·exact .inr ⟨j,oo,cs,ty,fr,s,by rw[other j (apart e f l s)];exact Y,v.1,v.2.1,v.2.2.1.ext E,v.2.2.2⟩
 ·exact S.sep b b' z z' j oo U (live f l).2 (live V C).2 l C u n D
 ·rintro j ⟨b,z,oo,f,l,u,n⟩ _
  exact⟨b,z,oo,(live f l).2,l,u,n⟩
end
end Gx
namespace Gx
open Go
section
variable {J J' J'':Bool→Nat→Prop} {β β' β'':Cu} {h h' h'':A1} {w w' w'':World}
theorem Step.shutB (S:SimH J β h w) {d:Nat} {x:Blk} (hx:Ak h d=some x) (t:x.dead=false) (C:x.mp=false) :
  Step J β h w (fun o k=>J o k∨∃ o',β d=some (k,o')∧(x.taint=true→o=true)) β (Gq h d { x with sealed:=true }) w:=by
 have E:Ext J β h w (fun o k=>J o k∨∃ o',β d=some (k,o')∧(x.taint=true→o=true)) β (Gq h d { x with sealed:=true }) w:=by
  refine⟨fun _ _ n=>.inl n,fun o k n=>rfl,fun b z f=>?_,fun b k o l=>A1h _⟩
  by_cases e:b=d
  ·subst e;rw[hx] at f;simp at f;subst f
   exact⟨{ x with sealed:=true },⟨by rw[Af,if_pos rfl],rfl⟩,.inr ⟨t,rfl,rfl,fun _=>rfl⟩⟩
  ·refine⟨z,⟨by rw[Af,if_neg e];exact f,rfl⟩,?_⟩
   cases t:z.dead
   ·exact .inr ⟨rfl,rfl,rfl,fun _=>rfl⟩
   ·exact .inl rfl
 refine⟨E,⟨?_,?_,S.gl.ext E,fun b z f s I=>?_,fun b z f s I=>by
   rw[Af] at f
   by_cases e:b=d
   ·rw[if_pos e] at f;simp at f;subst f;simp[C] at I
   ·rw[if_neg e] at f
    have M:=S.mblk b z f s I
    refine M.keep rfl (fun k o l=>rfl) (fun g k o l n=>?_)
    rcases n with n | ⟨o',D,_⟩
    ·exact n
    ·exact absurd (S.sep b d z x k o o' f hx s t M.2.1 l D) e,?_⟩,rfl,rfl,rfl,A1h _,fun k hk _=>rfl,?_,?_⟩
 ·rintro o k (n | ⟨o',l,_⟩)
  ·exact S.jlt o k n
  ·exact BP S hx t l
 ·rintro k (n | ⟨o',l,ht⟩)
  ·exact .inl (S.jft k n)
  ·exact .inr ⟨o',l,fun _=>rfl⟩
 ·rw[Af] at f
  by_cases e:b=d
  ·rw[if_pos e] at f;simp at f;subst f;subst e
   rcases S.blk b x hx t C with q | ⟨k,o,u,v,A,q,T,U,V,X,h6,Y⟩
   ·exact .inl q
   ·exact .inr ⟨k,o,u,v,A,q,T,U,V,X.ext E,fun hs=>by simp at hs,fun _=>.inr ⟨o,q,id⟩⟩
  ·rw[if_neg e] at f
   rcases S.blk b z f s I with q | ⟨k,o,u,v,A,q,T,U,V,X,h6,Y⟩
   ·exact .inl q
   ·refine .inr ⟨k,o,u,v,A,q,T,U,V,X.ext E,fun hs g n=>?_,fun hs=>.inl (Y hs)⟩
    rcases n with n | ⟨o',l,_⟩
    ·exact h6 hs g n
    ·exact e (S.sep b d z x k o o' f hx s t hs q l)
 ·intro b b' z z' k o o' f hb' hd1 hd2 hs l D
  have get:∀ {c y},Ak (Gq h d { x with sealed:=true }) c=some y→y.dead=false→∃ y',Ak h c=some y'∧y'.dead=false∧(y.sealed=false→y'.sealed=false):=by
   intro c y G hyd
   rw[Af] at G
   by_cases e:c=d
   ·subst e;exact⟨x,hx,t,fun hs=>by simp at G;subst G;simp at hs⟩
   ·rw[if_neg e] at G;exact⟨y,G,hyd,id⟩
  obtain⟨y1,g1,g2,g3⟩:=get f hd1
  obtain⟨y2,g4,g5,g6⟩:=get hb' hd2
  exact S.sep b b' y1 y2 k o o' g1 g4 g2 g5 (g3 hs) l D
 ·rintro k ⟨b,z,o,f,s,hs,l⟩ hk
  rw[Af] at f
  by_cases e:b=d
  ·rw[if_pos e] at f;simp at f;subst f;simp at hs
  ·rw[if_neg e] at f
   exact⟨b,z,o,f,s,hs,l⟩
 ·rintro o k (n | ⟨o',l,ht⟩)
  ·exact .inl n
  ·cases hs:x.sealed with
   | false=>exact .inr (.inl ⟨d,x,o',hx,t,hs,l⟩)
   | true =>
    left
    rcases S.blk d x hx t C with⟨q,_⟩ | ⟨k',o1,u,v,A,q,T,U,V,X,h6,Y⟩
    ·rw[l] at q;simp at q
    ·rw[l] at q;simp at q;obtain⟨rfl,rfl⟩:=q
     have:=Y hs
     cases F:x.taint with
     | true=>rw[F] at this;rw[ht F];exact this
     | false =>
      rw[F] at this
      cases o
      ·exact this
      ·exact S.jft _ this
structure OnlyBlk (w w':World) (k:Nat) (cs cs':Array Value) (ty:TypeId) (fr:Nat×Nat):Prop where
 old:w.heap[k]?=some (.cells cs ty fr)
 new:w'.heap[k]?=some (.cells cs' ty fr)
 sz:cs'.size=cs.size
 other:∀ j,j≠k→w'.heap[j]?=w.heap[j]?
 size:w'.heap.size=w.heap.size
 os:w'.os=w.os
 tape:w'.tape=w.tape
 output:w'.output=w.output
theorem OnlyBlk.setCell {k i:Nat} {cs:Array Value} {ty:TypeId} {fr:Nat×Nat} (d:w.heap[k]?=some (.cells cs ty fr)) (u:Value) :
  OnlyBlk w (w.setCell ⟨k,i,none⟩ u) k cs (cs.setIfInBounds i u) ty fr:=by
 refine⟨d,?_,by simp,fun j f=>?_,by simp[World.setCell],rfl,rfl,rfl⟩
 ·simp[World.setCell,A3h,d]
 ·simp only[World.setCell,A3h];rw[if_neg (fun e=>f e.symm)]
theorem OnlyBlk.setCells {k:Nat} {ty:TypeId} {fr:Nat×Nat}:∀ (us:List Value) (i:Nat) (w:World) (cs:Array Value),w.heap[k]?=some (.cells cs ty fr) →
  ∃ d,OnlyBlk w (w.setCells k i us) k cs d ty fr∧∀ j,d[j]?=if i≤j∧j<i+us.length∧j<cs.size then us[j - i]? else cs[j]?
 | [],i,w,cs,f=>⟨cs,⟨f,f,rfl,fun _ _=>rfl,rfl,rfl,rfl,rfl⟩,fun j=>by rw[if_neg (by simp;omega)]⟩
 | u::us,i,w,cs,f=>by
  have A:=OnlyBlk.setCell (i:=i) f u
  obtain⟨d,B,hB⟩:=OnlyBlk.setCells us (i+1) (w.setCell ⟨k,i,none⟩ u) _ A.new
  refine⟨d,⟨f,B.new,B.sz.trans A.sz,fun j l=>(B.other j l).trans (A.other j l),B.size.trans A.size,B.os.trans A.os,B.tape.trans A.tape,B.output.trans A.output⟩,fun j=>?_⟩
  rw[hB j]
  simp only[A48,A1a]
  by_cases l:j=i
  ·subst l
   rw[if_neg (by omega)]
   by_cases hs:j<cs.size
   ·rw[if_pos (by omega)];simp[hs]
   ·rw[if_neg (by omega)];simp[hs]
  ·by_cases n:i+1≤j∧j<i+1+us.length∧j<cs.size
   ·rw[if_pos n,if_pos (by omega),show j - i=(j - (i+1))+1 by omega];simp
   ·rw[if_neg n,if_neg (by omega),A4q (by omega)]
theorem Step.set (S:SimH J β h w) {d k o:Nat} {x x':Blk} {cs t:Array Value} {ty:TypeId} {fr:Nat×Nat} (hx:Ak h d=some x) (q:x.dead=false) (hs:x.sealed=false) (A:β d=some (k,o))
  (O:OnlyBlk w w' k cs t ty fr) (hd':x'.dead=false) (U:x'.sealed=false) (hz:x'.sz=x.sz) (hl:x'.cells.length=x.cells.length) (F:CellsRep J β h w x' (fun j=>t[o+j]?)) (G:x.mp=false) (s:x'.mp=x.mp:=by rfl) (hty:x'.ty=x.ty:=by rfl) :
  Step J β h w J β (Gq h d x') w':=by
 obtain⟨I,o',cs0,ty0,fr0,u,V,h3,h4,h5,h6,h7⟩:∃ I o' cs0 ty0 fr0,β d=some (I,o')∧w.heap[I]?=some (.cells cs0 ty0 fr0) ∧
   FrTy x.ty ty0 o' cs0.size fr0∧o'+x.cells.length≤cs0.size∧CellsRep J β h w x (fun j=>cs0[o'+j]?)∧(x.sealed=false→∀ g,¬ J g I)∧(x.sealed=true→J x.taint I):=by
  rcases S.blk d x hx q G with⟨T,_⟩ | T
  ·rw[A] at T;simp at T
  ·exact T
 rw[A] at u;simp at u;obtain⟨rfl,rfl⟩:=u
 rw[O.old] at V;simp at V;obtain⟨rfl,rfl,rfl⟩:=V
 have nj:∀ g j,J g j→j≠k:=fun g j n e=>by subst e;exact h6 hs g n
 have E:Ext J β h w J β (Gq h d x') w':=by
  refine⟨fun _ _ n=>n,fun o j n=>O.other j (nj o j n),fun b z f=>?_,fun b j oo f=>?_⟩
  ·by_cases e:b=d
   ·subst e;rw[hx] at f;simp at f;subst f
    exact⟨_,⟨by rw[Af,if_pos rfl],s⟩,.inr ⟨q,rfl,hz,fun _=>hl⟩⟩
   ·refine⟨z,⟨by rw[Af,if_neg e];exact f,rfl⟩,?_⟩
    cases q:z.dead
    ·exact .inr ⟨rfl,rfl,rfl,fun _=>rfl⟩
    ·exact .inl rfl
  ·by_cases e:j=k
   ·subst e;rw[Fc O.old,Fc O.new,O.sz];exact A1h _
   ·simp[Be,O.other j e]
 refine⟨E,⟨fun g j n=>by rw[O.size];exact S.jlt g j n,S.jft,S.gl.ext E,fun b z f l C=>?_,fun b z f l C=>by
   rw[Af] at f
   by_cases e:b=d
   ·rw[if_pos e] at f;simp at f;subst f;simp[s,G] at C
   ·rw[if_neg e] at f
    exact(S.mblk b z f l C).keep rfl (fun k2 o2 v=>O.other k2 (fun X=>by subst X;exact e (S.sep d b x z k2 o o2 hx f q l hs A v).symm)) (fun _ _ _ _ n=>n),?_⟩,O.os,O.tape,O.output,by rw[O.size];exact A1h _,fun j n C=>?_,?_,fun _ _ n=>.inl n⟩
 ·rw[Af] at f
  by_cases e:b=d
  ·rw[if_pos e] at f;simp at f;subst f;subst e
   refine .inr ⟨k,o,t,ty,fr,A,O.new,?_,by rw[hl,O.sz];exact h4,F.ext E,fun _=>h6 hs,fun hh=>by simp[U] at hh⟩
   rw[O.sz,hty];exact h3
  ·rw[if_neg e] at f
   rcases S.blk b z f l C with D | ⟨k2,o2,cs2,ty2,fr2,D,Y,g3,g4,g5,g6,g7⟩
   ·exact .inl D
   ·have hne:k2≠k:=fun X=>by
     subst X;exact e (S.sep d b x z k2 o o2 hx f q l hs A D).symm
    exact .inr ⟨k2,o2,cs2,ty2,fr2,D,by rw[O.other k2 hne];exact Y,g3,g4,g5.ext E,g6,g7⟩
 ·intro b b' z z' kk oo oo' f hb' hd1 hd2 hs1 hβ1 v
  have get:∀ {c y},Ak (Gq h d x') c=some y→y.dead=false→∃ y',Ak h c=some y'∧y'.dead=false∧(y.sealed=false→y'.sealed=false):=by
   intro c y F hyd
   rw[Af] at F
   by_cases e:c=d
   ·subst e;exact⟨x,hx,q,fun _=>hs⟩
   ·rw[if_neg e] at F;exact⟨y,F,hyd,id⟩
  obtain⟨y1,D,Y,g3⟩:=get f hd1
  obtain⟨y2,g4,g5,g6⟩:=get hb' hd2
  exact S.sep b b' y1 y2 kk oo oo' D g4 Y g5 (g3 hs1) hβ1 v
 ·exact O.other j (fun e=>C (by subst e;exact⟨d,x,o,hx,q,hs,A⟩))
 ·rintro j ⟨b,z,oo,f,l,hsz,M⟩ n
  rw[Af] at f
  by_cases e:b=d
  ·subst e;exact⟨b,x,oo,hx,q,hs,M⟩
  ·rw[if_neg e] at f
   exact⟨b,z,oo,f,l,hsz,M⟩
theorem Step.setObj (S:SimH J β h w) {d k:Nat} {x x':Blk} {ob A:Obj} (hx:Ak h d=some x) (C:x.dead=false) (I:x.mp=true) (F:β d=some (k,0))
  (old:w.heap[k]?=some ob) (new:w'.heap[k]?=some A) (other:∀ j,j≠k→w'.heap[j]?=w.heap[j]?) (size:w'.heap.size=w.heap.size) (os:w'.os=w.os) (tape:w'.tape=w.tape) (output:w'.output=w.output)
  (T:ObjIs x' A) (hx'd:x'.dead=false) (U:x'.sealed=false) (V:x'.pure=true) (X:x'.sz=x.sz) (v:x'.mp=true):Step J β h w J β (Gq h d x') w':=by
 have M:=S.mblk d x hx C I
 have nJ:∀ g,¬ J g k:=by
  obtain⟨_,_,k',_,q,_,_,t⟩:=M
  rw[F] at q;simp at q;subst q;exact t
 have nj:∀ g j,J g j→j≠k:=fun g j l e=>by subst e;exact nJ g l
 have E:Ext J β h w J β (Gq h d x') w':=by
  refine⟨fun _ _ l=>l,fun o j l=>other j (nj o j l),fun b z f=>?_,fun b j oo f=>?_⟩
  ·by_cases e:b=d
   ·subst e;rw[hx] at f;simp at f;subst f
    exact⟨_,⟨by rw[Af,if_pos rfl],by rw[v,I]⟩,.inr ⟨C,rfl,X,fun h=>by simp[I] at h⟩⟩
   ·refine⟨z,⟨by rw[Af,if_neg e];exact f,rfl⟩,?_⟩
    cases C:z.dead
    ·exact .inr ⟨rfl,rfl,rfl,fun _=>rfl⟩
    ·exact .inl rfl
  ·by_cases e:j=k
   ·subst e
    have r0:∀ cs ty fr,ob≠.cells cs ty fr:=by
     obtain⟨_,_,k',ob0,q,t,h3,_⟩:=M
     rw[F] at q;simp at q;subst q
     rw[old] at t;simp at t;subst t
     exact fun _ _ _=>h3.row
    have z0:Be w j=0:=by
     unfold Be;rw[old]
     split
     ·rename_i e;simp at e;exact absurd e (r0 _ _ _)
     ·rfl
    rw[z0];exact A4m _
   ·simp[Be,other j e]
 refine⟨E,⟨fun g j l=>by rw[size];exact S.jlt g j l,S.jft,S.gl.ext E,fun b z f n u=>?_,fun b z f n u=>?_,?_⟩,os,tape,output,by rw[size];exact A1h _,fun j l I=>?_,?_,fun _ _ l=>.inl l⟩
 ·rw[Af] at f
  by_cases e:b=d
  ·rw[if_pos e] at f;simp at f;subst f;simp[v] at u
  ·rw[if_neg e] at f
   rcases S.blk b z f n u with Y | ⟨k2,o2,cs2,ty2,fr2,Y,G,g3,g4,g5,g6,g7⟩
   ·exact .inl Y
   ·have hne:k2≠k:=fun e2=>by
     subst e2;rw[old] at G;simp at G
     obtain⟨_,_,k',ob0,q,t,h3,_⟩:=M
     rw[F] at q;simp at q;subst q
     rw[old] at t;simp at t;subst t
     exact absurd G h3.row
    exact .inr ⟨k2,o2,cs2,ty2,fr2,Y,by rw[other k2 hne];exact G,g3,g4,g5.ext E,g6,g7⟩
 ·rw[Af] at f
  by_cases e:b=d
  ·rw[if_pos e] at f;simp at f;subst f;subst e
   exact⟨V,U,k,A,F,new,T,nJ⟩
  ·rw[if_neg e] at f
   exact(S.mblk b z f n u).keep rfl (fun k2 o2 D=>other k2 (fun e2=>by subst e2;exact e (S.sep d b x z k2 0 o2 hx f C n M.2.1 F D).symm)) (fun _ _ _ _ l=>l)
 ·intro b b' z z' kk oo oo' f hb' hd1 hd2 hs1 hβ1 D
  have get:∀ {c y},Ak (Gq h d x') c=some y→y.dead=false→∃ y',Ak h c=some y'∧y'.dead=false∧(y.sealed=false→y'.sealed=false):=by
   intro c y T hyd
   rw[Af] at T
   by_cases e:c=d
   ·subst e;exact⟨x,hx,C,fun _=>M.2.1⟩
   ·rw[if_neg e] at T;exact⟨y,T,hyd,id⟩
  obtain⟨y1,Y,G,g3⟩:=get f hd1
  obtain⟨y2,g4,g5,g6⟩:=get hb' hd2
  exact S.sep b b' y1 y2 kk oo oo' Y g4 G g5 (g3 hs1) hβ1 D
 ·exact other j (fun e=>I (by subst e;exact⟨d,x,0,hx,C,M.2.1,F⟩))
 ·rintro j ⟨b,z,oo,f,n,hsz,hβz⟩ l
  rw[Af] at f
  by_cases e:b=d
  ·subst e;exact⟨b,x,oo,hx,C,M.2.1,hβz⟩
  ·rw[if_neg e] at f
   exact⟨b,z,oo,f,n,hsz,hβz⟩
theorem Step.mark (S:SimH J β h w) {d k o:Nat} {x:Blk} {cs:Array Value} {ty:TypeId} {fr s:Nat×Nat} (hx:Ak h d=some x) (v:x.dead=false) (hs:x.sealed=false) (y:β d=some (k,o))
  (old:w.heap[k]?=some (.cells cs ty fr)) (new:w'.heap[k]?=some (.cells cs ty s)) (V:FrOk cs.size s) (other:∀ j,j≠k→w'.heap[j]?=w.heap[j]?) (size:w'.heap.size=w.heap.size) (os:w'.os=w.os) (tape:w'.tape=w.tape) (output:w'.output=w.output) (u:x.mp=false) :
  Step J β h w J β h w':=by
 have nj:∀ g j,J g j→j≠k:=fun g j f e=>by
  subst e
  rcases S.blk d x hx v u with⟨F,_⟩ | ⟨k',o',cs0,ty0,fr0,t,h2,h3,h4,h5,X,h7⟩
  ·rw[y] at F;simp at F
  ·rw[y] at t;simp at t;obtain⟨rfl,rfl⟩:=t
   exact X hs g f
 have E:Ext J β h w J β h w':=by
  refine⟨fun _ _ f=>f,fun o j f=>other j (nj o j f),fun b z l=>⟨z,⟨l,rfl⟩,?_⟩,fun b j oo l=>?_⟩
  ·cases v:z.dead
   ·exact .inr ⟨rfl,rfl,rfl,fun _=>rfl⟩
   ·exact .inl rfl
  ·by_cases e:j=k
   ·subst e;rw[Fc old,Fc new];exact A1h _
   ·simp[Be,other j e]
 refine⟨E,⟨fun g j f=>by rw[size];exact S.jlt g j f,S.jft,S.gl.ext E,fun b z l n q=>?_,fun b z l n q=>by
   refine(S.mblk b z l n q).keep rfl (fun k2 o2 D=>other k2 (fun Y=>?_)) (fun _ _ _ _ f=>f)
   subst Y
   have:=(S.sep d b x z k2 o o2 hx l v n hs y D)
   subst this
   rw[hx] at l;simp at l;subst l;simp[u] at q,S.sep⟩,os,tape,output,by rw[size];exact A1h _,fun j f q=>?_,fun _ q _=>q,fun _ _ f=>.inl f⟩
 ·rcases S.blk b z l n q with A | ⟨k2,o2,cs2,ty2,fr2,A,C,G,I,M,T,U⟩
  ·exact .inl A
  ·by_cases e:k2=k
   ·subst e
    rw[old] at C;simp at C;obtain⟨rfl,rfl,rfl⟩:=C
    exact .inr ⟨k2,o2,cs,ty,s,A,new,⟨V,G.2⟩,I,M.ext E,T,U⟩
   ·exact .inr ⟨k2,o2,cs2,ty2,fr2,A,by rw[other k2 e];exact C,G,I,M.ext E,T,U⟩
 ·exact other j (fun e=>q (by subst e;exact⟨d,x,o,hx,v,hs,y⟩))
theorem Step.move (S:SimH J β h w) {d d' k o o':Nat} {x x' y:Blk} {cs D:Array Value} {ty:TypeId} {fr:Nat×Nat} (hx:Ak h d=some x) (v:x.dead=false) (hs:x.sealed=false) (A:β d=some (k,o))
  (hn:Ak h d'=none) (hy:y.dead=true)
  (O:OnlyBlk w w' k cs D ty fr) (hd':x'.dead=false) (hs':x'.sealed=false) (hl:o'+x'.cells.length≤cs.size) (hc:CellsRep J β h w x' (fun j=>D[o'+j]?)) (hxm:x.mp=false) (hym:y.mp=x.mp:=by rfl) (T:x'.mp=false:=by rfl) (hty:TyOk x'.ty ty o' cs.size:=by exact TyOk.none) :
  Step J β h w J (fun b=>if b=d' then some (k,o') else β b) (Gq (Gq h d y) d' x') w':=by
 obtain⟨U,o1,cs0,ty0,fr0,F,h2,h3,h4,h5,h6,h7⟩:∃ U o' cs0 ty0 fr0,β d=some (U,o')∧w.heap[U]?=some (.cells cs0 ty0 fr0) ∧
   FrTy x.ty ty0 o' cs0.size fr0∧o'+x.cells.length≤cs0.size∧CellsRep J β h w x (fun j=>cs0[o'+j]?)∧(x.sealed=false→∀ g,¬ J g U)∧(x.sealed=true→J x.taint U):=by
  rcases S.blk d x hx v hxm with⟨h1,_⟩ | h1
  ·rw[A] at h1;simp at h1
  ·exact h1
 rw[A] at F;simp at F;obtain⟨rfl,rfl⟩:=F
 rw[O.old] at h2;simp at h2;obtain⟨rfl,rfl,rfl⟩:=h2
 have nj:∀ g j,J g j→j≠k:=fun g j q e=>by subst e;exact h6 hs g q
 have ndd:d≠d':=fun e=>by subst e;rw[hn] at hx;cases hx
 have ne:∀ {b z},Ak h b=some z→b≠d':=fun f e=>by subst e;rw[hn] at f;cases f
 have get:∀ b,Ak (Gq (Gq h d y) d' x') b=if b=d' then some x' else if b=d then some y else Ak h b:=fun b=>by rw[Af,Af]
 have E:Ext J β h w J (fun b=>if b=d' then some (k,o') else β b) (Gq (Gq h d y) d' x') w':=by
  refine⟨fun _ _ q=>q,fun o j q=>O.other j (nj o j q),fun b z f=>?_,fun b j oo f=>?_⟩
  ·by_cases e:b=d
   ·have hb0:=f;subst e;rw[hx] at f;simp at f;subst f;exact⟨y,⟨by rw[get,if_neg (ne hb0),if_pos rfl],hym⟩,.inl hy⟩
   ·refine⟨z,⟨by rw[get,if_neg (ne f),if_neg e];exact f,rfl⟩,?_⟩
    cases v:z.dead
    ·exact .inr ⟨rfl,by simp[ne f],rfl,fun _=>rfl⟩
    ·exact .inl rfl
  ·by_cases e:j=k
   ·subst e;rw[Fc O.old,Fc O.new,O.sz];exact A1h _
   ·simp[Be,O.other j e]
 have live:∀ {b z},Ak (Gq (Gq h d y) d' x') b=some z→z.dead=false→(b=d'∧z=x')∨(b≠d'∧b≠d∧Ak h b=some z):=by
  intro b z f hz
  rw[get] at f
  by_cases e:b=d'
  ·rw[if_pos e] at f;simp at f;exact .inl ⟨e,f.symm⟩
  ·rw[if_neg e] at f
   by_cases t:b=d
   ·rw[if_pos t] at f;simp at f;subst f;simp[hy] at hz
   ·rw[if_neg t] at f;exact .inr ⟨e,t,f⟩
 refine⟨E,⟨fun g j q=>by rw[O.size];exact S.jlt g j q,S.jft,S.gl.ext E,fun b z f l M=>?_,fun b z f l M=>by
   rcases live f l with⟨rfl,rfl⟩ | ⟨e1,t,f⟩
   ·simp[T] at M
   ·exact(S.mblk b z f l M).keep (by simp[e1]) (fun k2 o2 n=>O.other k2 (fun e=>by subst e;exact t (S.sep d b x z k2 o o2 hx f v l hs A n).symm)) (fun _ _ _ _ q=>q),?_⟩,O.os,O.tape,O.output,by rw[O.size];exact A1h _,fun j q M=>?_,?_,fun _ _ q=>.inl q⟩
 ·rcases live f l with⟨rfl,rfl⟩ | ⟨e1,t,f⟩
  ·refine .inr ⟨k,o',D,ty,fr,by simp,O.new,?_,by rw[O.sz];exact hl,hc.ext E,fun _=>h6 hs,fun hh=>by simp[hs'] at hh⟩
   rw[O.sz];exact⟨h3.1,hty⟩
  ·rcases S.blk b z f l M with V | ⟨k2,o2,cs2,ty2,fr2,V,g2,g3,g4,g5,g6,g7⟩
   ·exact .inl ⟨by simp[e1,V.1],V.2⟩
   ·have hne:k2≠k:=fun e=>by
     subst e;exact t (S.sep d b x z k2 o o2 hx f v l hs A V).symm
    exact .inr ⟨k2,o2,cs2,ty2,fr2,by simp[e1,V],by rw[O.other k2 hne];exact g2,g3,g4,g5.ext E,g6,g7⟩
 ·intro b b' z z' kk oo X f hb' G I hs1 s n
  rcases live f G with⟨e0,_⟩ | ⟨e1,t,Y⟩<;>rcases live hb' I with⟨e0',_⟩ | ⟨e3,e4,C⟩
  ·rw[e0,e0']
  ·simp[e0] at s;simp[e3] at n
   obtain⟨rfl,rfl⟩:=s
   exact absurd (S.sep d b' x z' k o X hx C v I hs A n).symm e4
  ·simp[e0'] at n;simp[e1] at s
   obtain⟨rfl,rfl⟩:=n
   exact absurd (S.sep d b x z k o oo hx Y v G hs A s).symm t
  ·simp[e1] at s;simp[e3] at n
   exact S.sep b b' z z' kk oo X Y C G I hs1 s n
 ·exact O.other j (fun e=>M (by subst e;exact⟨d,x,o,hx,v,hs,A⟩))
 ·rintro j ⟨b,z,oo,f,l,hsz,u⟩ q
  rcases live f l with⟨rfl,rfl⟩ | ⟨e1,t,f⟩
  ·simp at u;obtain⟨rfl,rfl⟩:=u
   exact⟨d,x,o,hx,v,hs,A⟩
  ·simp[e1] at u;exact⟨b,z,oo,f,l,hsz,u⟩
end
end Gx
namespace Gx
open Go
theorem Cx:∀ (a b:Ez) (h:A1),Al (a++b) h=Al b (Al a h)
 | [],_,_=>rfl
 | (_,some _)::r,b,h=>by simp only[A1o,Al];exact Cx r b _
 | (_,none)::r,b,h=>by simp only[A1o,Al];exact Cx r b _
def LooksS (g:Bk) (h:A1):Prop:=∀ b x,g b=some x→∃ y,Ak h b=some y∧{ y with sealed:=true }={ x with sealed:=true }
theorem Looks.s {g:Bk} {h:A1} (d:Looks g h):LooksS g h:=fun b x f=>⟨x,d b x f,rfl⟩
section
variable {R:Type} {r:R} {P:Program} {J J':Bool→Nat→Prop} {β:Cu} {h:A1} {w:World} {g:Bk}
theorem LooksS.shutB (f:LooksS g h) {b:Nat} {x:Blk} (k:g b=some x):LooksS g (Gq h b { x with sealed:=true }):=by
 intro c y d
 rw[Af]
 by_cases e:c=b
 ·subst e;rw[k] at d;simp at d;subst d
  exact⟨{ x with sealed:=true },by simp,rfl⟩
 ·rw[if_neg e];exact f c y d
theorem Aiq (S:SimH J β h w) {b off n:Nat} {y:Blk} {v:Value} (G:Ak h b=some y) (I:y.dead=false) (M:y.pure=true) (hr:Rep J β h w (.own b off n) v)
  (hJ:∀ k o,β b=some (k,o)→J' y.taint k) (q:∀ o k,J o k→J' o k) (t o:Bool):RepC (J' y.taint) w (.imm ((y.cells.drop off).take (n*y.sz)) n y.sz t o) v↔(t=true→∃ A cap,v=.slice A n cap∧cap=n):=by
 rw[Rep] at hr
 obtain⟨x,A,cap,⟨f,u⟩,rfl,d,hr⟩:=hr
 rw[G] at f;simp at f;subst f
 rw[RepC]
 constructor
 ·rintro⟨_,A',cap',z,_,C,_⟩ D
  exact⟨A',cap',z,C D⟩
 ·intro C
  have s:t=true→cap=n:=fun D=>by
   obtain⟨A',cap',z,X⟩:=C D
   simp at z;omega
  rcases hr with hr | ⟨kk,oo,rfl,hr⟩
  ·have:n=0:=by omega
   subst this
   exact⟨by simp,A,cap,rfl,d,s,.inl rfl⟩
  ·rcases hr with hr | ⟨F,Y,r3⟩
   ·simp[I] at hr
   ·rcases S.blk b y G I u with⟨hn,_⟩ | ⟨k',o',cs,ty,fr,l,T,g2,g3,U,g5,g6⟩
    ·rw[F] at hn;simp at hn
    ·rw[F] at l;simp at l;obtain⟨rfl,rfl⟩:=l
     refine⟨by simp;omega,_,cap,rfl,d,s,.inr ⟨_,rfl,hJ _ _ F,?_⟩⟩
     have:=((U.1 M).drop off).take (n*y.sz)
     refine RepCs.keep (fun k V=>q _ k V) (fun _ _=>rfl) (fun j=>?_) this
     rw[Addr.add_mid,Sk T,A2l]
theorem Anh {b off n:Nat} {y:Blk} {v:Value} (k:Ak h b=some y) (hr:Rep J β h w (.own b off n) v):y.mp=false:=by
 rw[Rep] at hr
 obtain⟨x,A,cap,⟨d,f⟩,_⟩:=hr
 rw[k] at d;simp at d;subst d;exact f
theorem Aq2 {b off:Nat} {y:Blk} {v:Value} (l:Ak h b=some y) (hr:Rep J β h w (.optr b off) v):y.mp=false:=by
 rw[Rep] at hr
 obtain⟨x,k,o,⟨d,f⟩,_⟩:=hr
 rw[l] at d;simp at d;subst d;exact f
theorem VC {v v':AV} {ups:Ez} {org:Bool} {vc:Value} (S:SimH J β h w) (s:LooksS g h) (f:dG g v=some (v',ups,org)) (l:Rep J β h w v vc) :
    ∃ J',Step J β h w J' β (Al ups h) w∧RepC (J' org) w v' vc∧LooksS g (Al ups h):=by
  unfold dG at f
  split at f
  · rename_i b off n
    obtain⟨x,hx,C⟩:=ub f
    obtain⟨D,u⟩:=uc C
    simp at u
    obtain⟨rfl,rfl,rfl⟩:=u
    unfold Hm at hx
    obtain⟨x0,q,hx⟩:=ub hx
    obtain⟨z,hx⟩:=Afe hx
    simp at hx;subst hx
    obtain⟨y,t,d⟩:=s b _ q
    have e1:y.cells=x0.cells:=by have:=congrArg Blk.cells d;simpa using this
    have F:y.sz=x0.sz:=by have:=congrArg Blk.sz d;simpa using this
    have e3:y.taint=x0.taint:=by have:=congrArg Blk.taint d;simpa using this
    have e4:y.dead=x0.dead:=by have:=congrArg Blk.dead d;simpa using this
    have G:y.pure=x0.pure:=by have:=congrArg Blk.pure d;simpa using this
    have A:=Step.shutB S t (by rw[e4];exact z) (Anh t l)
    refine⟨_,by simp only[Al];rw[←d];exact A,?_,by simp only[Al];exact s.shutB q⟩
    have:=(Aiq (J':=fun o k=>J o k∨∃ o',β b=some (k,o')∧(y.taint=true→o=true)) S t (by rw[e4];exact z) (by rw[G];exact D) l (fun k o I=>.inr ⟨o,I,id⟩) (fun o k M=>.inl M) false x0.taint).2 (by simp)
    rw[e1,F,e3] at this
    rw[e3]
    exact this
  all_goals first
    | (simp at f;done)
    | (simp at f; obtain ⟨rfl, rfl, rfl⟩ := f
       refine⟨J,Step.refl S,?_,s⟩
       first
         | (rw[Rep] at l;exact l)
         | skip)
  · cases v
    case imm=>rename_i hi _ _;exact absurd rfl (hi _ _ _ _ _)
    case iptr=>rename_i hi _;exact absurd rfl (hi _ _)
    case pagg=>rename_i hi;exact absurd rfl (hi _ _)
    all_goals first | (rw[Rep] at l;rw[RepC];exact l) | simp_all
theorem U1:∀ {c f:LA} {ups:Ez} {org:Bool} {cs:List Value} {J:Bool→Nat→Prop} {h:A1},SimH J β h w→LooksS g h→ER g c=some (f,ups,org)→Reps J β h w c cs →
  ∃ J',Step J β h w J' β (Al ups h) w∧RepCs (J' org) w f (fun j=>cs[j]?) 0∧f.length=cs.length∧LooksS g (Al ups h)
 | [],f,ups,org,cs,J,h,S,s,l,n=>by
  simp[ER] at l;obtain⟨rfl,rfl,rfl⟩:=l
  rw[Reps] at n;subst n
  exact⟨J,Step.refl S,by simp[RepCs],rfl,s⟩
 | v::r,f,ups,org,cs,J,h,S,s,l,n=>by
  rw[ER] at l
  obtain⟨⟨v1,u1,o1⟩,G,I⟩:=ub l
  obtain⟨⟨T,u2,o2⟩,hq,D⟩:=ub I
  simp at D
  obtain⟨rfl,rfl,rfl⟩:=D
  rw[Reps] at n
  obtain⟨u,us,rfl,t,y⟩:=n
  obtain⟨J1,A,hA,z⟩:=VC S s G t
  obtain⟨J2,B,hB,q,C⟩:=U1 A.sim z hq (Reps.ext A.ext y)
  refine⟨J2,by rw[Cx];exact A.trans B (fun _ _ _ _=>A1h _),?_,by simp[q],by rw[Cx];exact C⟩
  have mono:∀ {a b:Bool} (k:Nat),J2 a k→J2 (a||b) k:=fun {a b} k d=>by
   cases a
   ·cases b
    ·exact d
    ·exact B.sim.jft k d
   ·exact d
  have mono':∀ {a b:Bool} (k:Nat),J2 b k→J2 (a||b) k:=fun {a b} k d=>by rw[A5j];exact mono k d
  rw[RepCs]
  refine⟨⟨u,by simp,?_⟩,?_⟩
  ·exact RepC.keep (J:=J1 o1) (fun k d=>mono k (B.ext.jsub _ k d)) (fun _ _=>rfl) hA
  ·have:=RepCs.keep (J':=J2 (o1||o2)) (w':=w) (fun k d=>mono' k d) (fun _ _=>rfl) (rd':=fun j=>us[j]?) (fun _=>rfl) hB
   rw[Cb] at this ⊢
   intro j x M
   have F:=this j x M
   simp only[A1w] at F
   rw[show 1+j=j+1 by omega]
   simpa using F
theorem SI {v:AV} {k:LA} {ups:Ez} {org:Bool} {vc:Value} (S:SimH J β h w) (q:LooksS g h) (f:EF g v=some (k,ups,org)) (l:Rep J β h w v vc) :
  ∃ J',Step J β h w J' β (Al ups h) w∧RepCs (J' org) w k (fun j=>vc.cells.toList[j]?) 0∧k.length=vc.cells.toList.length∧LooksS g (Al ups h):=by
 unfold EF at f
 split at f
 ·rename_i c org'
  simp at f;obtain⟨rfl,rfl,rfl⟩:=f
  rw[Rep] at l
  obtain⟨cs,rfl,y,n⟩:=l
  exact⟨J,Step.refl S,n,by simp[Value.cells,y],q⟩
 ·rename_i c
  rw[Rep] at l
  obtain⟨cs,rfl,n⟩:=l
  exact U1 S q f n
 ·rename_i v y n
  obtain⟨J',A,hA,d,s⟩:=U1 (cs:=[vc]) S q f (by rw[Reps];exact⟨vc,[],rfl,l,by rw[Reps]⟩)
  have F:vc.oneCell'=true:=by
   have t:k.length=1:=d
   cases z:k with
   | nil=>simp[z] at t
   | cons x r =>
    obtain⟨u,C,hr⟩:=hA.at (j:=0) (x:=x) (by simp[z])
    simp at C;subst C
    exact g8 hr
  have D:vc.cells=#[vc]:=by cases vc<;>simp_all[Value.cells,Value.oneCell']
  rw[D]
  exact⟨J',A,hA,d,s⟩
end
end Gx
namespace Gx
open Go
theorem Cy:∀ (ups:Ez) (h:A1) (b:Nat),Bg ups b=false→Ak (Al ups h) b=Ak h b
 | [],_,_,_=>rfl
 | (i,some x)::r,h,b,hi=>by
  rw[Bg] at hi
  cases d:beq i b with
  | true=>rw[d] at hi;simp at hi
  | false =>
   rw[d] at hi
   rw[Al,Cy r _ b hi,Af,if_neg (fun e=>CB d e.symm)]
 | (i,none)::r,h,b,hi=>by
  rw[Bg] at hi
  cases d:beq i b with
  | true=>rw[d] at hi;simp at hi
  | false =>
   rw[d] at hi
   rw[Al,Cy r _ b hi]
   split
   ·rw[Af,if_neg (fun e=>CB d e.symm)]
   ·rfl
theorem EX {c vs:LA} {off:Nat} (k:off+vs.length≤c.length) (j:Nat):(Du c off vs)[j]?=if off≤j∧j<off+vs.length then vs[j - off]? else c[j]?:=by
 unfold Du
 rw[A1l,A2j]
 simp only[A2a,A2h (show off≤c.length by omega)]
 by_cases d:j<off
 ·rw[if_pos d,if_neg (by omega),A28,if_pos d]
 ·rw[if_neg d,A2j]
  by_cases f:j - off<vs.length
  ·rw[if_pos f,if_pos (by omega)]
  ·rw[if_neg f,if_neg (by omega),A27];congr 1;omega
theorem Sm {c vs:LA} {off:Nat} (d:off+vs.length≤c.length):(Du c off vs).length=c.length:=by
 unfold Du;simp;omega
theorem O' {c vs:LA} {off:Nat} (d:off+vs.length≤c.length) (j:Nat):(setCells c off vs)[j]?=if off≤j∧j<off+vs.length then vs[j - off]? else c[j]?:=by
 unfold setCells
 split
 ·rename_i y
  simp at d
  rw[List.getElem?_set]
  by_cases e:off=j
  ·subst e;simp;omega
  ·rw[if_neg e,if_neg (by simp;omega)]
 ·exact EX d j
theorem Te {c vs:LA} {off:Nat} (d:off+vs.length≤c.length):(setCells c off vs).length=c.length:=by
 unfold setCells
 split
 ·simp
 ·exact Sm d
section
variable {R:Type} {r:R} {P:Program} {J J':Bool→Nat→Prop} {β:Cu} {h:A1} {w w':World} {g:Bk}
theorem Q8 {v:AV} {vc:Value} (hs:L_ g v=true) (d:Rep J β h w v vc):vc.oneCell'=true:=by
 cases v<;>simp[L_] at hs
 case own=>rw[Rep] at d;obtain⟨x,A,cap,_,rfl,_⟩:=d;rfl
 case optr=>rw[Rep] at d;obtain⟨x,k,o,_,rfl,_⟩:=d;rfl
 case fn=>rw[Rep] at d;obtain⟨cs,rfl,_⟩:=d;rfl
 case imm=>rw[Rep,RepC] at d;obtain⟨_,A,cap,rfl,_⟩:=d;rfl
 case iptr=>rw[Rep,RepC] at d;obtain⟨a,rfl,_⟩:=d;rfl
 all_goals (rw[Rep] at d;subst d;rfl)
theorem DJ:∀ {c:LA},Qz g c=true→∀ (j:Nat) (x:AV),c[j]?=some x→L_ g x=true
 | [],_,j,x,d=>by simp at d
 | v::r,hs,j,x,d=>by
  rw[Qz] at hs;simp at hs
  cases j with
  | zero=>simp at d;subst d;exact hs.1
  | succ j=>exact DJ hs.2 j x (by simpa using d)
theorem Afg {k:Nat} {cs d:Array Value} {ty:TypeId} {fr:Nat×Nat} (O:OnlyBlk w w' k cs d ty fr):∀ j,Be w j≤Be w' j:=fun j=>by
 by_cases e:j=k
 ·subst e;rw[Fc O.old,Fc O.new,O.sz];exact A1h _
 ·simp[Be,O.other j e]
theorem VD {t:TypeId} {k o:Nat} {vc:Value} {cs:Array Value} {ty:TypeId} {fr:Nat×Nat} (l:w.heap[k]?=some (.cells cs ty fr)) (n:FrOk cs.size fr)
  (hs:Bv P t=some vc.cells.toList.length) (q:o+vc.cells.toList.length≤cs.size) (s:∀ u ∈ vc.cells.toList,u.oneCell'=true) :
  (Instr.storeAt t (.pointer (some ⟨k,o,none⟩)) vc).run P w=.ok () (w.setCells k o vc.cells.toList):=by
 have d:=run_storeCells_cells (P:=P) k o vc.cells.toList 0 w (fun j v=>by
   rw[A20,Sk l];simp;omega)
  (fun j v=>by
   rw[A20];simp only[World.frozen?,l]
   have:=n.at (o+j) (by omega)
   cases fr;simp at this ⊢;omega) s
 simp only[A20] at d
 have f:=C1 hs w
 simp only[A36] at f
 simp[Instr.storeAt,Instr.sureAddr,storeVar,f,d]
theorem yK {t:TypeId} {p v:AV} {vp vv:Value} {k:AV→Ez→O R} (S:SimH J β h w) (hl:Looks g h) (U:kF P g t p v k=some r) (hp:Rep J β h w p vp) (hv:Rep J β h w v vv) :
  ∃ val ups,k val ups=some r∧∃ J' β' w',(Instr.storeAt t vp vv).run P w=.ok () w'∧Step J β h w J' β' (Al ups h) w'∧val=.undef:=by
 unfold kF at U
 split at U
 ·rename_i b off
  obtain⟨x,hx,h1⟩:=ub U
  obtain⟨n,hn,h2⟩:=ub h1
  obtain⟨hs,h3⟩:=Afe h2
  obtain⟨hb,hd⟩:=D3 hl hx
  have D:=Aq2 hb hp
  cases V:x.pure with
  | true =>
   rw[V] at h3
   obtain⟨⟨c',u1,org⟩,hq,h4⟩:=ub h3
   obtain⟨q,h5⟩:=uc h4
   simp at q
   obtain⟨F,G,X⟩:=q
   obtain⟨J1,A,hA,z,_⟩:=SI S hl.s hq hv
   have hb1:Ak (Al u1 h) b=some x:=by rw[Cy _ _ _ X];exact hb
   obtain⟨kk,o,cs,ty,fr,hβ,rfl,l,hf,hle,hcr,_,_⟩:=xz A.sim hb1 hd (Rep.ext A.ext hp)
   obtain⟨I,O,hO⟩:=OnlyBlk.setCells (k:=kk) vv.cells.toList (o+off) w cs l
   have M:off+c'.length≤x.cells.length:=by omega
   have hone:=RepCs.one hA z.symm
   have B:=Step.set (x':={ x with pure:=true,cells:=setCells x.cells off c',taint:=x.taint||org }) A.sim hb1 hd hs hβ O hd hs rfl (Te M) (by
    refine⟨fun _=>?_,fun U=>by simp at U⟩
    have hold:=hcr.1 V
    rw[Cb]
    intro j y d
    simp only[O' M] at d
    simp only[A1w]
    have mono:∀ {a b:Bool} (k:Nat),J1 a k→J1 (a||b) k:=fun {a b} k l=>by
     cases a
     ·cases b
      ·exact l
      ·exact A.sim.jft k l
     ·exact l
    split at d
    ·rename_i hj'
     obtain⟨u,T,hr⟩:=hA.at d
     refine⟨u,?_,RepC.keep (J:=J1 org) (fun k l=>by rw[A5j];exact mono k l) (fun _ _=>rfl) hr⟩
     rw[hO,if_pos (by omega),←T];congr 1;omega
    ·rename_i hj'
     obtain⟨u,T,hr⟩:=hold.at d
     refine⟨u,?_,RepC.keep (J:=J1 x.taint) (fun k l=>mono k l) (fun _ _=>rfl) hr⟩
     rw[hO,if_neg (by omega)];exact T)
   refine⟨_,_,h5,J1,β,_,VD l hf.1 (by rw[←z,F];exact hn) (by omega) hone,?_,rfl⟩
   rw[Cx]
   exact A.trans (B D) (fun _ k _ _=>Afg O k)
  | false =>
   rw[V] at h3
   obtain⟨kk,o,cs,ty,fr,hβ,rfl,l,hf,hle,hcr,_,_⟩:=xz S hb hd hp
   have go:∀ (c:LA) (cells':LA),(∀ (j:Nat) (y:AV),c[j]?=some y→∃ u,vv.cells.toList[j]?=some u∧Rep J β h w y u∧u.oneCell'=true)→c.length=vv.cells.toList.length→c.length=n→off+c.length≤x.cells.length →
     cells'.length=x.cells.length→(∀ j:Nat,cells'[j]?=if off≤j∧j<off+c.length then c[j - off]? else x.cells[j]?) →
     ∃ J' β' w',(Instr.storeAt t (.pointer (some ⟨kk,o+off,none⟩)) vv).run P w=.ok () w'∧Step J β h w J' β' (Al [(b,some { x with pure:=false,cells:=cells' })] h) w':=by
    intro c cells' q z hcn hoff hcl hget'
    obtain⟨I,O,hO⟩:=OnlyBlk.setCells (k:=kk) vv.cells.toList (o+off) w cs l
    have B:=Step.set (x':={ x with pure:=false,cells:=cells' }) S hb hd hs hβ O hd hs rfl hcl (by
     refine⟨fun U=>by simp at U,fun _ j y d=>?_⟩
     simp only[hget'] at d
     split at d
     ·rename_i hj'
      obtain⟨u,T,hr,ho⟩:=q _ _ d
      refine⟨u,?_,hr,ho⟩
      show I[o+j]?=some u
      rw[hO,if_pos (by omega),←T];congr 1;omega
     ·rename_i hj'
      obtain⟨u,T,hr⟩:=hcr.2 V j y d
      refine⟨u,?_,hr⟩
      show I[o+j]?=some u
      rw[hO,if_neg (by omega)];exact T)
    refine⟨J,β,_,VD l hf.1 (by rw[hn,←hcn,z]) (by omega) (fun u T=>?_),B D⟩
    obtain⟨j,d,rfl⟩:=A1t T
    obtain⟨u',hu',_,ho⟩:=q j c[j] (A1g (by omega))
    rw[A1g d] at hu';simp only[A3g] at hu';rw[hu'];exact ho
   simp only[cond_false] at h3
   split at h3
   ·rename_i c
    obtain⟨q,h5⟩:=uc h3
    simp at q
    obtain⟨F,G,X⟩:=q
    rw[Rep] at hv
    obtain⟨us,rfl,f⟩:=hv
    rw[Cv] at f
    obtain⟨J',β',w',g1,g2⟩:=go c (Du x.cells off c) (fun j y d=>by
      have Y:j<us.length:=by rw[f.1];exact(A1s.1 d).1
      refine⟨us[j],by simp[Value.cells,A1g Y],f.2 j y _ d (A1g Y),Q8 (DJ F j y d) (f.2 j y _ d (A1g Y))⟩)
     (by simp[Value.cells,f.1]) G (by omega) (Sm (by omega)) (EX (by omega))
    exact⟨_,_,h5,J',β',w',g1,g2,rfl⟩
   ·rename_i c org
    obtain⟨q,h5⟩:=uc h3
    simp at q
    obtain⟨rfl,G,X⟩:=q
    rw[Rep] at hv
    obtain⟨us,rfl,f,hrc⟩:=hv
    obtain⟨I,O,hO⟩:=OnlyBlk.setCells (k:=kk) us (o+0) w cs l
    have B:=Step.set (x':={ x with pure:=true,taint:=org,cells:=c }) S hb hd hs hβ O hd hs rfl (by simp;omega) (by
     refine⟨fun _=>?_,fun U=>by simp at U⟩
     rw[Cb]
     intro j y d
     obtain⟨u,T,hr⟩:=hrc.at d
     have Y:j<us.length:=by rw[f];exact(A1s.1 d).1
     refine⟨u,?_,hr⟩
     show I[o+(0+j)]?=some u
     rw[hO,if_pos (by omega),←T];congr 1;omega)
    exact⟨_,_,h5,J,β,_,VD (vc:=.agg ⟨us⟩) l hf.1 (by simp[Value.cells];rw[f,G];exact hn) (by simp[Value.cells];omega) (by simpa[Value.cells] using RepCs.one hrc f),B D,rfl⟩
   ·rename_i hna
    obtain⟨q,h5⟩:=uc h3
    simp at q
    obtain⟨F,G,X⟩:=q
    have ho:=Q8 F hv
    have C:vv.cells=#[vv]:=by cases vv<;>simp_all[Value.cells,Value.oneCell']
    obtain⟨J',β',w',g1,g2⟩:=go [v] (x.cells.set off v) (fun j y d=>by
      cases j with
      | zero=>simp at d;subst d;exact⟨vv,by simp[C],hv,ho⟩
      | succ j=>simp at d) (by simp[C]) (by simp;omega) (by simp;omega) (by simp) (fun j=>by
      have:=O' (c:=x.cells) (vs:=[v]) (off:=off) (by simp;omega) j
      simpa[setCells] using this)
    exact⟨_,_,h5,J',β',w',g1,g2,rfl⟩
 ·simp at U
end
end Gx
namespace Gx
open Go
section
variable {R:Type} {r:R} {P:Program} {J J':Bool→Nat→Prop} {β:Cu} {h:A1} {w w':World} {g:Bk}
theorem wU {v v':AV} {ups:Ez} {org:Bool} (d:dG g v=some (v',ups,org)) (b:Nat) (k:Bg ups b=true):∃ x,g b=some x:=by
 unfold dG at d
 split at d
 ·rename_i l off n
  obtain⟨x,hx,s⟩:=ub d
  obtain⟨t,q⟩:=uc s
  simp at q
  obtain⟨rfl,rfl,rfl⟩:=q
  unfold Hm at hx
  obtain⟨x0,f,hx⟩:=ub hx
  have:l=b:=by
   cases e:beq l b with
   | true=>exact A1n e
   | false=>simp[Bg,e] at k
  subst this;exact⟨x0,f⟩
 all_goals first
  | (simp at d;done)
  | (simp at d;obtain⟨rfl,rfl,rfl⟩:=d;simp[Bg] at k)
theorem Jq:∀ (a b:Ez) (c:Nat),Bg (a++b) c=(Bg a c||Bg b c)
 | [],_,_=>by simp[Bg]
 | (i,_)::r,b,c=>by
  rw[A1o,Bg,Bg,Jq r b c]
  cases beq i c<;>simp
theorem EY:∀ {c k:LA} {ups:Ez} {org:Bool},ER g c=some (k,ups,org)→∀ b,Bg ups b=true→∃ x,g b=some x
 | [],k,ups,org,d,b,f=>by simp[ER] at d;obtain⟨rfl,rfl,rfl⟩:=d;simp[Bg] at f
 | v::r,k,ups,org,d,b,f=>by
  rw[ER] at d
  obtain⟨⟨v1,u1,o1⟩,q,s⟩:=ub d
  obtain⟨⟨t,u2,o2⟩,hq,l⟩:=ub s
  simp at l
  obtain⟨rfl,rfl,rfl⟩:=l
  rw[Jq] at f
  cases n:Bg u1 b with
  | true=>exact wU q b n
  | false=>rw[n] at f;exact EY hq b (by simpa using f)
theorem u5 {v:AV} {k:LA} {ups:Ez} {org:Bool} (d:EF g v=some (k,ups,org)) (b:Nat) (f:Bg ups b=true):∃ x,g b=some x:=by
 unfold EF at d
 split at d
 ·simp at d;obtain⟨rfl,rfl,rfl⟩:=d;simp[Bg] at f
 ·exact EY d b f
 ·exact EY d b f
theorem Air {ups:Ez} {d:Nat} (f:Looks g h) (k:∀ b,Bg ups b=true→∃ x,g b=some x) (hn:Ak h (nid d)=none):Ak (Al ups h) (nid d)=none:=by
 rw[Cy]
 ·exact hn
 ·cases l:Bg ups (nid d) with
  | false=>rfl
  | true =>
   obtain⟨x,hx⟩:=k _ l
   rw[f _ _ hx] at hn;cases hn
def OpDone (J:Bool→Nat→Prop) (β:Cu) (h:A1) (w:World) (ups:Ez) (val:AV) (vc:Value) (w':World):Prop :=
 ∃ J' β',Step J β h w J' β' (Al ups h) w'∧Rep J' β' (Al ups h) w' val vc
def UpsFree (d:Nat) (h:A1) (ups:Ez):Prop:=∀ b,Bg ups b=true→MC d b=true→Ak h b=none
theorem UpsFree.nid {d:Nat} {h:A1} {ups:Ez} (f:UpsFree d h ups) (hi:Bg ups (nid d)=true):Ak h (nid d)=none:=f _ hi (by
 have k:ble (Gx.nid d) (Gx.nid d)=true:=by simp
 have l:Nat.blt (Gx.nid d) (Gx.nid d+16)=true:=by simp
 rw[MC,k,l];rfl)
theorem ZI {d:Nat} {x:Blk} {cs:Array Value} {ty:TypeId} (S:SimH J β h w) (hn:Ak h (nid d)=none) (l:x.dead=false) (hs:x.sealed=false) (f:x.cells.length≤cs.size) (n:CellsRep J β h w x (fun j=>cs[j]?)) (k:x.mp=false:=by rfl) (hty:TyOk x.ty ty 0 cs.size:=by exact TyOk.none) :
  OpDone J β h w [(nid d,some x)] (.optr (nid d) 0) (.pointer (some ⟨w.heap.size,0,none⟩)) (w.alloc (.cells cs ty)):=by
 have A:=Step.new (ty:=ty) (fr:=(0,0)) S hn l hs ⟨.inl rfl,hty⟩ f n k
 refine⟨_,_,A,?_⟩
 rw[Rep]
 exact⟨x,w.heap.size,0,⟨by simp[Al,Af],k⟩,rfl,.inr (by simp)⟩
theorem OpDone.after {ups ups':Ez} {val:AV} {vc:Value} {J1:Bool→Nat→Prop} {β1:Cu} {d:World} (A:Step J β h w J1 β1 (Al ups h) d) (B:OpDone J1 β1 (Al ups h) d ups' val vc w')
  (hs:∀ k,Be w k≤Be w' k):OpDone J β h w (ups++ups') val vc w':=by
 obtain⟨J2,β2,B1,B2⟩:=B
 exact⟨J2,β2,by rw[Cx];exact A.trans B1 (fun _ k _ _=>hs k),by rw[Cx];exact B2⟩
theorem Tx (w:World) (o:Obj):∀ k,Be w k≤Be (w.alloc o) k:=fun k=>by
 by_cases d:k<w.heap.size
 ·simp[Be,Ea w _ d]
 ·simp[Be,A2x (A4b d)]
theorem PA {t:TypeId} {vc:Value}:(Instr.box t vc).run P w=.ok (.pointer (some ⟨w.heap.size,0,none⟩)) (w.alloc (.cells vc.cells t)):=by
 simp[Instr.box,newVar,newRow]
theorem mq {c:LA} {org:Bool} {cs:List Value} (C:RepCs (J org) w c (fun j=>cs[j]?) 0):∀ {L:List (Nat×TypeId)} {f:LA} {k:LA→O R},gP P c org L f k=some r →
  (∀ (j:Nat) x,f[j]?=some x→∃ u,cs[j]?=some u∧Rep J β h w x u)→∃ l:LA,k l=some r∧∀ (j:Nat) x,l[j]?=some x→∃ u,cs[j]?=some u∧Rep J β h w x u
 | [],f,k,q,s=>⟨f,q,s⟩
 | (off,t)::L,f,k,q,s=>by
  rw[gP] at q
  obtain⟨y,G⟩:=uc q
  simp at y
  obtain⟨v,I,M⟩:=Z2 (β:=β) (h:=h) G (C.drop off)
  refine mq C I (fun j x n=>?_)
  rw[A2j] at n
  split at n
  ·exact s j x n
  ·have z:j=f.length:=by
    have:=(A1s.1 n).1
    simp at this;omega
   subst z
   simp at n;subst n
   rcases M with⟨d,D,S,u,F,T⟩ | ⟨d,D,S,_⟩
   ·refine⟨u,?_,T⟩
    rw[y.1] at F;simpa using F
   ·exfalso
    have A:=y.2
    unfold Am9 at A
    rw[D] at A
    split at A<;>simp_all[TypeDesc.isRow]
theorem yL {co:Bool} {t:TypeId} {v:AV} {vv:Value} {k:AV→O R} (f:kH P co t v k=some r) (n:Rep J β h w v vv):∃ v',k v'=some r∧Rep J β h w v' vv:=by
 unfold kH at f
 split at f
 ·rename_i c org
  rw[Rep] at n
  obtain⟨cs,rfl,F,q⟩:=n
  obtain⟨l,s,y⟩:=mq (β:=β) (h:=h) q f (fun j x z=>by simp at z)
  obtain⟨A,C⟩:=uc s
  simp at A
  refine⟨_,C,?_⟩
  rw[Rep]
  refine⟨cs,rfl,Cv.2 ⟨by omega,fun j x u hx D=>?_⟩⟩
  obtain⟨G,d,hr⟩:=y j x hx
  rw[D] at d;simp at d;subst d;exact hr
 ·exact⟨_,f,n⟩
theorem Aki {t q m:Nat} (h:xm P t=some (q,m)):t=q∧Bv P t=some m:=by
 have key:∀ {o:Option Nat},o=Bv P t→(o.map fun n=>(t,n))=some (q,m)→t=q∧Bv P t=some m:=by
  intro o d h
  cases o with
  | none=>simp at h
  | some n=>simp at h;exact⟨h.1,by rw[←d,h.2]⟩
 unfold xm at h
 split at h
 ·obtain⟨f,_,h⟩:=ub h
  split at h
  ·obtain⟨_,h⟩:=uc h;exact key rfl h
  ·obtain⟨g,_,h⟩:=ub h
   split at h
   ·obtain⟨_,h⟩:=uc h;exact key rfl h
   ·cases h
  ·cases h
 ·cases h
theorem qw {d:Nat} {t:TypeId} {v:AV} {vv:Value} {k:AV→Ez→O R} (S:SimH J β h w) (M:Looks g h) (n:Aav P g d t v k=some r) (C:Rep J β h w v vv) :
  ∃ val ups,k val ups=some r∧(UpsFree d h ups→∃ vc w',(Instr.box t vv).run P w=.ok vc w'∧OpDone J β h w ups val vc w'):=by
 unfold Aav at n
 split at n
 ·rename_i c org
  refine⟨_,_,n,fun hn=>⟨_,_,PA,?_⟩⟩
  replace hn:=hn.nid (by simp[Uz,Bg])
  rw[Rep] at C
  obtain⟨cs,rfl,I,u⟩:=C
  exact ZI S hn rfl rfl (by simp[Value.cells,I]) ⟨fun _=>by simpa[Value.cells] using u,fun x=>by simp at x⟩
 ·rename_i c
  cases x:Aii P t with
  | true =>
   rw[x] at n
   obtain⟨l,n⟩:=uc n
   simp only[A1f] at l
   obtain⟨l,z⟩:=l
   have z:=A1n z
   refine⟨_,_,n,fun hn=>⟨_,_,PA,?_⟩⟩
   replace hn:=hn.nid (by simp[Bg])
   rw[Rep] at C
   obtain⟨cs,rfl,u⟩:=C
   rw[Cv] at u
   have hty:TyOk (xm P t) t 0 (Value.agg ⟨cs⟩).cells.size:=fun q m hq=>by
    obtain⟨e1,T⟩:=Aki hq
    refine⟨e1,rfl,.inr ?_⟩
    rw[T] at z
    simp[Value.cells,u.1];simpa using z
   refine ZI S hn rfl rfl (by simp[Value.cells,u.1]) ⟨fun x=>by simp at x,fun _ j y D=>?_⟩ rfl hty
   have F:j<cs.length:=by rw[u.1];exact(A1s.1 D).1
   exact⟨cs[j],by simp[Value.cells,F],u.2 j y _ D (A1g F),Q8 (DJ l j y D) (u.2 j y _ D (A1g F))⟩
  | false =>
   rw[x] at n
   obtain⟨⟨V,u1,o1⟩,hq,I⟩:=ub n
   refine⟨_,_,I,fun hn=>⟨_,_,PA,?_⟩⟩
   replace hn:=hn.nid (by simp[Jq,Uz,Bg])
   rw[Rep] at C
   obtain⟨cs,rfl,u⟩:=C
   obtain⟨J1,A,hA,G,_⟩:=U1 S M.s hq u
   refine OpDone.after A (ZI A.sim (Air M (EY hq) hn) rfl rfl (by simp[Value.cells,G]) ⟨fun _=>?_,fun x=>by simp at x⟩) (Tx _ _)
   simpa[Value.cells] using hA
 ·rename_i v I u
  obtain⟨l,n⟩:=uc n
  refine⟨_,_,n,fun hn=>⟨_,_,PA,?_⟩⟩
  replace hn:=hn.nid (by simp[Uz,Bg])
  have U:=Q8 l C
  have f:vv.cells=#[vv]:=by cases vv<;>simp_all[Value.cells,Value.oneCell']
  refine ZI S hn rfl rfl (by simp[f]) ⟨fun x=>by simp at x,fun _ j y D=>?_⟩
  cases j with
  | zero=>simp at D;subst D;exact⟨vv,by simp[f],C,U⟩
  | succ j=>simp at D
end
end Gx
namespace Gx
open Go
theorem yM (z:LA):∀ (l j:Nat),j<l*z.length→(F2 l z)[j]?=z[j%z.length]?:=by
 have flat:∀ (l j:Nat),j<l*z.length→((replicate l z).flatten)[j]?=z[j%z.length]?:=by
  intro l
  induction l with
  | zero=>intro j d;simp at d
  | succ l k =>
   intro j d
   rw[A4j,List.flatten_cons,A2j]
   by_cases f:j<z.length
   ·rw[if_pos f,A2b f]
   ·rw[if_neg f,k _ (by rw[A6m] at d;omega)]
    rw[Nat.mod_eq_sub_mod (a:=j) (by omega)]
 intro l j d
 unfold F2
 split
 ·rename_i v
  simp at d
  simp[d,Nat.mod_one]
 ·exact flat l j d
theorem Hn (l:Nat) (z:LA):(F2 l z).length=l*z.length:=by
 unfold F2
 split
 ·simp
 ·simp
section
variable {R:Type} {r:R} {P:Program} {J J':Bool→Nat→Prop} {β:Cu} {h:A1} {w w':World} {g:Bk}
theorem PB {J:Nat→Prop}:∀ {cs:List Value},A2 (N3 cs)=true→∀ (j:Nat) (u:Value),cs[j]?=some u→∃ x,(N3 cs)[j]?=some x∧RepC J w x u
 | [],_,j,u,d=>by simp at d
 | v::r,f,j,u,d=>by
  have key:∃ x,jz v=x∧A2 (N3 r)=true∧RepC J w x v:=by
   rw[N3] at f
   have hr:=OY (J:=fun _=>J) (β:=fun _=>none) (h:=[]) (w:=w) v
   cases hx:jz v<;>rw[hx] at f hr<;>simp[A2] at f<;>refine⟨_,rfl,f,?_⟩<;>(rw[Rep] at hr;rw[RepC];exact hr)
  obtain⟨x,hx,k,hr⟩:=key
  cases j with
  | zero=>simp at d;subst d;exact⟨x,by simp[N3,hx],hr⟩
  | succ j =>
   obtain⟨y,l,n⟩:=PB (J:=J) (cs:=r) k j u (by simpa using d)
   exact⟨y,by simpa[N3] using l,n⟩
theorem Z3:∀ cs:List Value,(N3 cs).length=cs.length
 | []=>rfl
 | v::r=>by simp[N3,Z3 r]
theorem Ty {t:TypeId} {z:LA} (f:dE P t=some z):∃ i v,P.info? t=some i∧i.zero=some v∧z=N3 v.cells.toList∧A2 z=true∧v.cells.size=i.size∧z.length=i.size:=by
 unfold dE at f
 obtain⟨i,hi,l⟩:=ub f
 obtain⟨v,n,q⟩:=ub l
 obtain⟨d,k⟩:=uc q
 simp at k d
 subst k
 exact⟨i,v,hi,n,rfl,d.1,by simpa using d.2,by rw[Z3];simpa using d.2⟩
theorem PC {J:Nat→Prop} {v:Value} (z:A2 (N3 v.cells.toList)=true) (l n:Nat) (C:l*v.cells.size≤n) :
  RepCs J w (F2 l (N3 v.cells.toList)) (fun j=>(madeCells v.cells n)[j]?) 0:=by
 rw[Cb]
 intro j x q
 have f:(N3 v.cells.toList).length=v.cells.size:=by rw[Z3];simp
 have d:j<l*(N3 v.cells.toList).length:=by
  have:=(A1s.1 q).1
  rwa [Hn] at this
 rw[yM _ _ _ d] at q
 rw[f] at q d
 have k:0<v.cells.size:=by
  rcases A2t v.cells.size with s | s
  ·rw[s] at d;simp at d
  ·exact s
 have u:j%v.cells.size<v.cells.size:=A4e _ k
 obtain⟨y,t,A⟩:=PB (w:=w) (J:=J) z (j%v.cells.size) v.cells[j%v.cells.size] (by simp[u])
 rw[q] at t;simp at t;subst t
 refine⟨_,?_,A⟩
 have:j<n:=by omega
 simp[madeCells,this,getElem!_pos,u]
theorem g9 {d n cap sz:Nat} {x:Blk} {cs:Array Value} {ty:TypeId} {fr:Nat×Nat} (S:SimH J β h w) (hn:Ak h (nid d)=none) (v:x.dead=false) (hs:x.sealed=false) (t:x.sz=sz)
  (s:FrTy x.ty ty 0 cs.size fr) (f:x.cells.length=n*sz) (u:cap*sz≤cs.size) (k:n≤cap) (y:CellsRep J β h w x (fun j=>cs[j]?)) (l:x.mp=false:=by rfl) :
  OpDone J β h w [(nid d,some x)] (.own (nid d) 0 n) (.slice (some ⟨w.heap.size,0,none⟩) n cap) (w.alloc (.cells cs ty fr)):=by
 have z:n*sz≤cap*sz:=A16 _ k
 have A:=Step.new (ty:=ty) (fr:=fr) S hn v hs s (by omega) y l
 refine⟨_,_,A,?_⟩
 rw[Rep]
 refine⟨x,_,cap,⟨by simp[Al,Af],l⟩,rfl,k,.inr ⟨w.heap.size,0,rfl,.inr ⟨by simp,?_,by rw[t,f];omega⟩⟩⟩
 have q:(w.alloc (.cells cs ty fr)).heap[w.heap.size]?=some (.cells cs ty fr):=by show(w.heap.push _)[_]?=_;simp
 rw[Fc q,t];omega
theorem Aa3 {d:Nat} {t:TypeId} {l c:AV} {vl vc:Value} {k:AV→Ez→O R} (S:SimH J β h w) (n:wI P d t l c k=some r) (y:Rep J β h w l vl) (A:Rep J β h w c vc) :
  ∃ val ups,k val ups=some r∧(UpsFree d h ups→∃ u w',(Instr.makeSlice t vl vc).run P w=.ok u w'∧OpDone J β h w ups val u w'):=by
 unfold wI at n
 split at n
 ·rename_i D l c F
  obtain⟨sz,hs,G⟩:=ub n
  obtain⟨by_,C,I⟩:=ub G
  obtain⟨z,M,T⟩:=ub I
  obtain⟨hq,U⟩:=uc T
  simp at hq
  obtain⟨V,X,q3,q4⟩:=hq
  rw[Rep] at y A;subst y A
  obtain⟨i,v,hi,Y,rfl,q,e1,e2⟩:=Ty M
  have f:i.size=sz:=by simp[Bv,hi] at hs;exact hs
  have s:i.bytes=by_:=by simp[xj,hi] at C;exact C
  have x:Bg (Uz d true false sz (F2 l.toNat (N3 v.cells.toList))) (nid d)=true:=by simp[Uz,Bg]
  refine⟨_,_,U,fun hn=>⟨_,_,run_make w t D i v F hi Y _ _ l c V X (by rw[s,Int.mul_comm];omega) (by omega),?_⟩⟩
  refine g9 (sz:=sz) S (hn.nid x) rfl rfl rfl FrTy.un0 ?_ (by rw[size_madeCells,f];exact A1h _) (by omega) ⟨fun _=>?_,fun q=>by simp at q⟩
  ·show(F2 l.toNat (N3 v.cells.toList)).length=_
   rw[Hn,e2,f]
  ·exact PC q _ _ (by rw[e1];exact A16 _ (by omega))
 ·simp at n
theorem Yield.src {sz n:Nat} {tx:TypeId} {vx:Value} {us:List Value} (Y:Yield P w sz vx n us) (d:xq P tx=true) (k:∀ u ∈ us,u.oneCell'=true):Src P sz tx vx n us w:=by
 refine⟨?_,Y.len,?_,?_,Y.length,k⟩
 ·unfold xq at d
  split at d
  ·rename_i e f;exact .inl ⟨e,f⟩
  ·rename_i f;exact .inr f
  ·simp at d
 ·have:=Y.cells w n (fun _=>rfl) (A1h _)
  rwa [←Y.length,A2e] at this
 ·have:=Y.cells w.drew n (fun _=>rfl) (A1h _)
  rwa [←Y.length,A2e] at this
theorem yN {J:Nat→Prop} {a b:LA} {us vs:List Value} (l:RepCs J w a (fun j=>us[j]?) 0) (n:RepCs J w b (fun j=>vs[j]?) 0) (q:a.length=us.length) (tail:List Value) :
  RepCs J w (a++b) (fun j=>(us++vs++tail)[j]?) 0:=by
 rw[Cb]
 intro j x d
 rw[A2j] at d
 simp only[A1w]
 by_cases k:j<a.length
 ·rw[if_pos k] at d
  obtain⟨u,f,hr⟩:=l.at d
  refine⟨u,?_,hr⟩
  rw[A1l,A2j,if_pos (by omega)];exact f
 ·rw[if_neg k] at d
  obtain⟨u,f,hr⟩:=n.at d
  refine⟨u,?_,hr⟩
  have s:j - a.length<vs.length:=(A1s.1 f).1
  rw[A1l,A2j,if_neg (by omega),A2j,if_pos (by omega),←q];exact f
theorem PD (w:World) (k:Nat):Be w.drew k=Be w k:=rfl
theorem qx {d sz n1 n2 cap0:Nat} {t tx ty f:TypeId} {i:TypeInfo} {z vx:Value} {A:Option Addr} {olds news:List Value} {c1 c2:LA} {o:Bool} (S:SimH J β h w) (hn:Ak h (nid d)=none)
  (M:P.underlying t=some (.slice f)) (hi:P.info? f=some i) (T:i.zero=some z) (C:i.size=sz) (D:z.cells.size=sz)
  (l:∀ w':World,(∀ a,w'.cell? a=w.cell? a)→(Builtin.firstCells sz n1 (.slice A n1 cap0)).run P w'=.ok olds.toArray w') (s:olds.length=n1*sz)
  (Y:Yield P w sz vx n2 news) (U:xq P tx=true) (V:∀ u ∈ news,u.oneCell'=true)
  (h1:RepCs (J o) w c1 (fun j=>olds[j]?) 0) (v:c1.length=olds.length) (h2:RepCs (J o) w c2 (fun j=>news[j]?) 0) (F:c2.length=news.length)
  (I:cap0<n1+n2) (hb1:n1+n2≤140737488355328) (G:(n1+n2)*i.bytes≤140737488355328) {X:Option (Nat×Nat)} (hX:∀ q,X=some q→q=(f,0)) :
  ∃ u w',(Builtin.append_ #[t,tx] ty #[.slice A n1 cap0,vx]).run P w=.ok u w' ∧
   OpDone J β h w [(nid d,some { dead:=false,sealed:=false,pure:=true,taint:=o,sz:=sz,cells:=c1++c2,ty:=X })] (.own (nid d) 0 (n1+n2)) u w'∧(∀ k,Be w k≤Be w' k):=by
 subst C
 have run:=run_append_grow_src (P:=P) w t tx ty f i z M hi T A n1 cap0 olds (l w.drew (fun _=>rfl)) vx n2 news (Y.src U V) I (by omega) (growslice_fits I G)
 have y:n1+n2≤grownCap w (n1+n2) cap0 f:=by
  unfold grownCap;simp[Question.cut]
 refine⟨_,_,run,?_,?_⟩
 ·obtain⟨J',β',B1,B2⟩:=g9 (d:=d) (n:=n1+n2) (cap:=grownCap w (n1+n2) cap0 f) (sz:=i.size) (ty:=f) (fr:=(0,0)) (x:={ dead:=false,sealed:=false,pure:=true,taint:=o,sz:=i.size,cells:=c1++c2,ty:=X })
   (cs:=(olds++news).toArray++Builtin.zeroCells z.cells (grownCap w (n1+n2) cap0 f - (n1+n2))) (Step.drew S).sim hn rfl rfl rfl ⟨.inl rfl,fun t m hm=>by have:=hX _ hm;simp at this;exact⟨this.1.symm,rfl,.inl this.2⟩⟩
   (by simp[v,F,s,Y.length,A23]) (by
    simp[Builtin.zeroCells,s,Y.length,D]
    rw[←A23,←A23];exact A16 _ (by omega)) y
   ⟨fun _=>by
    have:=yN h1 h2 v (Builtin.zeroCells z.cells (grownCap w (n1+n2) cap0 f - (n1+n2))).toList
    show RepCs (J o) w.drew (c1++c2) _ 0
    refine RepCs.keep (J:=J o) (w:=w) (w':=w.drew) (fun _ hj=>hj) (fun _ _=>rfl) (fun j=>?_) this
    rw[←A5s]
    simp,fun hp=>by simp at hp⟩
  exact⟨J',β',(Step.drew S).trans B1 (fun _ k _ _=>by rw[←PD];exact Tx _ _ k),B2⟩
 ·intro k;rw[←PD];exact Tx _ _ k
theorem ZJ {J:Bool→Nat→Prop} (f:∀ k,J false k→J true k) (a b:Bool) (k:Nat) (d:J a k):J (a||b) k:=by
 cases a
 ·cases b
  ·exact d
  ·exact f k d
 ·exact d
theorem qy {J:Bool→Nat→Prop} (d:∀ k,J false k→J true k) (a b:Bool) (k:Nat) (f:J b k):J (a||b) k:=by rw[A5j];exact ZJ d b a k f
theorem Aa4 {d sz:Nat} {x:Blk} {A:Option Addr} (S:SimH J β h w) (hn:Ak h (nid d)=none) (k:x.cells=[]) (f:x.mp=false:=by rfl) :
  OpDone J β h w [(nid d,some x)] (.own (nid d) 0 0) (.slice A 0 0) w:=by
 refine⟨_,_,Step.newNone S hn k f,?_⟩
 rw[Rep]
 exact⟨x,A,0,⟨by simp[Al,Af],f⟩,rfl,A1h _,.inl rfl⟩
theorem Aa5 {g:Bk} {d tx:TypeId} {s:AV} {q:Nat×Nat} (h:m_ P g d tx s=some q):q=(d,0):=by
 unfold m_ at h
 split at h
 ·split at h
  ·simp at h;exact h.symm
  ·cases h
 ·obtain⟨x,_,h⟩:=ub h
  obtain⟨y,_,h⟩:=ub h
  obtain⟨_,h⟩:=uc h
  simp at h;exact h.symm
 ·cases h
theorem Ani {g:Bk} {f tx b off n o m:Nat} {ty:TypeId} {y:Blk} (l:Hm g b=some y) (s:TyOk y.ty ty o m):TyOk (m_ P g f tx (.own b off n)) ty (o+off) m:=by
 intro t k h
 have e:=Aa5 h
 simp at e;obtain⟨rfl,rfl⟩:=e
 unfold m_ at h
 simp only[l,A2w] at h
 obtain⟨q,hq,h⟩:=ub h
 obtain⟨d,_⟩:=uc h
 simp only[A1f] at d
 have c1:=A1n d.1
 have c2:=A1n d.2.1
 have c3:=A1n d.2.2
 obtain⟨u,v,_⟩:=s q.1 q.2 hq
 exact⟨by rw[u,c1],by omega,.inl rfl⟩
theorem u6 {d:Nat} {t tx ty:TypeId} {s x:AV} {vs vx:Value} {k:AV→Ez→O R} (S:SimH J β h w) (hl:Looks g h) (hh:ZD P g d t tx s x k=some r) (hs:Rep J β h w s vs) (hx:Rep J β h w x vx) :
  ∃ val ups,k val ups=some r∧(UpsFree d h ups→∃ u w',(Builtin.append_ #[t,tx] ty #[vs,vx]).run P w=.ok u w'∧OpDone J β h w ups val u w'):=by
 unfold ZD at hh
 split at hh
 ·rename_i el hu
  obtain⟨ht,U⟩:=uc hh
  obtain⟨sz,hsz,h1⟩:=ub U
  obtain⟨by_,hby,h2⟩:=ub h1
  obtain⟨zz,hz,h3⟩:=ub h2
  obtain⟨old,l,h4⟩:=ub h3
  obtain⟨new,us,h5,Y,D,hur⟩:=OZ (P:=P) S hl h4 hx
  obtain⟨hq,h6⟩:=uc h5
  simp at hq
  obtain⟨q1,q2⟩:=hq
  obtain⟨i,z,hi,hiz,rfl,hp,e1,e2⟩:=Ty hz
  have f:i.size=sz:=by simp[Bv,hi] at hsz;exact hsz
  have hb':i.bytes=by_:=by simp[xj,hi] at hby;exact hby
  have C:=RepCs.one hur D.symm
  have M:RepCs (J (old.2.2.1||new.2.2)) w new.1 (fun j=>us[j]?) 0:=RepCs.keep (J:=J new.2.2) (w:=w) (qy S.jft _ _) (fun _ _=>rfl) (fun _=>rfl) hur
  refine⟨_,_,h6,fun hn=>?_⟩
  replace hn:=hn.nid (by simp[Jq,Bg])
  have hX:∀ q,m_ P g el tx s=some q→q=(el,0):=fun q=>Aa5
  have empty:∀ (A:Option Addr),vs=.slice A 0 0→old.1=[]→old.2.1=0→old.2.2.2=[] →
    ∃ u w',(Builtin.append_ #[t,tx] ty #[vs,vx]).run P w=.ok u w'∧OpDone J β h w (old.2.2.2++[(nid d,some { dead:=false,sealed:=false,pure:=true,taint:=old.2.2.1||new.2.2,sz,cells:=old.1++new.1,ty:=m_ P g el tx s })]) (.own (nid d) 0 (old.2.1+new.2.1)) u w':=by
   intro A hA o1 o2 o3
   subst hA
   rw[o1,o2,o3]
   rcases A2t new.2.1 with U | U
   ·have hus:us=[]:=by have:=Y.length;rw[U] at this;simpa using this
    subst hus
    have F:=Y.src ht C
    rw[U] at F
    refine⟨_,_,run_append_nothing (P:=P) w t tx ty el i hu hi A 0 0 (A1h _) vx (by rw[f];exact F),?_⟩
    rw[U]
    have hnc:new.1=[]:=by simpa using D
    exact Aa4 (sz:=sz) S hn (by simp[hnc])
   ·obtain⟨u,w',g1,g2,_⟩:=qx (ty:=ty) (c1:=[]) (olds:=[]) (n1:=0) (cap0:=0) (A:=A) S hn hu hi hiz f (by rw[e1,f]) (fun w' _=>by
      cases A with
      | none=>exact run_firstCells_none (P:=P) w' sz 0 0 0
      | some a=>exact run_firstCells_some (P:=P) w' sz 0 a 0 0 [] (by simp) (fun j v T=>by simp at T)) (by simp) Y ht C (by simp[RepCs]) rfl M D (by omega) (by rw[o2] at q1;omega) (by rw[o2,←hb'] at q2;exact q2) hX
    exact⟨u,w',g1,g2⟩
  unfold Aim at l
  split at l
  ·simp at l;subst l
   rw[Rep] at hs
   exact empty none hs rfl rfl rfl
  ·rename_i c n sz' org
   obtain⟨hz0,h7⟩:=uc l
   simp at hz0 h7;subst hz0;subst h7
   rw[Rep,RepC] at hs
   obtain⟨_,A,cap,T,_,hcap,_⟩:=hs
   have:=hcap rfl;subst this
   exact empty A T rfl rfl rfl
  ·rename_i b off n
   obtain⟨y,hy,h7⟩:=ub l
   obtain⟨hc,h8⟩:=uc h7
   simp at hc h8
   obtain⟨c1,c2,c3⟩:=hc
   subst h8;subst c3
   obtain⟨hb,hd⟩:=D3 hl hy
   simp only at *
   rw[Rep] at hs
   obtain⟨y',A,cap,⟨hy1,hmp⟩,rfl,hcap,hr⟩:=hs
   rw[hb] at hy1;simp at hy1;subst hy1
   have kill:=Step.kill (y:={ y with dead:=true,pure:=true,cells:=[] }) S hb rfl
   have hkn:Ak (Gq h b { y with dead:=true,pure:=true,cells:=[] }) (nid d)=none:=by
    rw[Af,if_neg (fun e=>by rw[←e,hn] at hb;cases hb)];exact hn
   have G:Al [(b,none)] h=Gq h b { y with dead:=true,pure:=true,cells:=[] }:=by simp[Al,hb]
   by_cases hc0:cap=0
   ·have hn0:n=0:=by omega
    subst hc0;subst hn0
    have S':=kill.sim
    rcases A2t new.2.1 with U | U
    ·have hus:us=[]:=by have:=Y.length;rw[U] at this;simpa using this
     subst hus
     have F:=Y.src ht C
     rw[U] at F
     refine⟨_,_,run_append_nothing (P:=P) w t tx ty el i hu hi A 0 0 (A1h _) vx (by rw[f];exact F),?_⟩
     rw[U]
     have hnc:new.1=[]:=by simpa using D
     refine OpDone.after (ups:=[(b,none)]) (by rw[G];exact kill) ?_ (fun _=>A1h _)
     rw[G]
     exact Aa4 (sz:=y.sz) S' hkn (by simp[hnc])
    ·obtain⟨u,w',g1,g2,g3⟩:=qx (ty:=ty) (c1:=[]) (olds:=[]) (n1:=0) (cap0:=0) (A:=A) S' hkn hu hi hiz f (by rw[e1,f]) (fun w' _=>by
       cases A with
       | none=>exact run_firstCells_none (P:=P) w' y.sz 0 0 0
       | some a=>exact run_firstCells_some (P:=P) w' y.sz 0 a 0 0 [] (by simp) (fun j v T=>by simp at T)) (by simp) Y ht C (by simp[RepCs]) rfl M D (by omega) (by omega) (by rw[←hb'] at q2;exact q2) hX
     refine⟨u,w',g1,OpDone.after (ups:=[(b,none)]) (by rw[G];exact kill) ?_ g3⟩
     rw[G];simpa[Uz] using g2
   ·rcases hr with hr | ⟨kk,o,rfl,hr⟩
    ·exact absurd hr hc0
    ·rcases hr with hr | ⟨r1,r2,r3⟩
     ·simp[hd] at hr
     ·rcases S.blk b y hb hd hmp with⟨hn',_⟩ | ⟨k',o',cs,ty',fr,hβ',g1,g2,g3,g4,g5,g6⟩
      ·rw[r1] at hn';simp at hn'
      ·rw[r1] at hβ';simp at hβ';obtain⟨rfl,rfl⟩:=hβ'
       have hbs:=Fc g1
       have V:=((g4.1 c1).drop off).take (n*y.sz)
       have X:((y.cells.drop off).take (n*y.sz)).length=n*y.sz:=by simp;omega
       by_cases I:n+new.2.1≤cap
       ·
        have hle:(n+new.2.1)*y.sz≤cap*y.sz:=A16 _ I
        rw[A23] at hle
        have run:=run_append_room_src (P:=P) w t tx ty el i hu hi kk (o+off) n cap vx new.2.1 us (by rw[f];exact Y.src ht C) I (fun j hj=>by
          rw[f,Sk g1];have:=Y.length;simp;omega) (fun j hj=>by
          rw[f];simp only[World.frozen?,g1]
          have h9:=Y.length
          have:=g2.1.at (o+off+n*y.sz+j) (by omega)
          cases fr;simp at this ⊢;omega)
        rw[f] at run
        obtain⟨cs',O,hO⟩:=OnlyBlk.setCells (k:=kk) us (o+off+n*y.sz) w cs g1
        have h9:=Y.length
        have B:=Step.move (y:={ y with dead:=true,pure:=true,cells:=[] }) (o':=o+off) (x':={ dead:=false,sealed:=false,pure:=true,taint:=y.taint||new.2.2,sz:=y.sz,cells:=(y.cells.drop off).take (n*y.sz)++new.1,ty:=m_ P g el tx (.own b off n) }) S hb hd c2 r1 hn rfl O rfl rfl
         (by rw[A09,X,D];omega) ⟨fun _=>by
          show RepCs (J (y.taint||new.2.2)) w ((y.cells.drop off).take (n*y.sz)++new.1) _ 0
          rw[Cb]
          intro j q hj
          rw[A2j,X] at hj
          simp only[A1w]
          by_cases hjn:j<n*y.sz
          ·rw[if_pos hjn] at hj
           obtain⟨v,T,hvr⟩:=V.at hj
           refine⟨v,?_,RepC.keep (J:=J y.taint) (w:=w) (ZJ S.jft _ _) (fun _ _=>rfl) hvr⟩
           rw[hO,if_neg (by omega),A2l];exact T
          ·rw[if_neg hjn] at hj
           obtain⟨v,T,hvr⟩:=M.at hj
           refine⟨v,?_,hvr⟩
           have:j - n*y.sz<us.length:=(A1s.1 T).1
           rw[hO,if_pos (by omega),←T];congr 1;omega,fun hp=>by simp at hp⟩ hmp (hty:=Ani (P:=P) (tx:=tx) (n:=n) hy g2.2)
        refine⟨_,_,run,J,(fun b=>if b=nid d then some (kk,o+off) else β b),?_,?_⟩
        ·rw[Cx,G];exact B
        ·rw[Cx,G,Rep]
         refine⟨_,_,cap,⟨by simp[Uz,Al,Af];rfl,rfl⟩,rfl,I,.inr ⟨kk,o+off,rfl,.inr ⟨by simp,?_,?_⟩⟩⟩
         ·rw[Fc O.new,O.sz];simp;omega
         ·simp only[A09,X,D,h9,A1w];rw[A23];exact A1h _
       ·
        obtain⟨olds,l1,l2,l3⟩:=V.list
        obtain⟨u,w',g1',g2',g3'⟩:=qx (ty:=ty) (c1:=(y.cells.drop off).take (n*y.sz)) (olds:=olds) (n1:=n) (cap0:=cap) (A:=some ⟨kk,o+off,none⟩) kill.sim hkn hu hi hiz f (by rw[e1,f]) (fun w' he =>
          run_firstCells_some (P:=P) w' y.sz n _ n cap olds (by rw[l1,X]) (fun j v T=>by
           rw[he,Addr.add_mid,Sk g1,A2l];exact l2 j v T)) (by rw[l1,X]) Y ht C
          (RepCs.keep (J:=J y.taint) (w:=w) (ZJ S.jft _ _) (fun _ _=>rfl) (fun _=>rfl) l3) l1.symm M D (by omega) (by omega) (by rw[←hb'] at q2;exact q2) hX
        refine⟨u,w',g1',OpDone.after (ups:=[(b,none)]) (by rw[G];exact kill) ?_ g3'⟩
        rw[G];exact g2'
  ·simp at l
 ·simp at hh
end
end Gx
namespace Gx
open Go
section
variable {R:Type} {r:R} {P:Program} {J J':Bool→Nat→Prop} {β:Cu} {h:A1} {w w':World} {g:Bk}
theorem Step.retaint (S:SimH J β h w) {d:Nat} {x:Blk} (hx:Ak h d=some x) (C:x.dead=false) (hs:x.sealed=false) (hp:x.pure=true) (D:x.mp=false) (o:Bool) :
  Step J β h w J β (Gq h d { x with taint:=x.taint||o }) w:=by
 have E:Ext J β h w J β (Gq h d { x with taint:=x.taint||o }) w:=by
  refine⟨fun _ _ v=>v,fun o k v=>rfl,fun b z f=>?_,fun b k o A=>A1h _⟩
  by_cases e:b=d
  ·subst e;rw[hx] at f;simp at f;subst f
   exact⟨{ x with taint:=x.taint||o },⟨by rw[Af,if_pos rfl],rfl⟩,.inr ⟨C,rfl,rfl,fun _=>rfl⟩⟩
  ·refine⟨z,⟨by rw[Af,if_neg e];exact f,rfl⟩,?_⟩
   cases C:z.dead
   ·exact .inr ⟨rfl,rfl,rfl,fun _=>rfl⟩
   ·exact .inl rfl
 refine⟨E,⟨S.jlt,S.jft,S.gl.ext E,fun b z f l F=>?_,fun b z f l F=>by
   rw[Af] at f
   by_cases e:b=d
   ·rw[if_pos e] at f;simp at f;subst f;simp[D] at F
   ·rw[if_neg e] at f
    exact(S.mblk b z f l F).keep rfl (fun k o A=>rfl) (fun _ _ _ _ v=>v),?_⟩,rfl,rfl,rfl,A1h _,fun k hk _=>rfl,?_,fun _ _ v=>.inl v⟩
 ·rw[Af] at f
  by_cases e:b=d
  ·rw[if_pos e] at f;simp at f;subst f;subst e
   rcases S.blk b x hx C D with n | ⟨k,o',q,s,t,n,G,I,M,T,U,h7⟩
   ·exact .inl n
   ·refine .inr ⟨k,o',q,s,t,n,G,I,M,CellsRep.ext E ⟨fun _=>?_,fun V=>?_⟩,fun _=>U hs,fun V=>by simp[hs] at V⟩
    ·exact RepCs.keep (J:=J x.taint) (w:=w) (ZJ S.jft _ _) (fun _ _=>rfl) (fun _=>rfl) (T.1 hp)
    ·simp[hp] at V
  ·rw[if_neg e] at f
   rcases S.blk b z f l F with n | ⟨k,o,q,s,t,n,G,I,M,T,U,h7⟩
   ·exact .inl n
   ·exact .inr ⟨k,o,q,s,t,n,G,I,M,T.ext E,U,h7⟩
 ·intro b b' z z' k oo X f Y hd1 hd2 u A hβ'
  have get:∀ {c y},Ak (Gq h d { x with taint:=x.taint||o }) c=some y→y.dead=false→∃ y',Ak h c=some y'∧y'.dead=false∧(y.sealed=false→y'.sealed=false):=by
   intro c y hc hyd
   rw[Af] at hc
   by_cases e:c=d
   ·subst e;exact⟨x,hx,C,fun _=>hs⟩
   ·rw[if_neg e] at hc;exact⟨y,hc,hyd,id⟩
  obtain⟨y1,g1,g2,g3⟩:=get f hd1
  obtain⟨y2,g4,g5,g6⟩:=get Y hd2
  exact S.sep b b' y1 y2 k oo X g1 g4 g2 g5 (g3 u) A hβ'
 ·rintro k ⟨b,z,o,f,l,u,A⟩ hk
  rw[Af] at f
  by_cases e:b=d
  ·subst e;exact⟨b,x,o,hx,C,hs,A⟩
  ·rw[if_neg e] at f
   exact⟨b,z,o,f,l,u,A⟩
theorem qz (c:LA) (off:Nat):Du c off []=c:=by simp[Du]
theorem mt {kd:IntKind}:∀ (n:Nat) (c:LA) (k:LA→O R),eo kd n c k=some r→∃ vs,k vs=some r∧vs.length=n∧∀ (j:Nat) (v:AV),vs[j]?=some v→(∃ i,v=.int kd i)∧c[j]?=some v
 | 0,_,k,h=>⟨[],h,rfl,by simp⟩
 | n+1,c,k,h=>by
  rw[eo] at h
  obtain⟨x,hx,h⟩:=ub h
  obtain⟨i,hi,h⟩:=ub h
  obtain⟨vs,q,s,t⟩:=mt n _ _ h
  refine⟨_,q,by simp[s],fun j v d=>?_⟩
  cases j with
  | zero =>
   simp at d;subst d
   refine⟨⟨_,rfl⟩,?_⟩
   rw[←A19,hx]
   unfold dF at hi
   split at hi
   ·obtain⟨f,hn⟩:=uc hi
    simp[P2] at f hn;subst f;subst hn;rfl
   ·cases hi
  | succ j =>
   simp at d
   obtain⟨u,l⟩:=t j v d
   refine⟨u,?_⟩
   rw[A27] at l
   rw[←l,A5l]
theorem yO {t tx ty V sz b off n:TypeId} {y:Blk} {q:LA×Nat×Bool} {us:List Value} {vs vx:Value} {k:AV→Ez→O R} (S:SimH J β h w) (X:P.underlying t=some (.slice V)) (hsz:Bv P V=some sz) (hb:Ak h b=some y) (T:y.dead=false)
  (U:kI P V sz b off n y q k=some r) (hs:Rep J β h w (.own b off n) vs) (Y:Yield P w sz vx q.2.1 us) (hul:q.1.length=us.length) (C:RepCs (J q.2.2) w q.1 (fun j=>us[j]?) 0) :
  ∃ val ups,k val ups=some r∧∃ u w',(Builtin.copy_ #[t,tx] ty #[vs,vx]).run P w=.ok u w'∧OpDone J β h w ups val u w':=by
 unfold kI at U
 split at U
 ·rename_i kd hk
  obtain⟨hc,h1⟩:=uc U
  simp at hc
  obtain⟨c0,c1,c2,c3,c4,c5,c6⟩:=hc
  subst c0
  obtain⟨ws,h2,hw,hws⟩:=mt _ _ _ h1
  have D:=RepCs.one C hul.symm
  refine⟨_,_,h2,?_⟩
  rw[Rep] at hs
  obtain⟨y',A,cap,⟨f,F⟩,rfl,hcap,hr⟩:=hs
  rw[hb] at f;simp at f;subst f
  have hm:Nat.min q.2.1 n=n:=Nat.min_eq_right c5
  have d:=Y.cells w n (fun _=>rfl) c5
  have G:=Y.len w
  rcases hr with hr | ⟨kk,o,rfl,hr⟩
  ·omega
  ·rcases hr with hr | ⟨r1,r2,r3⟩
   ·simp[T] at hr
   ·rcases S.blk b y hb T F with⟨I,_⟩ | ⟨k',o',cs,ty',fr,l,g1,g2,g3,g4,g5,g6⟩
    ·rw[r1] at I;simp at I
    ·rw[r1] at l;simp at l;obtain⟨rfl,rfl⟩:=l
     have hul':=Y.length
     have htl:(us.take (n*1)).length=n:=by rw[A2a];omega
     obtain⟨M,O,hO⟩:=OnlyBlk.setCells (k:=kk) (us.take (n*1)) (o+off) w cs g1
     have s:=run_storeCells_cells (P:=P) kk (o+off) (us.take (n*1)) 0 w (fun j z=>by
       rw[A20,Sk g1];simp;omega)
      (fun j z=>by
       rw[A20];simp only[World.frozen?,g1]
       have:=g2.1.at (o+off+j) (by omega)
       cases fr;simp at this ⊢;omega) (fun u X=>D u (A4h X))
     simp only[A20] at s
     have B:=Step.set (x':={ y with cells:=Du y.cells off ws }) S hb T c3 r1 O T c3 rfl (Sm (by omega)) ⟨fun hp=>by simp[c4] at hp,fun _=>by
      intro j x z
      rw[EX (by omega),hw] at z
      split at z
      ·obtain⟨⟨i,rfl⟩,h5⟩:=hws _ _ z
       obtain⟨u,v,hr⟩:=C.at h5
       refine⟨u,?_,?_,?_⟩
       ·show M[o+j]?=some u
        rw[hO,if_pos (by omega),A28,if_pos (by omega),←v];congr 1;omega
       ·rw[RepC] at hr;rw[Rep];exact hr
       ·rw[RepC] at hr;rw[hr];rfl
      ·obtain⟨u,v,hr⟩:=g4.2 c4 j x z
       refine⟨u,?_,hr⟩
       show M[o+j]?=some u
       rw[hO,if_neg (by omega)];exact v⟩ F
     refine⟨.int .i64 (n:Nat),_,?_,J,β,B,by rw[Rep]⟩
     simp only[A1x] at s
     simp[Builtin.copy_,run_underlying X,G,C1 hsz,hm,d,goInt,s]
 ·cases U
theorem Aa6 {t tx ty:TypeId} {s x:AV} {vs vx:Value} {k:AV→Ez→O R} (S:SimH J β h w) (hl:Looks g h) (hh:wJ P g t s x k=some r) (hs:Rep J β h w s vs) (hx:Rep J β h w x vx) :
  ∃ val ups,k val ups=some r∧∃ u w',(Builtin.copy_ #[t,tx] ty #[vs,vx]).run P w=.ok u w'∧OpDone J β h w ups val u w':=by
 unfold wJ at hh
 split at hh
 ·rename_i el b off n z
  obtain⟨sz,l,h1⟩:=ub hh
  obtain⟨y,hy,h2⟩:=ub h1
  obtain⟨new,us,h3,Y,C,v⟩:=OZ (P:=P) S hl h2 hx
  obtain⟨hb,V⟩:=D3 hl hy
  cases D:(y.pure&&(!y.sealed&&beq sz y.sz)) with
  | false=>rw[D] at h3;exact yO S z l hb V h3 hs Y C v
  | true =>
  rw[D] at h3
  have h4:=h3
  simp only[cond_true] at h4
  have hc:=D
  simp at hc
  obtain⟨c1,c2,c3⟩:=hc
  subst c3
  have hone:=RepCs.one v C.symm
  refine⟨_,_,h4,?_⟩
  rw[Rep] at hs
  obtain⟨y',A,cap,⟨F,G⟩,rfl,hcap,hr⟩:=hs
  rw[hb] at F;simp at F;subst F
  have hm:Nat.min new.2.1 n≤new.2.1:=Nat.min_le_left _ _
  have d:=Y.cells w (Nat.min new.2.1 n) (fun _=>rfl) hm
  have f:=Y.len w
  by_cases I:Nat.min new.2.1 n*y.sz=0
  ·
   refine⟨.int .i64 (Nat.min new.2.1 n:Nat),w,?_,J,β,?_,by rw[Rep]⟩
   ·have e:us.take (Nat.min new.2.1 n*y.sz)=[]:=by rw[I];rfl
    rw[e] at d
    cases A with
    | none=>simp[Builtin.copy_,run_underlying z,f,C1 l,d,goInt]
    | some a=>simp[Builtin.copy_,run_underlying z,f,C1 l,d,goInt,storeCells]
   ·have e:(new.1.take (min new.2.1 n*y.sz))=[]:=by
     have:min new.2.1 n*y.sz=0:=I
     rw[this];rfl
    have T:=Step.retaint S hb V c2 c1 G new.2.2
    simp only[Al]
    rw[e,qz]
    exact T
  ·rcases hr with hr | ⟨kk,o,rfl,hr⟩
   ·have:n=0:=by omega
    subst this;simp at I
   ·rcases hr with hr | ⟨r1,r2,r3⟩
    ·simp[V] at hr
    ·rcases S.blk b y hb V G with⟨hn',_⟩ | ⟨k',o',cs,ty',fr,M,g1,g2,g3,g4,g5,g6⟩
     ·rw[r1] at hn';simp at hn'
     ·rw[r1] at M;simp at M;obtain⟨rfl,rfl⟩:=M
      have hle1:Nat.min new.2.1 n*y.sz≤new.2.1*y.sz:=A16 _ hm
      have hle2:Nat.min new.2.1 n*y.sz≤n*y.sz:=A16 _ (Nat.min_le_right _ _)
      have hul':=Y.length
      have htl:(us.take (Nat.min new.2.1 n*y.sz)).length=Nat.min new.2.1 n*y.sz:=by rw[A2a];omega
      have htl':(new.1.take (Nat.min new.2.1 n*y.sz)).length=Nat.min new.2.1 n*y.sz:=by rw[A2a];omega
      obtain⟨cs',O,hO⟩:=OnlyBlk.setCells (k:=kk) (us.take (Nat.min new.2.1 n*y.sz)) (o+off) w cs g1
      have hst:=run_storeCells_cells (P:=P) kk (o+off) (us.take (Nat.min new.2.1 n*y.sz)) 0 w (fun j X=>by
        rw[A20,Sk g1];simp;omega)
       (fun j X=>by
        rw[A20];simp only[World.frozen?,g1]
        have:=g2.1.at (o+off+j) (by omega)
        cases fr;simp at this ⊢;omega) (fun u z=>hone u (A4h z))
      simp only[A20] at hst
      have B:=Step.set (x':={ y with cells:=Du y.cells off (new.1.take (Nat.min new.2.1 n*y.sz)),taint:=y.taint||new.2.2 }) S hb V c2 r1 O V c2 rfl (Sm (by omega)) ⟨fun _=>by
       show RepCs (J (y.taint||new.2.2)) w (Du y.cells off (new.1.take (Nat.min new.2.1 n*y.sz))) _ 0
       rw[Cb]
       intro j q X
       rw[EX (by omega),htl'] at X
       simp only[A1w]
       split at X
       ·obtain⟨u,U,hr⟩:=(v.take _).at X
        refine⟨u,?_,RepC.keep (J:=J new.2.2) (w:=w) (qy S.jft _ _) (fun _ _=>rfl) hr⟩
        rw[hO,if_pos (by omega),A28,if_pos (by omega),←U];congr 1;omega
       ·obtain⟨u,U,hr⟩:=(g4.1 c1).at X
        refine⟨u,?_,RepC.keep (J:=J y.taint) (w:=w) (ZJ S.jft _ _) (fun _ _=>rfl) hr⟩
        rw[hO,if_neg (by omega)];exact U,fun hp=>by simp[c1] at hp⟩ G
      refine⟨.int .i64 (Nat.min new.2.1 n:Nat),_,?_,J,β,B,by rw[Rep]⟩
      simp[Builtin.copy_,run_underlying z,f,C1 l,d,goInt,hst]
 ·rename_i el z
  obtain⟨sz,l,h1⟩:=ub hh
  obtain⟨new,us,h2,Y,C,v⟩:=OZ (P:=P) S hl h1 hx
  rw[Rep] at hs;subst hs
  have f:=Y.len w
  have d:=Y.cells w 0 (fun _=>rfl) (A4m _)
  simp at d
  refine⟨_,_,h2,.int .i64 0,w,?_,J,β,Step.refl S,by rw[Rep]⟩
  have hm:∀ m:Nat,Nat.min m 0=0:=fun m=>Nat.min_eq_right (A4m _)
  simp[Builtin.copy_,run_underlying z,f,C1 l,hm,d,goInt]
 ·simp at hh
theorem yP {t ty:TypeId} {s:AV} {vs:Value} {k:AV→Ez→O R} (S:SimH J β h w) (hl:Looks g h) (hh:kJ P g t s k=some r) (hs:Rep J β h w s vs) :
  ∃ val ups,k val ups=some r∧∃ u w',(Builtin.clear_ #[t] ty #[vs]).run P w=.ok u w'∧OpDone J β h w ups val u w':=by
 unfold kJ at hh
 split at hh
 ·rename_i el b off n G
  obtain⟨sz,M,h1⟩:=ub hh
  obtain⟨z,hz,h2⟩:=ub h1
  obtain⟨y,hy,h3⟩:=ub h2
  obtain⟨hc,h4⟩:=uc h3
  simp at hc
  obtain⟨c1,c2,c3⟩:=hc
  subst c3
  obtain⟨hb,U⟩:=D3 hl hy
  obtain⟨i,v,hi,hv,rfl,hp,e1,e2⟩:=Ty hz
  have V:i.size=y.sz:=by simp[Bv,hi] at M;exact M
  have X:∀ w,(zeroValue el).run P w=.ok v w:=fun w=>by simp[zeroValue,typeInfo,hi,hv]
  have d:=Hn n (N3 v.cells.toList)
  rw[e2,V] at d
  have Y:Builtin.zeroCells v.cells n=madeCells v.cells (n*v.cells.size):=rfl
  have hul:(Builtin.zeroCells v.cells n).toList.length=n*y.sz:=by rw[Y,A36,size_madeCells,e1,V]
  have hur:RepCs (J y.taint) w (F2 n (N3 v.cells.toList)) (fun j=>(Builtin.zeroCells v.cells n).toList[j]?) 0:=by
   have:=PC (J:=J y.taint) (w:=w) hp n (n*v.cells.size) (A1h _)
   rw[←Y] at this
   simpa using this
  have hone:=RepCs.one hur (by rw[hul,d])
  refine⟨_,_,h4,?_⟩
  rw[Rep] at hs
  obtain⟨y',A,cap,⟨l,C⟩,rfl,hcap,hr⟩:=hs
  rw[hb] at l;simp at l;subst l
  by_cases f:n*y.sz=0
  ·have e0:(Builtin.zeroCells v.cells n).toList=[]:=A3u (by rw[hul,f])
   refine⟨.tuple #[],w,?_,J,β,?_,by rw[Rep];exact⟨[],rfl,by rw[Reps]⟩⟩
   ·cases n with
    | zero=>cases A<;>simp[Builtin.clear_,run_underlying G]
    | succ n =>
     cases A with
     | none=>simp[Builtin.clear_,run_underlying G]
     | some a=>simp[Builtin.clear_,run_underlying G,X,e0,storeCells]
   ·have e:F2 n (N3 v.cells.toList)=[]:=A3u (by rw[d,f])
    have T:=Step.retaint S hb U c2 c1 C false
    simp only[Al]
    rw[e,qz]
    simpa using T
  ·rcases hr with hr | ⟨kk,o,rfl,hr⟩
   ·have:n=0:=by omega
    subst this;simp at f
   ·rcases hr with hr | ⟨r1,r2,r3⟩
    ·simp[U] at hr
    ·rcases S.blk b y hb U C with⟨hn',_⟩ | ⟨k',o',cs,ty',fr,D,g1,g2,g3,g4,g5,g6⟩
     ·rw[r1] at hn';simp at hn'
     ·rw[r1] at D;simp at D;obtain⟨rfl,rfl⟩:=D
      obtain⟨cs',O,hO⟩:=OnlyBlk.setCells (k:=kk) (Builtin.zeroCells v.cells n).toList (o+off) w cs g1
      have hst:=run_storeCells_cells (P:=P) kk (o+off) (Builtin.zeroCells v.cells n).toList 0 w (fun j I=>by
        rw[A20,Sk g1];simp;omega)
       (fun j I=>by
        rw[A20];simp only[World.frozen?,g1]
        have:=g2.1.at (o+off+j) (by omega)
        cases fr;simp at this ⊢;omega) (fun u G=>hone u G)
      simp only[A20] at hst
      have B:=Step.set (x':={ y with cells:=Du y.cells off (F2 n (N3 v.cells.toList)) }) S hb U c2 r1 O U c2 rfl (Sm (by omega)) ⟨fun _=>by
       show RepCs (J y.taint) w (Du y.cells off (F2 n (N3 v.cells.toList))) _ 0
       rw[Cb]
       intro j q I
       rw[EX (by omega),d] at I
       simp only[A1w]
       split at I
       ·obtain⟨u,F,hr⟩:=hur.at I
        refine⟨u,?_,hr⟩
        rw[hO,if_pos (by omega),←F];congr 1;omega
       ·obtain⟨u,F,hr⟩:=(g4.1 c1).at I
        refine⟨u,?_,hr⟩
        rw[hO,if_neg (by omega)];exact F,fun hp=>by simp[c1] at hp⟩ C
      refine⟨.tuple #[],_,?_,J,β,B,by rw[Rep];exact⟨[],rfl,by rw[Reps]⟩⟩
      cases n with
      | zero=>simp at f
      | succ n=>simp[Builtin.clear_,run_underlying G,X,hst]
 ·simp at hh
theorem dM:∀ {c:LA} {s:Lu} {us:List Value} {J:Nat→Prop},gM c=some s→RepCs J w c (fun j=>us[j]?) 0→c.length=us.length →
  ∃ ns:List Int,us=ns.map (Value.int .u8)∧s=ns.map (fun n=>UInt8.ofNat n.toNat)
 | [],s,us,J,q,z,A=>by
  simp[gM] at q;subst q
  have:us=[]:=by cases us<;>simp_all
  exact⟨[],by simp[this],rfl⟩
 | x::r,s,us,J,q,z,A=>by
  rw[gM] at q
  obtain⟨b,d,I⟩:=ub q
  obtain⟨l,C,F⟩:=ub I
  simp at F;subst F
  cases us with
  | nil=>simp at A
  | cons u us =>
   rw[RepCs] at z
   obtain⟨⟨U,t,hr⟩,f⟩:=z
   simp at t;subst t
   unfold Am5 at d
   split at d
   ·rename_i n
    simp at d;subst d
    rw[RepC] at hr;subst hr
    have k:RepCs J w r (fun j=>us[j]?) 0:=by
     rw[Cb] at f ⊢
     intro j y M
     obtain⟨v,G,D⟩:=f j y M
     refine⟨v,?_,D⟩
     rw[show 0+1+j=j+1 by omega] at G
     simpa using G
    obtain⟨ns,S,T⟩:=dM C k (by simpa using A)
    exact⟨n::ns,by simp[S],by simp[T]⟩
   ·simp at d
theorem Anj:∀ (ns:List Int) (s:Lu),(ns.foldl (fun r n=>r.push (UInt8.ofNat n.toNat)) (⟨⟨s⟩⟩:ByteArray))=⟨⟨s++ns.map fun n=>UInt8.ofNat n.toNat⟩⟩
 | [],s=>by simp
 | n::r,s=>by
  rw[A3x]
  have:(⟨⟨s⟩⟩:ByteArray).push (UInt8.ofNat n.toNat)=⟨⟨s++[UInt8.ofNat n.toNat]⟩⟩:=by
   simp[ByteArray.push]
  rw[this,Anj r];simp
theorem Aa7 {d:Nat} {src dst:TypeId} {x:AV} {vx:Value} {k:AV→Ez→O R} (S:SimH J β h w) (hl:Looks g h) (f:wK P g d src dst x k=some r) (hx:Rep J β h w x vx) :
  ∃ val ups,k val ups=some r∧(UpsFree d h ups→∃ u w',(convert src dst vx).run P w=.ok u w'∧OpDone J β h w ups val u w'):=by
 unfold wK at f
 split at f
 ·rename_i kd y
  split at f
  ·rename_i kd' n
   rw[Rep] at hx;subst hx
   obtain⟨C,T⟩:=uc f
   obtain⟨s,hs⟩:=A5b.1 C
   refine⟨_,_,T,fun _=>⟨.int kd (kd.wrap n),w,?_,J,β,Step.refl S,by rw[Rep]⟩⟩
   cases s<;>simp[convert,run_underlying hs,run_underlying y,Conv.intToInt]
  ·simp at f
 ·rename_i y
  split at f
  ·rename_i hs
   split at f
   ·rename_i s
    rw[Rep] at hx;subst hx
    refine⟨_,_,f,fun _=>⟨.string ⟨⟨s⟩⟩,w,?_,J,β,Step.refl S,by rw[Rep]⟩⟩
    simp[convert,run_underlying hs,run_underlying y]
   ·simp at f
  ·rename_i v hs
   split at f
   ·rename_i U
    split at f
    ·simp at f
    ·rename_i hns
     obtain⟨q,hq,T⟩:=ub f
     obtain⟨s,hs',h2⟩:=ub T
     obtain⟨us,Y,hul,hur⟩:=mo (P:=P) S hl hq hx
     obtain⟨ns,e1,e2⟩:=dM hs' hur hul
     refine⟨_,_,h2,fun _=>⟨.string ⟨⟨s⟩⟩,w,?_,J,β,Step.refl S,by rw[Rep]⟩⟩
     have hv:∃ A n cap,vx=.slice A n cap:=by
      unfold wG at hq
      split at hq
      ·rw[Rep] at hx;exact⟨_,_,_,hx⟩
      ·rw[Rep,RepC] at hx;obtain⟨_,A,cap,rfl,_⟩:=hx;exact⟨_,_,_,rfl⟩
      ·rw[Rep] at hx;obtain⟨_,A,cap,_,rfl,_⟩:=hx;exact⟨_,_,_,rfl⟩
      ·exact absurd rfl (hns _)
      ·simp at hq
     obtain⟨A,n,cap,rfl⟩:=hv
     have hn:q.2.1=n:=by have:=Y.len w;simpa[Builtin.lenOf] using this.symm
     have I:=Y.cells w n (fun _=>rfl) (by omega)
     have V:=Y.length
     rw[hn] at V
     rw[show us.take (n*1)=us by rw[←V,A2e]] at I
     have D:(convert src dst (.slice A n cap)).run P w=(Conv.bytesToString (.slice A n cap)).run P w:=by
      cases A<;>simp[convert,run_underlying hs,run_underlying y,run_underlying U]
     rw[D]
     cases A with
     | none =>
      rw[run_firstCells_none] at I
      injection I with hc1 _
      have hus:us=[]:=by simpa using hc1.symm
      rw[hus] at e1
      have X:ns=[]:=by simpa using e1.symm
      rw[X] at e2
      simp at e2;subst e2
      simp[Conv.bytesToString];rfl
     | some a =>
      simp only[Builtin.firstCells,A1x] at I
      rw[e1] at I
      rw[run_bytesToString w a n cap ns I,e2]
      have:=Anj ns []
      simp at this
      rw[←this];rfl
   ·simp at f
  ·simp at f
 ·rename_i v y
  split at f
  ·rename_i e' b off n hs U
   obtain⟨l,T⟩:=uc f
   simp only[A1f] at l
   obtain⟨l,hn1⟩:=l
   have hn1:1≤n:=by simpa using hn1
   have l:=A1n l
   subst l
   have hee:e'=v:=by rw[hs] at y;simpa using y
   subst hee
   obtain⟨x,t,h2⟩:=ub T
   obtain⟨hsl,h3⟩:=Afe h2
   obtain⟨t,hd⟩:=D3 hl t
   refine⟨_,_,h3,fun _=>?_⟩
   have hx':=hx
   rw[Rep] at hx
   obtain⟨x0,A,cap,⟨F,hmp⟩,rfl,hle,hr⟩:=hx
   rw[t] at F;simp at F;subst F
   rcases hr with hr | ⟨k1,o1,rfl,hr⟩
   ·omega
   ·rcases hr with hr | ⟨hβ,_,_⟩
    ·simp[hd] at hr
    ·rcases S.blk b x t hd hmp with⟨M,_⟩ | ⟨k2,o2,cs,ty,fr,M,h5,h6,h7,h8,h9,h10⟩
     ·rw[hβ] at M;simp at M
     ·rw[hβ] at M;simp at M;obtain⟨rfl,rfl⟩:=M
      have hsh:w.shape? k1=some (ty,cs.size):=by simp[World.shape?,h5]
      have hnew:∃ G,(w.freeze ⟨k1,cs.size,none⟩ 1).heap[k1]?=some (.cells cs ty G)∧FrOk cs.size G:=by
       obtain⟨lo,hi⟩:=fr
       refine⟨if lo==hi then (cs.size,cs.size+1) else (min lo cs.size,max hi (cs.size+1)),?_,?_⟩
       ·simp[World.freeze,A3h,h5]
       ·by_cases e:lo=hi
        ·simp[e,FrOk]
        ·have h11:cs.size≤lo:=by rcases h6 with h6 | h6;exact absurd h6 e;exact h6
         simp[e,FrOk];omega
      obtain⟨G,hf1,hf2⟩:=hnew
      have A:=Step.mark S t hd hsl hβ h5 hf1 hf2 (fun j z=>by
       simp only[World.freeze]
       rw[if_neg (by decide)]
       show(w.heap.modify k1 _)[j]?=_
       rw[A3h,if_neg (fun e=>z e.symm)]) (by simp[World.freeze]) rfl rfl rfl hmp
      refine⟨_,w.freeze ⟨k1,cs.size,none⟩ 1,?_,J,β,A,Rep.ext A.ext hx'⟩
      simp[convert,run_underlying hs,run_underlying U,markStringish,hsh]
  ·rename_i s hs U
   rw[Rep] at hx;subst hx
   refine⟨_,_,f,fun hn=>⟨_,_,run_bytes_of_string (P:=P) w src dst v ⟨⟨s⟩⟩ hs y U,?_⟩⟩
   replace hn:=hn.nid (by simp[Uz,Bg])
   have hsz:(⟨⟨s⟩⟩:ByteArray).size=s.length:=rfl
   have hcap:s.length≤grownCap w s.length 0 v:=by unfold grownCap;simp[Question.cut]
   rw[hsz]
   obtain⟨J',β',B1,B2⟩:=g9 (d:=d) (n:=s.length) (cap:=grownCap w s.length 0 v) (sz:=1) (ty:=v) (fr:=((bytesRow ⟨⟨s⟩⟩ (grownCap w s.length 0 v)).size,(bytesRow ⟨⟨s⟩⟩ (grownCap w s.length 0 v)).size+1))
    (x:={ dead:=false,sealed:=false,pure:=true,taint:=false,sz:=1,cells:=s.map fun b=>.int .u8 (b.toNat:Int) })
    (cs:=bytesRow ⟨⟨s⟩⟩ (grownCap w s.length 0 v)) (Step.drew S).sim hn rfl rfl rfl (FrOk.un (.inr (A1h _))) (by simp) (by simp[bytesRow,hsz];omega) hcap
    ⟨fun _=>by
     show RepCs (J false) w.drew (s.map fun b=>.int .u8 (b.toNat:Int)) _ 0
     rw[Cb]
     intro j q z
     rw[A3a] at z
     cases hb:s[j]? with
     | none=>rw[hb] at z;simp at z
     | some b =>
      rw[hb] at z;simp at z;subst z
      refine⟨.int .u8 (b.toNat:Int),?_,by rw[RepC]⟩
      have hlt:j<s.length:=(A1s.1 hb).1
      simp only[A1w,bytesRow]
      rw[A41 (by simp;exact hlt)]
      simp[hb],fun hp=>by simp at hp⟩
   exact⟨J',β',(Step.drew S).trans B1 (fun _ k _ _=>by rw[←PD];exact Tx _ _ k),B2⟩
  ·simp at f
 ·simp at f
theorem rA {t:TypeId} {n:Nat} (h:Bv P t=some n):∃ j,P.info? t=some j∧j.size=n:=by
 unfold Bv at h
 cases hq:P.info? t with
 | none=>rw[hq] at h;cases h
 | some j=>rw[hq] at h;simp at h;exact⟨j,rfl,h⟩
theorem yQ {d:Nat} {src dst:TypeId} {x:AV} {vx:Value} {k:AV→Ez→O R} (S:SimH J β h w) (G:Looks g h) (f:kK P g d src dst x k=some r) (hx:Rep J β h w x vx) :
  ∃ val ups,k val ups=some r∧(UpsFree d h ups→∃ u w',(convert src dst vx).run P w=.ok u w'∧OpDone J β h w ups val u w'):=by
 unfold kK at f
 split at f
 ·rename_i I
  split at f
  ·rename_i t b off hs
   obtain⟨n,hn,f⟩:=ub f
   obtain⟨y,M,f⟩:=ub f
   obtain⟨C,f⟩:=uc f
   simp at C
   obtain⟨v,l⟩:=D3 G M
   have z:=hx
   rw[Rep] at hx
   obtain⟨x1,T,o1,⟨A,gm⟩,rfl,s⟩:=hx
   rw[v] at A;simp at A;subst A
   rcases s with s | s
   ·rw[s] at l;cases l
   obtain⟨j,U,D⟩:=rA hn
   rcases S.blk b y v l gm with⟨e1,F⟩ | ⟨k2,o2,cs,ty,fr,e1,F,e3,e4,X⟩
   ·rw[s] at e1;cases e1
   ·rw[s] at e1;simp at e1;obtain⟨rfl,rfl⟩:=e1
    refine⟨_,_,f,fun _=>⟨_,w,Lib.run_to_unsafe w ⟨T,o1+off,none⟩ hs I U (by rw[D];exact fun e=>by rw[e] at C;simp at C) (e:=ty) (cells:=cs.size) (by simp[World.shape?,F]) (by show o1+off<_;omega),J,β,Step.refl S,z⟩⟩
  ·cases f
 ·rename_i u I
  split at f
  ·rename_i b off hs
   obtain⟨n,hn,f⟩:=ub f
   obtain⟨y,M,f⟩:=ub f
   obtain⟨q,hq,f⟩:=ub f
   obtain⟨C,f⟩:=uc f
   simp at C
   obtain⟨v,l⟩:=D3 G M
   have z:=hx
   rw[Rep] at hx
   obtain⟨x1,T,o1,⟨A,gm⟩,rfl,s⟩:=hx
   rw[v] at A;simp at A;subst A
   rcases s with s | s
   ·rw[s] at l;cases l
   obtain⟨j,U,D⟩:=rA hn
   rcases S.blk b y v l gm with⟨e1,F⟩ | ⟨k2,o2,cs,ty,fr,e1,F,e3,e4,X⟩
   ·rw[s] at e1;cases e1
   ·rw[s] at e1;simp at e1;obtain⟨rfl,rfl⟩:=e1
    obtain⟨rfl,rfl,V⟩:=e3.2 q.1 q.2 hq
    have V:cs.size=q.2:=by omega
    refine⟨_,_,f,fun _=>⟨_,w,Lib.run_from_unsafe w ⟨T,0+off,none⟩ hs I U (e:=q.1) (cells:=cs.size) (by simp[World.shape?,F]) (by show liesAt P P.depth q.1 (cs.size/_) (0+off) u 1=true;rw[V,A1w];exact C.2.2),J,β,Step.refl S,z⟩⟩
  ·cases f
 ·exact Aa7 S G f hx
theorem Afh {fn : Func} (d : fn.name = "internal/abi.NoEscape") : Extern.find fn = some Extern.AbiNoEscape.same := by
 have l1 : Extern.allGenericRows.lookup "internal/abi.NoEscape" = none := by kernel_rfl
 have l2 : Extern.allTypedRows.lookup "internal/abi.NoEscape" = none := by kernel_rfl
 have l3 : Extern.allRows.lookup "internal/abi.NoEscape" = some Extern.AbiNoEscape.same := by kernel_rfl
 unfold Extern.find
 simp only[d,l1,l2,l3]
 rfl
theorem rB {fn : Func} (d : fn.name = "internal/abi.NoEscape") (f : fn.origin = "") : Extern.findNext fn = none := by
 have l1 : Extern.allNextRows.lookup "internal/abi.NoEscape" = none := by kernel_rfl
 have l2 : Extern.allNextRows.lookup "" = none := by kernel_rfl
 unfold Extern.findNext
 simp only[d,f,l1,l2]
 rfl
theorem Akj {f:Nat} (h:Anc P f=true) (x:Value) (w:World):(callFunc f #[x]).run P w=.ok (.value x) w:=by
 unfold Anc at h
 split at h
 ·rename_i fn k
  simp only[A1f] at h
  obtain⟨l,hn,d⟩:=h
  have hn : fn.name = "internal/abi.NoEscape" := by simpa using hn
  have d : fn.origin = "" := by simpa using d
  rw[run_callFunc_extern k (by rw[hn];decide) l (rB hn d) (Afh hn)]
  rfl
 ·cases h
theorem Afi {x:AV} {b:UInt8} (h:xr x=some b):x=.int .u8 (b.toNat:Int):=by
 unfold xr at h
 split at h
 ·rename_i n
  obtain⟨f,d⟩:=uc h
  simp at d;subst d
  have:=of_decide_eq_true f
  rw[this]
 ·cases h
theorem VE:∀ {c:LA} {s:Lu},UX c=some s→c=s.map fun b=>.int .u8 (b.toNat:Int)
 | [],s,h=>by simp[UX] at h;subst h;rfl
 | x::r,s,h=>by
  rw[UX] at h
  obtain⟨b,d,h⟩:=ub h
  obtain⟨l,f,h⟩:=ub h
  simp at h;subst h
  rw[Afi d,VE f];rfl
theorem kS {d:Nat} {ts:Array TypeId} {ty:TypeId} {x:AV} {vx:Value} {k:AV→Ez→O R} (S:SimH J β h w) (v:Looks g h) (f:Xi g x k=some r) (hx:Rep J β h w x vx) :
  ∃ val ups,k val ups=some r∧(UpsFree d h ups→∃ u w',(Builtin.unsafeSliceData_ ts ty #[vx]).run P w=.ok u w'∧OpDone J β h w ups val u w'):=by
 unfold Xi at f
 split at f
 ·rw[Rep] at hx;subst hx
  exact⟨_,_,f,fun _=>⟨.pointer none,w,rfl,J,β,Step.refl S,by rw[Rep]⟩⟩
 ·rename_i b off n
  obtain⟨y,C,f⟩:=ub f
  obtain⟨hn,f⟩:=uc f
  have hn:0<n:=by simpa using hn
  obtain⟨q,s⟩:=D3 v C
  rw[Rep] at hx
  obtain⟨z,A,cap,⟨t,gm⟩,rfl,F,l⟩:=hx
  rw[q] at t;simp at t;subst t
  rcases l with l | ⟨D,o1,rfl,l⟩
  ·omega
  rcases l with l | ⟨l,_⟩
  ·rw[l] at s;cases s
  refine⟨_,_,f,fun _=>⟨_,w,Lib.run_unsafeSliceData_row w ts ty _ n cap (by omega),J,β,Step.refl S,?_⟩⟩
  rw[Rep]
  exact⟨y,D,o1,⟨q,gm⟩,rfl,.inr l⟩
 ·cases f
theorem kT {d:Nat} {t it ty:TypeId} {x n:AV} {vx vn:Value} {k:AV→Ez→O R} (S:SimH J β h w) (hl:Looks g h) (f:Xj P g t x n k=some r) (hx:Rep J β h w x vx) (V:Rep J β h w n vn) :
  ∃ val ups,k val ups=some r∧(UpsFree d h ups→∃ u w',(Builtin.unsafeString_ #[t,it] ty #[vx,vn]).run P w=.ok u w'∧OpDone J β h w ups val u w'):=by
 unfold Xj at f
 split at f
 ·rename_i n
  obtain⟨hn,f⟩:=uc f
  have hn:n=0:=by simpa using hn
  subst hn
  simp only[Rep] at hx V;subst hx V
  exact⟨_,_,f,fun _=>⟨_,w,Lib.run_unsafeString_none w t it ty none,J,β,Step.refl S,by rw[Rep];rfl⟩⟩
 ·rename_i b off n
  obtain⟨y,hy,f⟩:=ub f
  obtain⟨q,hq,f⟩:=ub f
  split at f
  ·rename_i e he
   obtain⟨hc,f⟩:=uc f
   obtain⟨s,hs,hk⟩:=ub f
   simp only[A1f,A4n,decide_eq_true_eq] at hc
   obtain⟨c1,c2,c3,c4,c5,c6,c7,c8⟩:=hc
   have c1:=A1n c1
   have c2:=A1n c2
   have c5:=A1n c5
   obtain⟨v,A⟩:=D3 hl hy
   simp only[Rep] at hx V;subst V
   obtain⟨z,I,o1,⟨g1,gm⟩,rfl,D⟩:=hx
   rw[v] at g1;simp at g1;subst g1
   rcases D with D | D
   ·rw[D] at A;cases A
   rcases S.blk b y v A gm with⟨e1,G⟩ | ⟨k2,o2,cs,ty2,fr,e1,G,e3,e4,e5,e6⟩
   ·rw[D] at e1;cases e1
   rw[D] at e1;simp at e1;obtain⟨rfl,rfl⟩:=e1
   obtain⟨rfl,rfl,_⟩:=e3.2 q.1 q.2 hq
   subst c5
   have hsl:s.length=n.toNat:=by
    have:=congrArg List.length (VE hs)
    simp at this;omega
   have hsn:(n:Int)=(s.length:Int):=by omega
   subst hsn
   refine⟨_,_,hk,fun _=>⟨.string ⟨s.toArray⟩,w.freeze ⟨I,0,none⟩ s.length,?_,J,β,?_,by rw[Rep]⟩⟩
   ·refine Lib.run_unsafeString_row w t it ty q.1 (by rw[c1];exact he) (by rw[c1];exact c2) I cs.size (by simp[World.shape?,G]) s (by intro e;subst e;simp at c6) (by omega) (by omega) fun j x X=>?_
    have hjl:j<s.length:=(A1s.1 X).1
    have F:y.cells[j]?=some (.int .u8 (x.toNat:Int)):=by
     have Y:(y.cells.take (s.length:Int).toNat)[j]?=some (.int .u8 (x.toNat:Int)):=by rw[VE hs];simp[X]
     rw[A28] at Y
     split at Y
     ·exact Y
     ·cases Y
    obtain⟨u,C,M⟩:=Cb.1 (e5.1 c3) j _ F
    rw[RepC] at M;subst M
    have C:cs[j]?=some (.int .u8 (x.toNat:Int)):=by simpa using C
    by_cases ej:j=0
    ·subst ej;simp[World.cell?,Addr.add,G,C]
    ·simp[World.cell?,Addr.add,G,ej,C]
   ·have ap:Al [(b,none)] h=Gq h b { y with dead:=true,pure:=true,cells:=[] }:=by simp[Al,v]
    rw[ap]
    have l:s.length≠0:=by omega
    refine Step.giveUp S v A c4 D gm rfl (fun j X=>?_) (by simp[World.freeze,l]) (by simp[World.freeze,l]) (by simp[World.freeze,l]) (by simp[World.freeze,l]) ?_
    ·simp only[World.freeze]
     rw[if_neg l]
     show(w.heap.modify I _)[j]?=_
     rw[A3h,if_neg (fun e=>X e.symm)]
    ·obtain⟨lo,hi⟩:=fr
     have T:∃ U,(w.freeze ⟨I,0,none⟩ s.length).heap[I]?=some (.cells cs q.1 U):=⟨_,by simp[World.freeze,l,A3h,G];rfl⟩
     obtain⟨U,hf⟩:=T
     rw[Fc G,Fc hf];exact A1h _
  ·cases f
 ·cases f
end
end Gx
namespace Gx
open Go
def MF (CR:AV→Value→Prop) (c:LA) (cs:List Value):Prop:=c.length=cs.length∧∀ (j:Nat) (x:AV) (u:Value),c[j]?=some x→cs[j]?=some u→CR x u
def PartsRel (CR:AV→Value→Prop):List (Nat×LA)→List (Nat×Value)→Prop
 | [],vs=>vs=[]
 | (i,c)::r,vs=>∃ v vs',vs=(i,v)::vs'∧MF CR c v.cells.toList∧PartsRel CR r vs'
theorem Ais:∀ (vs:List Value) (n off:Nat) (cells:Array Value) (j:Nat),
  ((vs.zipIdx n).foldl (fun (cs:Array Value) (p:Value×Nat)=>cs.setIfInBounds (off+p.2) p.1) cells)[j]?=if off+n≤j∧j<off+n+vs.length∧j<cells.size then vs[j - (off+n)]? else cells[j]?
 | [],n,off,cells,j=>by simp;omega
 | v::r,n,off,cells,j=>by
  rw[List.zipIdx_cons,A3x,Ais r (n+1) off]
  simp only[A48,A1a]
  by_cases f:j=off+n
  ·subst f
   rw[if_neg (by omega)]
   by_cases d:off+n<cells.size
   ·rw[if_pos (by omega)];simp[d]
   ·rw[if_neg (by omega)];simp[d]
  ·by_cases d:off+(n+1)≤j∧j<off+(n+1)+r.length∧j<cells.size
   ·rw[if_pos d,if_pos (by omega),show j - (off+n)=(j - (off+(n+1)))+1 by omega];simp
   ·rw[if_neg d,if_neg (by omega),A4q (by omega)]
theorem g_:∀ (vs:List Value) (n off:Nat) (cells:Array Value),((vs.zipIdx n).foldl (fun (cs:Array Value) (p:Value×Nat)=>cs.setIfInBounds (off+p.2) p.1) cells).size=cells.size
 | [],_,_,_=>rfl
 | v::r,n,off,cells=>by rw[List.zipIdx_cons,A3x,g_ r];simp
theorem EZ {CR:AV→Value→Prop} {place:Nat→Option (Nat×Nat)}:∀ {parts:List (Nat×LA)} {vparts:List (Nat×Value)} {c t:LA} {cs:Array Value},PartsRel CR parts vparts→MF CR c cs.toList →
  R4 place parts c=some t→∃ d,Instr.fill place cs vparts=some d∧MF CR t d.toList
 | [],vparts,c,t,cs,l,y,n=>by
  rw[PartsRel] at l;subst l
  simp[R4] at n;subst n
  exact⟨cs,rfl,y⟩
 | (i,vs)::r,vparts,c,t,cs,l,y,n=>by
  rw[PartsRel] at l
  obtain⟨v,D,rfl,A,hr⟩:=l
  rw[R4] at n
  obtain⟨p,z,F⟩:=ub n
  obtain⟨C,G⟩:=uc F
  simp at C
  obtain⟨U,V⟩:=C
  have e1:vs.length=v.cells.size:=by have:=A.1;simpa using this
  have I:c.length=cs.size:=by have:=y.1;simpa using this
  have s:p.1+vs.length≤c.length:=by omega
  have key:MF CR (setCells c p.1 vs) (v.cells.zipIdx.foldl (fun (cs:Array Value) (q:Value×Nat)=>cs.setIfInBounds (p.1+q.2) q.1) cs).toList:=by
   have f:v.cells.zipIdx.foldl (fun (cs:Array Value) (q:Value×Nat)=>cs.setIfInBounds (p.1+q.2) q.1) cs=(v.cells.toList.zipIdx 0).foldl (fun (cs:Array Value) (q:Value×Nat)=>cs.setIfInBounds (p.1+q.2) q.1) cs:=by
    rw[←Array.foldl_toList];simp
   rw[f]
   refine⟨by rw[Te s,I];exact(g_ _ 0 _ _).symm,fun j x u hx k=>?_⟩
   rw[O' s] at hx
   rw[A5s,Ais] at k
   simp only[A20,A36] at k
   split at hx
   ·rename_i M
    rw[if_pos (by omega)] at k
    exact A.2 _ x u hx k
   ·rename_i M
    rw[if_neg (by omega)] at k
    exact y.2 j x u hx (by simpa using k)
  obtain⟨d,S,T⟩:=EZ hr key G
  refine⟨d,?_,T⟩
  rw[Instr.fill,z]
  have:¬ (v.cells.size≠p.2||p.1+v.cells.size>cs.size)=true:=by simp;omega
  simp only[this]
  exact S
section
variable {R:Type} {r:R} {P:Program} {J J':Bool→Nat→Prop} {β:Cu} {h:A1} {w w':World} {g:Bk}
def RepParts (J:Bool→Nat→Prop) (β:Cu) (h:A1) (w:World):List (Nat×AV)→List (Nat×Value)→Prop
 | [],vs=>vs=[]
 | (i,x)::r,vs=>∃ v vs',vs=(i,v)::vs'∧Rep J β h w x v∧RepParts J β h w r vs'
theorem RepParts.ext {β':Cu} {h':A1} (E:Ext J β h w J' β' h' w'):∀ {ps:List (Nat×AV)} {vs:List (Nat×Value)},RepParts J β h w ps vs→RepParts J' β' h' w' ps vs
 | [],_,hr=>hr
 | (i,x)::r,vs,hr=>by
  rw[RepParts] at hr ⊢
  obtain⟨v,d,e,f,k⟩:=hr
  exact⟨v,d,e,Rep.ext E f,RepParts.ext E k⟩
theorem PartsRel.mono {CR CR':AV→Value→Prop} (f:∀ x u,CR x u→CR' x u):∀ {ps:List (Nat×LA)} {vs:List (Nat×Value)},PartsRel CR ps vs→PartsRel CR' ps vs
 | [],_,hr=>hr
 | (i,c)::r,vs,hr=>by
  rw[PartsRel] at hr ⊢
  obtain⟨v,d,e,k,l⟩:=hr
  exact⟨v,d,e,⟨k.1,fun j x u hx n=>f _ _ (k.2 j x u hx n)⟩,PartsRel.mono f l⟩
theorem Yz {J:Nat→Prop} {c:LA} {us:List Value} (f:RepCs J w c (fun j=>us[j]?) 0) (k:c.length=us.length):MF (RepC J w) c us :=
 ⟨k,fun j x u hx l=>by
  obtain⟨n,d,hr⟩:=f.at hx
  rw[l] at d;simp at d;subst d;exact hr⟩
theorem KV {J:Nat→Prop} {c:LA} {us:List Value} (d:MF (RepC J w) c us):RepCs J w c (fun j=>us[j]?) 0:=by
 rw[Cb]
 intro j x hx
 have:j<us.length:=by rw[←d.1];exact(A1s.1 hx).1
 exact⟨us[j],by simp[this],d.2 j x _ hx (A1g this)⟩
theorem BQ:∀ {ps:List (Nat×AV)} {vs:List (Nat×Value)} {q:List (Nat×LA)} {ups:Ez} {org:Bool} {J:Bool→Nat→Prop} {h:A1},SimH J β h w→LooksS g h→EG g ps=some (q,ups,org)→RepParts J β h w ps vs →
  ∃ J',Step J β h w J' β (Al ups h) w∧PartsRel (RepC (J' org) w) q vs∧LooksS g (Al ups h)∧∀ b,Bg ups b=true→∃ x,g b=some x
 | [],vs,q,ups,org,J,h,S,s,d,f=>by
  simp[EG] at d;obtain⟨rfl,rfl,rfl⟩:=d
  rw[RepParts] at f
  exact⟨J,Step.refl S,by rw[PartsRel];exact f,s,fun b l=>by simp[Bg] at l⟩
 | (i,x)::r,vs,q,ups,org,J,h,S,s,d,f=>by
  rw[EG] at d
  obtain⟨⟨c1,u1,o1⟩,I,U⟩:=ub d
  obtain⟨⟨V,u2,o2⟩,hq,M⟩:=ub U
  simp at M
  obtain⟨rfl,rfl,rfl⟩:=M
  rw[RepParts] at f
  obtain⟨v,t,rfl,y,z⟩:=f
  obtain⟨J1,A,hA,n,C⟩:=SI S s I y
  obtain⟨J2,B,hB,D,F⟩:=BQ A.sim C hq (RepParts.ext A.ext z)
  refine⟨J2,by rw[Cx];exact A.trans B (fun _ _ _ _=>A1h _),?_,by rw[Cx];exact D,fun b l=>?_⟩
  ·rw[PartsRel]
   refine⟨v,t,rfl,Yz (RepCs.keep (J:=J1 o1) (w:=w) (fun k G=>ZJ B.sim.jft _ _ k (B.ext.jsub _ k G)) (fun _ _=>rfl) (fun _=>rfl) hA) n,?_⟩
   exact PartsRel.mono (fun x u hx=>RepC.keep (J:=J2 o2) (w:=w) (fun k G=>qy B.sim.jft _ _ k G) (fun _ _=>rfl) hx) hB
  ·rw[Jq] at l
   cases T:Bg u1 b with
   | true=>exact u5 I b T
   | false=>rw[T] at l;exact F b (by simpa using l)
theorem Z4 {place:Nat→Option (Nat×Nat)} {k:LA→O R}:∀ (ps:List (Nat×LA)) (c:LA),m8 place ps c k=(R4 place ps c).bind k
 | [],c=>rfl
 | (i,vs)::r,c=>by
  rw[m8,R4,A1e]
  congr 1;funext p
  rw[Z4 r]
  cases (beq vs.length p.2&&ble (p.1+p.2) c.length)<;>rfl
theorem gd {d len:Nat} {t:TypeId} {ps:List (Nat×AV)} {vs:List (Nat×Value)} {k:AV→Ez→O R} (S:SimH J β h w) (hl:Looks g h) (D:Uh P g d t len ps k=some r) (hv:RepParts J β h w ps vs) :
  ∃ val ups,k val ups=some r∧(UpsFree d h ups→∃ u w',(Instr.buildSlice t len vs.toArray).run P w=.ok u w'∧OpDone J β h w ups val u w'):=by
 unfold Uh at D
 split at D
 ·rename_i el hu
  obtain⟨sz,f,h1⟩:=ub D
  obtain⟨zz,hz,h2⟩:=ub h1
  obtain⟨⟨q,u1,o1⟩,hq,h3⟩:=ub h2
  obtain⟨hb,h4⟩:=uc h3
  rw[Z4] at h4
  obtain⟨cells,hc,h5⟩:=ub h4
  simp at hb
  obtain⟨i,z,hi,G,rfl,I,e1,e2⟩:=Ty hz
  have l:i.size=sz:=by simp[Bv,hi] at f;exact f
  refine⟨_,_,h5,fun hn=>?_⟩
  replace hn:=hn.nid (by simp[Jq,Uz,Bg])
  obtain⟨J1,A,hA,_,x⟩:=BQ S hl.s hq hv
  have M:=PC (w:=w) (J:=J1 o1) I len (len*sz) (by rw[e1,l];exact A1h _)
  have T:MF (RepC (J1 o1) w) (F2 len (N3 z.cells.toList)) (madeCells z.cells (len*sz)).toList:=by
   refine Yz (RepCs.keep (J:=J1 o1) (w:=w) (fun _ U=>U) (fun _ _=>rfl) (fun j=>by simp) M) ?_
   rw[Hn,e2,l,A36,size_madeCells]
  obtain⟨n,f1,f2⟩:=EZ hA T hc
  have y:cells.length=len*sz:=by
   have:∀ {ps:List (Nat×LA)} {c F:LA},R4 (fun i=>some (i*sz,sz)) ps c=some F→F.length=c.length:=by
    intro ps
    induction ps with
    | nil=>intro c F C;simp[R4] at C;rw[C]
    | cons p r ih =>
     intro c F C
     obtain⟨i,vs⟩:=p
     rw[R4] at C
     obtain⟨p,hpl,g1⟩:=ub C
     obtain⟨gb,g2⟩:=uc g1
     simp at gb
     rw[ih g2,Te (by omega)]
   rw[this hc,Hn,e2,l]
  have hcs:n.size=len*sz:=by have:=f2.1;simp at this;omega
  refine⟨.slice (some ⟨w.heap.size,0,none⟩) len len,w.alloc (.cells n el),?_,?_⟩
  ·have v:Instr.fill (fun i=>some (i*sz,sz)) ((Array.range (len*sz)).map (z.cells[·%z.cells.size]!)) vs=some n:=f1
   have V:¬ (16777216<len*sz):=by omega
   by_cases X:len*sz=0
   ·have Y:∀ (a:Array Value),(Array.range (len*sz)).map (a[·%a.size]!)=#[]:=fun a=>by rw[X];simp[Array.range_zero']
    rw[Y] at v
    simp[Instr.buildSlice,run_underlying hu,C1 f,X,Array.range_zero',v,newRow]
   ·simp[Instr.buildSlice,run_underlying hu,C1 f,V,X,zeroValue,typeInfo,hi,G,v,newRow]
  ·refine OpDone.after A (g9 (sz:=sz) (fr:=(0,0)) A.sim (Air hl x hn) rfl rfl rfl FrTy.un0 y (by omega) (A1h _) ⟨fun _=>?_,fun I=>by simp at I⟩) (Tx _ _)
   have:=KV f2
   exact RepCs.keep (J:=J1 o1) (w:=w) (fun _ U=>U) (fun _ _=>rfl) (fun j=>by simp) this
 ·simp at D
theorem ey {t:TypeId} {ps:List (Nat×AV)} {k:AV→O R}:xp P t ps k=(xo P t ps).bind k:=by
 unfold xp xo
 rw[A1e]
 congr 1;funext place
 cases (ps.all fun p=>UW p.2) with
 | false=>rfl
 | true =>
  simp only[cond_true]
  cases (ps.any fun p=>OS p.2) with
  | true =>
   simp only[cond_true]
   cases (ps.any fun p=>qo p.2) with
   | true =>
    simp only[cond_true]
    rw[A1e]
    congr 1;funext z
    rw[Z4]
    cases R4 place (Ms ps) z<;>rfl
   | false =>
    simp only[cond_false]
    rw[A1e]
    congr 1;funext z
    rw[Z4]
    cases R4 place (Hg ps) z<;>rfl
  | false =>
   simp only[cond_false]
   rw[A1e]
   congr 1;funext z
   rw[Z4]
   cases R4 place (Hg ps) z<;>rfl
theorem Ank {x:AV} {u:Value} (hr:RepC (fun _=>False) w x u):Rep J β h w x u:=by
 have d:∀ o:Bool,RepC (J o) w x u:=fun o=>RepC.keep (J:=fun _=>False) (w:=w) (fun _ k=>k.elim) (fun _ _=>rfl) hr
 cases x
 case imm c n sz t org=>rw[Rep];exact d org
 case iptr c org=>rw[Rep];exact d org
 case fn f c =>
  cases c with
  | nil=>rw[RepC] at hr;subst hr;rw[Rep];exact⟨[],by simp,by rw[Reps]⟩
  | cons a l=>simp[RepC] at hr
 all_goals first | (rw[RepC] at hr;rw[Rep];exact hr) | simp[RepC] at hr
theorem kU {d len:Nat} {t:TypeId} {ps:List (Nat×AV)} {vs:List (Nat×Value)} {k:AV→Ez→O R} (S:SimH J β h w) (U:Xh P g d t len ps k=some r) (C:RepParts J β h w ps vs) :
  ∃ val ups,k val ups=some r∧(UpsFree d h ups→∃ u w',(Instr.buildSlice t len vs.toArray).run P w=.ok u w'∧OpDone J β h w ups val u w'):=by
 unfold Xh at U
 split at U
 ·rename_i el A
  obtain⟨sz,n,V⟩:=ub U
  obtain⟨zz,hz,Y⟩:=ub V
  obtain⟨hb,h4⟩:=uc Y
  obtain⟨cells,hc,h5⟩:=ub h4
  simp at hb
  obtain⟨rfl,hb,hst⟩:=hb
  obtain⟨i,z,hi,hiz,rfl,hp,e1,e2⟩:=Ty hz
  have D:i.size=1:=by simp[Bv,hi] at n;exact n
  refine⟨_,_,h5,fun hn=>?_⟩
  replace hn:=hn.nid (by simp[Uz,Bg])
  have hz0:=PC (w:=w) (J:=fun _=>False) hp len (len*1) (by rw[e1,D];exact A1h _)
  have hz1:MF (fun x u=>Rep J β h w x u∧u.oneCell'=true) (F2 len (N3 z.cells.toList)) (madeCells z.cells (len*1)).toList:=by
   have hl:MF (RepC (fun _=>False) w) (F2 len (N3 z.cells.toList)) (madeCells z.cells (len*1)).toList:=by
    refine Yz (RepCs.keep (J:=fun _=>False) (w:=w) (fun _ hk=>hk) (fun _ _=>rfl) (fun j=>by simp) hz0) ?_
    rw[Hn,e2,D,A36,size_madeCells]
   exact⟨hl.1,fun j x u hx A=>⟨Ank (hl.2 j x u hx A),g8 (hl.2 j x u hx A)⟩⟩
  have q:∀ {ps:List (Nat×AV)} {vs:List (Nat×Value)},Qz g (ps.map (·.2))=true→RepParts J β h w ps vs→PartsRel (fun x u=>Rep J β h w x u∧u.oneCell'=true) (ps.map fun p=>(p.1,[p.2])) vs:=by
   intro ps
   induction ps with
   | nil=>intro vs _ C;rw[RepParts] at C;rw[A24,PartsRel];exact C
   | cons p r ih =>
    obtain⟨i,x⟩:=p
    intro vs hs C
    rw[RepParts] at C
    obtain⟨v,vs',rfl,V,Y⟩:=C
    simp[Qz] at hs
    rw[A1r,PartsRel]
    refine⟨v,vs',rfl,?_,ih (by simpa using hs.2) Y⟩
    have ho:=Q8 hs.1 V
    have s:v.cells=#[v]:=by cases v<;>simp_all[Value.cells,Value.oneCell']
    rw[s]
    refine⟨rfl,fun j y u hy A=>?_⟩
    cases j with
    | zero=>simp at hy A;subst hy A;exact⟨V,ho⟩
    | succ j=>simp at hy
  obtain⟨f,f1,f2⟩:=EZ (q hst C) hz1 hc
  have F:cells.length=len*1:=by
   have:∀ {ps:List (Nat×LA)} {c X:LA},R4 (fun i=>some (i*1,1)) ps c=some X→X.length=c.length:=by
    intro ps
    induction ps with
    | nil=>intro c X G;simp[R4] at G;rw[G]
    | cons p r ih =>
     intro c X G
     obtain⟨i,vs⟩:=p
     rw[R4] at G
     obtain⟨p,hpl,g1⟩:=ub G
     obtain⟨gb,g2⟩:=uc g1
     simp at gb
     rw[ih g2,Te (by omega)]
   rw[this hc,Hn,e2,D]
  have hcs:f.size=len*1:=by have:=f2.1;simp at this;omega
  refine⟨.slice (some ⟨w.heap.size,0,none⟩) len len,w.alloc (.cells f el),?_,?_⟩
  ·have l:Instr.fill (fun i=>some (i*1,1)) ((Array.range (len*1)).map (z.cells[·%z.cells.size]!)) vs=some f:=f1
   have I:¬ (16777216<len*1):=by omega
   by_cases M:len*1=0
   ·have hme:∀ (a:Array Value),(Array.range (len*1)).map (a[·%a.size]!)=#[]:=fun a=>by rw[M];simp[Array.range_zero']
    rw[hme] at l
    simp only[A1x] at M
    simp[Instr.buildSlice,run_underlying A,C1 n,M,Array.range_zero',newRow]
    simp at l
    simp[l]
   ·simp only[A1x] at l M I
    simp[Instr.buildSlice,run_underlying A,C1 n,I,M,zeroValue,typeInfo,hi,hiz,l,newRow]
  ·refine g9 (sz:=1) (fr:=(0,0)) S hn rfl rfl rfl FrTy.un0 F (by omega) (A1h _) ⟨fun hp=>by simp at hp,fun _ j y hj=>?_⟩
   have T:j<f.size:=by have:=(A1s.1 hj).1;simp at this;omega
   have:=f2.2 j y f[j] hj (by simp[T])
   exact⟨f[j],by simp[T],this.1,this.2⟩
 ·simp at U
theorem Y0 {d:Nat}:∀ {l:List (Nat×Nat)} {j:Nat} {c:LA} {cs:List Value} {β:Cu} {h:A1},SimH J β h w→1≤j→j+l.length≤16→(∀ i,j≤i→i<16→Bg (Hz d l j c).2 (nid d+i)=true→Ak h (nid d+i)=none)→Reps J β h w c cs →
  ∃ β',Step J β h w J β' (Al (Hz d l j c).2 h) w∧Reps J β' (Al (Hz d l j c).2 h) w (Hz d l j c).1 cs
 | [],j,c,cs,β,h,S,_,_,_,hr=>⟨β,Step.refl S,hr⟩
 | (o,sz)::l,j,c,cs,β,h,S,M,D,q,hr=>by
  rw[Hz] at q ⊢
  split
  ·rename_i s
   simp only[s] at q
   simp at D
   have I:Ak h (nid d+j)=none:=q j (A1h _) (by omega) (by simp[Bg])
   have A:=Step.newNone S (d:=nid d+j) (x:=Ht sz) I rfl
   have f:=Reps.ext A.ext hr
   rw[Cv] at f
   have v:Reps J (fun b=>if b=nid d+j then none else β b) (Gq h (nid d+j) (Ht sz)) w (c.set o (.own (nid d+j) 0 0)) cs:=by
    rw[Cv]
    refine⟨by rw[f.1];simp,fun i y u t F=>?_⟩
    by_cases hi:i=o
    ·subst hi
     have z:i<c.length:=(A1s.1 s).1
     rw[List.getElem?_set_self z] at t;simp at t;subst t
     have G:=f.2 i _ u s F
     rw[Rep] at G;subst G
     rw[Rep]
     exact⟨Ht sz,none,0,⟨by simp[Af],rfl⟩,rfl,A1h _,.inl rfl⟩
    ·rw[List.getElem?_set_ne (by omega)] at t
     exact f.2 i y u t F
   obtain⟨β',B,hB⟩:=Y0 (d:=d) (l:=l) (j:=j+1) A.sim (by omega) (by omega) (fun i hi k n=>by
    have:=q i (by omega) k (by
     rw[Bg]
     have:beq (nid d+j) (nid d+i)=false:=TW (by omega)
     rw[this];exact n)
    rw[Af,if_neg (by omega)];exact this) v
   exact⟨β',by simp only[Al];exact A.trans B (fun _ _ _ _=>A1h _),by simp only[Al];exact hB⟩
  ·rename_i s
   have e:Hz d ((o,sz)::l) j c=Hz d l (j+1) c:=by
    rw[Hz]
    split
    ·rename_i C;exact absurd C (s ·)
    ·rfl
   simp at D
   split at q
   ·rename_i C;exact absurd C (s ·)
   ·exact Y0 S (by omega) (by omega) (fun i hi k n=>q i (by omega) k n) hr
theorem Afj {t:TypeId} {co:Bool} {d:Nat} {v:AV} {vc:Value} {k:AV→Ez→O R} (S:SimH J β h w) (f:Ake P t co d v k=some r) (n:Rep J β h w v vc) :
  ∃ val ups,k val ups=some r∧(UpsFree d h ups→OpDone J β h w ups val vc w):=by
 unfold Ake at f
 split at f
 ·rename_i c
  obtain⟨s,u⟩:=uc f
  refine⟨_,_,u,fun x=>?_⟩
  rw[Rep] at n
  obtain⟨cs,rfl,hr⟩:=n
  obtain⟨β',A,hA⟩:=Y0 (d:=d) (l:=U0 P t) (j:=1) S (A1h _) (by simp at s;omega) (fun i hi y q=>x _ q (by unfold MC;simp;omega)) hr
  exact⟨J,β',A,by rw[Rep];exact⟨cs,rfl,hA⟩⟩
 ·exact⟨_,_,f,fun _=>⟨J,β,Step.refl S,n⟩⟩
theorem mu {x:AV} {v:Value} (d:Rep J β h w x v) (q:OS x=false) (k:UW x=true):MF (Rep J β h w) (cellsOf x) v.cells.toList:=by
 have one:v.cells=#[v]→cellsOf x=[x]→MF (Rep J β h w) (cellsOf x) v.cells.toList:=fun s f=>by
  rw[s,f]
  refine⟨rfl,fun j y u l n=>?_⟩
  cases j with
  | zero=>simp at l n;subst l n;exact d
  | succ j=>simp at l
 cases x
 case pagg=>simp[OS] at q
 case agg c =>
  rw[Rep] at d
  obtain⟨cs,rfl,f⟩:=d
  rw[Cv] at f
  exact⟨f.1.symm,f.2⟩
 case tup c=>simp[UW] at k
 case undef=>simp[UW] at k
 case omap=>simp[UW] at k
 case own=>rw[Rep] at d;obtain⟨_,A,cap,_,rfl,_⟩:=d;exact one rfl rfl
 case optr=>rw[Rep] at d;obtain⟨_,kk,o,_,rfl,_⟩:=d;exact one rfl rfl
 case fn=>rw[Rep] at d;obtain⟨cs,rfl,_⟩:=d;exact one rfl rfl
 case imm=>rw[Rep,RepC] at d;obtain⟨_,A,cap,rfl,_⟩:=d;exact one rfl rfl
 case iptr=>rw[Rep,RepC] at d;obtain⟨a,rfl,_⟩:=d;exact one rfl rfl
 all_goals (rw[Rep] at d;subst d;exact one rfl rfl)
theorem wV {x:AV} {v:Value} (l:∀ k,J false k→J true k) (f:Rep J β h w x v) (hr:en x=false) {o:Bool} (q:xn x=true→o=true):RepC (J o) w x v:=by
 cases x<;>simp[en] at hr
 case imm c n sz t org =>
  rw[Rep] at f
  refine RepC.keep (J:=J org) (w:=w) (fun k d=>?_) (fun _ _=>rfl) f
  cases org
  ·cases o
   ·exact d
   ·exact l k d
  ·rw[q rfl];exact d
 case iptr c org =>
  rw[Rep] at f
  refine RepC.keep (J:=J org) (w:=w) (fun k d=>?_) (fun _ _=>rfl) f
  cases org
  ·cases o
   ·exact d
   ·exact l k d
  ·rw[q rfl];exact d
 all_goals (rw[Rep] at f;rw[RepC];exact f)
theorem yR {x:AV} {v:Value} (q:∀ k,J false k→J true k) (l:Rep J β h w x v) (hr:qo x=false) {o:Bool} (s:m9 x=true→o=true):MF (RepC (J o) w) (cellsOf x) v.cells.toList:=by
 have one:en x=false→cellsOf x=[x]→m9 x=xn x→MF (RepC (J o) w) (cellsOf x) v.cells.toList:=fun G d t=>by
  have D:=wV (o:=o) q l G (by rw[←t];exact s)
  have z:v.cells=#[v]:=by have:=g8 D;cases v<;>simp_all[Value.cells,Value.oneCell']
  rw[z,d]
  refine⟨rfl,fun j y u f n=>?_⟩
  cases j with
  | zero=>simp at f n;subst f n;exact D
  | succ j=>simp at f
 cases x
 case pagg c org =>
  rw[Rep] at l
  obtain⟨cs,rfl,z,d⟩:=l
  refine Yz (RepCs.keep (J:=J org) (w:=w) (fun k A=>?_) (fun _ _=>rfl) (fun j=>by simp[Value.cells]) d) (by simp[Value.cells,cellsOf,z])
  cases org
  ·cases o
   ·exact A
   ·exact q k A
  ·rw[s rfl];exact A
 case agg c =>
  rw[Rep] at l
  obtain⟨cs,rfl,d⟩:=l
  rw[Cv] at d
  refine⟨d.1.symm,fun j y u f n=>?_⟩
  simp only[qo,A3w] at hr
  have F:y ∈ c:=A4u f
  have C:en y=false:=by simpa using hr y F
  refine wV q (d.2 j y u f n) C (fun t=>s ?_)
  rw[m9,List.any_eq_true];exact⟨y,F,t⟩
 all_goals first | exact one hr rfl rfl | simp[qo,en] at hr
theorem Akk {o:Bool} {x:AV} {v:Value} (hr:RepC (J o) w x v):Rep J β h w (Aaw o x) v:=by
 cases x
 case imm=>rw[Aaw,Rep];rw[RepC] at hr ⊢;exact hr
 case iptr=>rw[Aaw,Rep];rw[RepC] at hr ⊢;exact hr
 case fn f c =>
  cases c with
  | nil=>rw[RepC] at hr;subst hr;show Rep J β h w (.fn f []) _;rw[Rep];exact⟨[],by simp,by rw[Reps]⟩
  | cons a b=>simp[RepC] at hr
 all_goals first | (rw[RepC] at hr;unfold Aaw;rw[Rep];exact hr) | (simp[RepC] at hr)
theorem Afk {x:AV} {v:Value} (k:Rep J β h w x v) (q:UW x=true):MF (Rep J β h w) (qp x) v.cells.toList:=by
 cases l:OS x with
 | false =>
  have:=mu k l q
  cases x<;>first | exact this | simp[OS] at l
 | true =>
  cases x<;>simp[OS] at l
  rename_i c o
  rw[Rep] at k
  obtain⟨cs,rfl,s,t⟩:=k
  refine⟨by simp[qp,Value.cells,s],fun j y u f n=>?_⟩
  simp only[qp,A3a] at f
  cases hx:c[j]? with
  | none=>rw[hx] at f;simp at f
  | some x0 =>
   rw[hx] at f;simp at f;subst f
   obtain⟨z,d,hr⟩:=t.at hx
   simp[Value.cells] at n
   rw[n] at d;simp at d;subst d
   exact Akk hr
theorem VF {CR:AV→Value→Prop}:∀ {ps:List (Nat×AV)} {vs:List (Nat×Value)},RepParts J β h w ps vs→(∀ p ∈ ps,∀ v,Rep J β h w p.2 v→MF CR (qp p.2) v.cells.toList)→PartsRel CR (Ms ps) vs
 | [],vs,hr,_=>by rw[RepParts] at hr;rw[Ms,PartsRel];exact hr
 | (i,x)::r,vs,hr,f=>by
  rw[RepParts] at hr
  obtain⟨v,d,rfl,k,l⟩:=hr
  rw[Ms,PartsRel]
  exact⟨v,d,rfl,f (i,x) (by simp) v k,VF l (fun p n=>f p (by simp[n]))⟩
theorem KW {CR:AV→Value→Prop}:∀ {ps:List (Nat×AV)} {vs:List (Nat×Value)},RepParts J β h w ps vs→(∀ p ∈ ps,∀ v,Rep J β h w p.2 v→MF CR (cellsOf p.2) v.cells.toList)→PartsRel CR (Hg ps) vs
 | [],vs,hr,_=>by rw[RepParts] at hr;rw[Hg,PartsRel];exact hr
 | (i,x)::r,vs,hr,f=>by
  rw[RepParts] at hr
  obtain⟨v,d,rfl,k,l⟩:=hr
  rw[Hg,PartsRel]
  exact⟨v,d,rfl,f (i,x) (by simp) v k,KW l (fun p n=>f p (by simp[n]))⟩
theorem ge {t:TypeId} {place:Nat→Option (Nat×Nat)} {i:TypeInfo} {z:Value} {vs:List (Nat×Value)} {cs:Array Value} (d:UV P t=some place) (hi:P.info? t=some i) (q:i.zero=some z)
  (s:Instr.fill place z.cells vs=some cs):P.built t vs=some cs:=by
 unfold UV at d
 unfold Program.built
 split at d
 ·rename_i n e l
  cases k:P.info? e with
  | none=>simp[k] at d
  | some ie=>simp[k] at d;subst d;simp only[hi,l,q,k];exact s
 ·rename_i fs l
  cases k:fs.toList.mapM fun f=>(P.info? f.type).map fun i=>(f.offset,i.size) with
  | none=>rw[k] at d;simp at d
  | some pl =>
   rw[k] at d;simp at d;subst d
   simp only[hi,l,q,k]
   simpa using s
 ·simp at d
theorem u7 {t:TypeId} {ps:List (Nat×AV)} {vs:List (Nat×Value)} {k:AV→Ez→O R} (S:SimH J β h w) (G:Looks g h) (v:ZB P g t ps k=some r) (I:RepParts J β h w ps vs) :
  ∃ val ups u,k val ups=some r∧(Instr.build t vs.toArray).run P w=.ok u w∧OpDone J β h w ups val u w:=by
 unfold ZB at v
 obtain⟨place,d,M⟩:=ub v
 obtain⟨zz,T,U⟩:=ub M
 obtain⟨⟨q,u1,o1⟩,hq,C⟩:=ub U
 rw[Z4] at C
 obtain⟨cells,V,X⟩:=ub C
 obtain⟨i,z,hi,f,rfl,Y,e1,e2⟩:=Ty T
 obtain⟨J1,A,hA,_,D⟩:=BQ S G.s hq I
 have l:MF (RepC (J1 o1) w) (N3 z.cells.toList) z.cells.toList:=by
  refine⟨Z3 _,fun j x u hx hu=>?_⟩
  obtain⟨y,n,g2⟩:=PB (w:=w) (J:=J1 o1) Y j u hu
  rw[hx] at n;simp at n;subst n;exact g2
 obtain⟨cs,f1,F⟩:=EZ hA l V
 refine⟨_,_,.agg cs,X,run_build w t vs.toArray cs (ge d hi f (by simpa using f1)),J1,β,A,?_⟩
 rw[Rep]
 exact⟨cs.toList,rfl,F.1.symm,KV F⟩
theorem yS {t:TypeId} {ps:List (Nat×AV)} {vs:List (Nat×Value)} {v:AV} (S:SimH J β h w) (X:xo P t ps=some v) (U:RepParts J β h w ps vs) :
  ∃ u,(Instr.build t vs.toArray).run P w=.ok u w∧Rep J β h w v u:=by
 unfold xo at X
 obtain⟨place,A,Y⟩:=ub X
 obtain⟨M,C⟩:=uc Y
 cases D:ps.any (fun p=>OS p.2) with
 | true =>
  rw[D] at C
  cases F:ps.any (fun p=>qo p.2) with
  | true =>
   rw[F] at C
   obtain⟨zz,f,l⟩:=ub C
   unfold wH at f
   obtain⟨i,hi,f⟩:=ub f
   cases k:i.zero with
   | none=>rw[k] at f;simp at f
   | some z =>
    rw[k] at f;simp at f;subst f
    cases n:R4 place (Ms ps) (N3 z.cells.toList) with
    | none=>rw[n] at l;simp at l
    | some c =>
     rw[n] at l;simp at l;subst l
     have d:PartsRel (Rep J β h w) (Ms ps) vs:=VF U (fun p G u I=>Afk I (A1u.1 M p G))
     have q:MF (Rep J β h w) (N3 z.cells.toList) z.cells.toList:=by
      have:=ZG (J:=J) (β:=β) (h:=h) (w:=w) z.cells.toList
      rw[Cv] at this
      exact⟨this.1.symm,this.2⟩
     obtain⟨cs,T,s⟩:=EZ d q n
     refine⟨.agg cs,run_build w t vs.toArray cs (ge A hi k (by simpa using T)),?_⟩
     rw[Rep]
     exact⟨cs.toList,rfl,Cv.2 ⟨s.1.symm,s.2⟩⟩
  | false =>
  rw[F] at C
  have h3:=C
  obtain⟨zz,f,l⟩:=ub h3
  obtain⟨i,z,hi,k,rfl,hp,e1,e2⟩:=Ty f
  cases n:R4 place (Hg ps) (N3 z.cells.toList) with
  | none=>rw[n] at l;simp at l
  | some c =>
   rw[n] at l;simp at l;subst l
   have d:PartsRel (RepC (J (ps.any fun p=>m9 p.2)) w) (Hg ps) vs:=KW U (fun p G u I=>yR S.jft I (by
     have:=A3w.1 F p G;simpa using this) (fun ho=>by rw[List.any_eq_true];exact⟨p,G,ho⟩))
   have q:MF (RepC (J (ps.any fun p=>m9 p.2)) w) (N3 z.cells.toList) z.cells.toList:=by
    refine⟨Z3 _,fun j x u hx I=>?_⟩
    obtain⟨y,V,g2⟩:=PB (w:=w) (J:=J (ps.any fun p=>m9 p.2)) hp j u I
    rw[hx] at V;simp at V;subst V;exact g2
   obtain⟨cs,T,s⟩:=EZ d q n
   refine⟨.agg cs,run_build w t vs.toArray cs (ge A hi k (by simpa using T)),?_⟩
   rw[Rep]
   exact⟨cs.toList,rfl,s.1.symm,KV s⟩
 | false =>
  rw[D] at C
  obtain⟨zz,f,l⟩:=ub C
  unfold wH at f
  obtain⟨i,hi,f⟩:=ub f
  cases k:i.zero with
  | none=>rw[k] at f;simp at f
  | some z =>
   rw[k] at f;simp at f;subst f
   cases n:R4 place (Hg ps) (N3 z.cells.toList) with
   | none=>rw[n] at l;simp at l
   | some c =>
    rw[n] at l;simp at l;subst l
    have d:PartsRel (Rep J β h w) (Hg ps) vs:=KW U (fun p G u I=>mu I (by
      have:=A3w.1 D p G;simpa using this) (A1u.1 M p G))
    have q:MF (Rep J β h w) (N3 z.cells.toList) z.cells.toList:=by
     have:=ZG (J:=J) (β:=β) (h:=h) (w:=w) z.cells.toList
     rw[Cv] at this
     exact⟨this.1.symm,this.2⟩
    obtain⟨cs,T,s⟩:=EZ d q n
    refine⟨.agg cs,run_build w t vs.toArray cs (ge A hi k (by simpa using T)),?_⟩
    rw[Rep]
    exact⟨cs.toList,rfl,Cv.2 ⟨s.1.symm,s.2⟩⟩
end
end Gx
namespace Gx
open Go
section
variable {R:Type} {r:R} {P:Program} {J:Bool→Nat→Prop} {β:Cu} {h:A1} {w:World}
def PRd (n:Nat) (x:LA) (rd:Nat→Option Value):Prop:=∀ j q,j<n→x[j]?=some q →
 (∀ k m,q=.int k m→rd j=some (.int k m))∧(∀ b,q=.bool b→rd j=some (.bool b))∧(∀ s,q=.str s→rd j=some (.string ⟨⟨s⟩⟩))
theorem PRd.drop {n m o:Nat} {x:LA} {xs:Array Value} {ox sz:Nat} (l:PRd sz x (fun j=>xs[ox+j]?)) (z:o+m≤sz) (hn:n=m):PRd n (x.drop o) (fun j=>(xs.extract ox (ox+sz))[o+j]?):=by
 subst hn
 intro j q A hq
 rw[A27] at hq
 have d:=l (o+j) q (by omega) hq
 have e:∀ v,xs[ox+(o+j)]?=some v→(xs.extract ox (ox+sz))[o+j]?=some v:=by
  intro v f
  have t:=(A3b.1 f).1
  rw[Array.getElem?_extract,if_pos (by omega)];exact f
 exact⟨fun k m u=>e _ (d.1 k m u),fun b y=>e _ (d.2.1 b y),fun s hs=>e _ (d.2.2 s hs)⟩
theorem EI {t:TypeId} {d:TypeDesc} {xs:Array Value} {ox:Nat} {v:Value} (f:P.underlying t=some d) (k:d.isRow=false) (l:xs[ox]?=some v):(part t xs ox).run P w=.ok v w:=by
 unfold part isAgg
 simp only[Sem.run_bind,run_underlying f,Result.andThen_ok]
 cases d<;>simp_all[TypeDesc.isRow]
theorem MG {t:TypeId} {d:TypeDesc} {xs:Array Value} {ox s:Nat} (f:P.underlying t=some d) (k:d.isRow=true) (hs:Bv P t=some s):(part t xs ox).run P w=.ok (.agg (xs.extract ox (ox+s))) w:=by
 unfold part isAgg
 have:=C1 hs w
 simp only[Sem.run_bind,run_underlying f,Result.andThen_ok]
 cases d<;>simp_all[TypeDesc.isRow]
def Afl (P:Program) (w:World) (D:Nat) (step:TypeId→LA→LA→(Bool→O R)→O R):Prop :=
 ∀ (r:R) (t:TypeId) (s:Nat) (x y:LA) (k:Bool→O R) (xs ys:Array Value) (ox oy:Nat),Bv P t=some s→0<s→step t x y k=some r→PRd s x (fun j=>xs[ox+j]?)→PRd s y (fun j=>ys[oy+j]?) →
  ∃ b a a',k b=some r∧(part t xs ox).run P w=.ok a w∧(part t ys oy).run P w=.ok a' w∧(Op.equalIn D t a a').run P w=.ok b w
theorem SK {D:Nat} {step:TypeId→LA→LA→(Bool→O R)→O R} (hs:Afl P w D step) {x y:LA} {xs ys:Array Value} {ox oy sz:Nat} (hx:PRd sz x (fun j=>xs[ox+j]?)) (u:PRd sz y (fun j=>ys[oy+j]?)) :
  ∀ (fs:List Field) {k:Bool→O R},fs.all (xk P sz)=true→LZ step x y (fs.map fun f=>(f.offset,f.type)) k=some r →
  ∃ b,k b=some r∧(Op.eqFields D (xs.extract ox (ox+sz)) (ys.extract oy (oy+sz)) fs).run P w=.ok b w
 | [],k,_,q=>⟨true,by simpa[LZ] using q,by simp[Op.eqFields]⟩
 | f::fs,k,t,q=>by
  rw[A12,A1f] at t
  obtain⟨n,t⟩:=t
  unfold xk at n
  cases d:Bv P f.type with
  | none=>rw[d] at n;simp at n
  | some s =>
   rw[d] at n
   simp only[A1f,A6g] at n
   obtain⟨M,v,z⟩:=n
   have l : f.name ≠ "_" := by simpa using z
   rw[A1r,LZ] at q
   obtain⟨b,a,S,A,C,F,G⟩:=hs r f.type s _ _ _ (xs.extract ox (ox+sz)) (ys.extract oy (oy+sz)) f.offset f.offset d (by omega) q (hx.drop v rfl) (u.drop v rfl)
   obtain⟨c,e1,I⟩:=SK hs hx u fs t A
   refine⟨b&&c,e1,?_⟩
   rw[Op.eqFields,if_pos l]
   simp only[Sem.run_bind,C,F,G,Result.andThen_ok]
   cases b with
   | false=>simp
   | true=>simpa using I
theorem VG {D:Nat} {step:TypeId→LA→LA→(Bool→O R)→O R} (hs:Afl P w D step) {x y:LA} {xs ys:Array Value} {ox oy sz:Nat} {e:TypeId} {s:Nat} (d:Bv P e=some s) (f:0<s) (hx:PRd sz x (fun j=>xs[ox+j]?)) (n:PRd sz y (fun j=>ys[oy+j]?)) :
  ∀ (is:List Nat) {k:Bool→O R},(∀ i ∈ is,i*s+s≤sz)→LZ step x y (is.map fun i=>(i*s,e)) k=some r →
  ∃ b,k b=some r∧(Op.eqItems D e s (xs.extract ox (ox+sz)) (ys.extract oy (oy+sz)) is).run P w=.ok b w
 | [],k,_,l=>⟨true,by simpa[LZ] using l,by simp[Op.eqItems]⟩
 | i::is,k,q,l=>by
  have t:=q i (by simp)
  rw[A1r,LZ] at l
  obtain⟨b,a,G,u,v,z,A⟩:=hs r e s _ _ _ (xs.extract ox (ox+sz)) (ys.extract oy (oy+sz)) (i*s) (i*s) d f l (hx.drop t rfl) (n.drop t rfl)
  obtain⟨c,e1,C⟩:=VG hs d f hx n is (fun j F=>q j (by simp[F])) u
  refine⟨b&&c,e1,?_⟩
  rw[Op.eqItems]
  simp only[Sem.run_bind,v,z,A,Result.andThen_ok]
  cases b with
  | false=>simp
  | true=>simpa using C
theorem ez:∀ (d D:Nat),d≤D→Afl P w D (pF (R:=R) P d)
 | 0,D,_=>fun r t s x y k xs ys ox oy hs q f=>by simp[pF] at f
 | d+1,D,hD=>fun r t s x y k xs ys ox oy hs q f hx T=>by
  obtain⟨D,rfl⟩:∃ D',D=D'+1:=⟨D - 1,by omega⟩
  rw[pF] at f
  split at f
  ·rename_i kd l
   obtain⟨u,A,f⟩:=ub f
   obtain⟨a,F,f⟩:=ub f
   obtain⟨v,C,f⟩:=ub f
   obtain⟨b,G,f⟩:=ub f
   have U:u=.int kd a:=by
    unfold dF at F;split at F
    ·obtain⟨V,X⟩:=uc F;simp[P2] at V X;subst V X;rfl
    ·simp at F
   have eb:v=.int kd b:=by
    unfold dF at G;split at G
    ·obtain⟨V,Y⟩:=uc G;simp[P2] at V Y;subst V Y;rfl
    ·simp at G
   have px:=(hx 0 u q (by rw[←A19];exact A)).1 kd a U
   have py:=(T 0 v q (by rw[←A19];exact C)).1 kd b eb
   exact⟨_,_,_,f,EI l rfl (by simpa using px),EI l rfl (by simpa using py),run_equalIn_int w D t kd kd a b l⟩
  ·rename_i l
   obtain⟨u,A,f⟩:=ub f
   obtain⟨a,F,f⟩:=ub f
   obtain⟨v,C,f⟩:=ub f
   obtain⟨b,G,f⟩:=ub f
   have U:u=.bool a:=by unfold asBool at F;split at F<;>simp_all
   have eb:v=.bool b:=by unfold asBool at G;split at G<;>simp_all
   have px:=(hx 0 u q (by rw[←A19];exact A)).2.1 a U
   have py:=(T 0 v q (by rw[←A19];exact C)).2.1 b eb
   exact⟨_,_,_,f,EI l rfl (by simpa using px),EI l rfl (by simpa using py),run_equalIn_bool' w D t a b l⟩
  ·rename_i l
   obtain⟨u,A,f⟩:=ub f
   obtain⟨a,F,f⟩:=ub f
   obtain⟨v,C,f⟩:=ub f
   obtain⟨b,G,f⟩:=ub f
   have U:u=.str a:=by unfold m0 at F;split at F<;>simp_all
   have eb:v=.str b:=by unfold m0 at G;split at G<;>simp_all
   have px:=(hx 0 u q (by rw[←A19];exact A)).2.2 a U
   have py:=(T 0 v q (by rw[←A19];exact C)).2.2 b eb
   refine⟨_,_,_,f,EI l rfl (by simpa using px),EI l rfl (by simpa using py),?_⟩
   have:=run_equalIn_string w D t ⟨⟨a⟩⟩ ⟨⟨b⟩⟩ l
   rw[this]
   simp[ByteArray.toList_eq]
  ·rename_i fs l
   obtain⟨sz,z,f⟩:=ub f
   obtain⟨hc,M⟩:=Afe f
   simp only[A2y,Bool.not_eq_false'] at hc
   rw[hs] at z;simp at z;subst z
   obtain⟨b,h1,h2⟩:=SK (ez d D (by omega)) hx T fs.toList hc.2 M
   refine⟨b,_,_,h1,MG l rfl hs,MG l rfl hs,?_⟩
   have hfo:P.fieldsOf t=fs:=by simp[Program.fieldsOf,l]
   rw[run_equalIn_struct w D t _ _ (by rw[hfo];exact l) hc.1,hfo]
   exact h2
  ·rename_i n e l
   obtain⟨s',I,f⟩:=ub f
   obtain⟨sz,z,f⟩:=ub f
   obtain⟨hc,M⟩:=uc f
   simp only[A1f,A6g] at hc
   rw[hs] at z;simp at z;subst z
   obtain⟨b,h1,h2⟩:=VG (ez d D (by omega)) I (by omega) hx T (List.range n) (fun i hi=>by
    have:=List.mem_range.1 hi
    have h3:(i+1)*s'≤n*s':=A16 _ this
    rw[A6m] at h3;omega) M
   refine⟨b,_,_,h1,MG l rfl hs,MG l rfl hs,?_⟩
   cases hi:P.info? e with
   | none=>simp[Bv,hi] at I
   | some i =>
    have S:P.cellsOf e=s':=by simp[Bv,hi] at I;simp[Program.cellsOf,hi,I]
    rw[run_equalIn_array w D _ _ l hi,S]
    exact h2
  ·simp at f
theorem Aa8 {c:LA} {org:Bool} {v:Value} {a:LA} {x:AV} (hx:xl x=some a) (hr:Rep J β h w x v):∃ cs:List Value,v=.agg ⟨cs⟩∧cs.length=a.length∧∀ n,PRd n a (fun j=>(⟨cs⟩:Array Value)[0+j]?):=by
 unfold xl at hx
 split at hx
 ·simp at hx;subst hx
  rw[Rep] at hr
  obtain⟨cs,y,l,C⟩:=hr
  refine⟨cs,y,l,fun n j q _ hq=>?_⟩
  rw[Cb] at C
  obtain⟨u,t,d⟩:=C j q hq
  simp only[A1w] at t ⊢
  refine⟨fun k m z=>?_,fun b A=>?_,fun s hs=>?_⟩
  ·subst z;rw[RepC] at d;subst d;simpa using t
  ·subst A;rw[RepC] at d;subst d;simpa using t
  ·subst hs;rw[RepC] at d;subst d;simpa using t
 ·simp at hx;subst hx
  rw[Rep] at hr
  obtain⟨cs,y,l⟩:=hr
  rw[Cv] at l
  refine⟨cs,y,l.1,fun n j q _ hq=>?_⟩
  have f:j<cs.length:=by rw[l.1];exact(A1s.1 hq).1
  have d:=l.2 j q cs[j] hq (A1g f)
  simp only[A1w]
  refine⟨fun k m z=>?_,fun b A=>?_,fun s hs=>?_⟩
  ·subst z;rw[Rep] at d;simp[f,d]
  ·subst A;rw[Rep] at d;simp[f,d]
  ·subst hs;rw[Rep] at d;simp[f,d]
 ·simp at hx
theorem Aa9 {op:BinOp} {t:TypeId} {x y:AV} {k:AV→O R} {vx vy:Value} (f:wF P t op x y k=some r) (hx:Rep J β h w x vx) (F:Rep J β h w y vy) (ox oy:Operand) :
  ∃ v vc,k v=some r∧(do eqGuard op t ox oy vx vy;binOp op t vx vy:Sem Value).run P w=.ok vc w∧Rep J β h w v vc:=by
 unfold wF at f
 split at f
 ·rename_i a b V X
  obtain⟨s,hs,f⟩:=ub f
  obtain⟨G,f⟩:=uc f
  simp only[A1f,A6g,A4n] at G
  obtain⟨h1,I,M,z,Y⟩:=G
  have I:=A1n I
  have M:=A1n M
  obtain⟨cs,rfl,S,px⟩:=Aa8 (c:=[]) (org:=false) V hx
  obtain⟨q,rfl,hl',py⟩:=Aa8 (c:=[]) (org:=false) X F
  have T:=run_eqGuard_agg w op t ox oy ⟨cs⟩ ⟨q⟩ Y
  have whole:∀ (l:List Value),l.length=s→(⟨l⟩:Array Value).extract 0 (0+s)=⟨l⟩:=by
   intro l S;subst S;simp
  have key:∀ {kk:Bool→O R},pF P 8 t a b kk=some r→∃ c,kk c=some r∧(Op.equal t (.agg ⟨cs⟩) (.agg ⟨q⟩)).run P w=.ok c w:=by
   intro kk hk
   obtain⟨c,u,u',e1,A,e3,e4⟩:=ez 8 10000 (by omega) r t s a b kk ⟨cs⟩ ⟨q⟩ 0 0 hs (by omega) hk (px s) (py s)
   refine⟨c,e1,?_⟩
   have D:∃ d,P.underlying t=some d∧d.isRow=true:=by
    unfold Am6 at z
    split at z
    ·rename_i fs C;exact⟨_,C,rfl⟩
    ·rename_i n e C;exact⟨_,C,rfl⟩
    ·simp at z
   obtain⟨d,C,U⟩:=D
   rw[MG C U hs,whole cs (by omega)] at A
   rw[MG C U hs,whole q (by omega)] at e3
   simp only[Result.ok.injEq,and_true] at A e3
   subst A e3
   exact e4
  split at f
  ·obtain⟨c,e1,A⟩:=key f
   refine⟨_,.bool c,e1,?_,by rw[Rep]⟩
   simp only[Sem.run_bind,T,Result.andThen_ok,binOp,A,Sem.run_pure]
  ·obtain⟨c,e1,A⟩:=key f
   refine⟨_,.bool (!c),e1,?_,by rw[Rep]⟩
   simp only[Sem.run_bind,T,Result.andThen_ok,binOp,A,Sem.run_pure]
  ·simp at f
 ·exact Afd f hx F ox oy
theorem Aba {t:TypeId} {x y:AV} {b:Bool} {vx vy:Value} {g:Bk} (S:SimH J β h w) (T:Looks g h) (d:Anb g x y=some b) (u:Afa P t=true) (hx:Rep J β h w x vx) (f:Rep J β h w y vy) :
  ∃ p q,vx=.pointer p∧vy=.pointer q∧(Op.equal t (.pointer p) (.pointer q)).run P w=.ok b w:=by
 unfold Afa at u
 split at u
 ·rename_i e v
  split at u
  ·rename_i n hn
   have D:n≠0:=fun e=>by subst e;simp at u
   have v:=run_underlying (w:=w) v
   have hs:(Go.sizeOf e).run P w=.ok n w:=C1 hn w
   have nn:∀ q:Option Addr,(Op.equal t (.pointer none) (.pointer q)).run P w=.ok q.isNone w:=fun q=>by
    unfold Op.equal Op.maxDepth Op.equalIn;simp[v]
   have A:∀ a:Addr,(Op.equal t (.pointer (some a)) (.pointer none)).run P w=.ok false w:=fun q=>by
    unfold Op.equal Op.maxDepth Op.equalIn;simp[v]
   unfold Anb at d
   split at d
   ·simp only[Rep] at hx f;subst hx f;simp at d;subst d;exact⟨_,_,rfl,rfl,nn none⟩
   ·simp only[Rep] at hx f;obtain⟨_,k,o,_,rfl,_⟩:=f;subst hx;simp at d;subst d;exact⟨_,_,rfl,rfl,nn (some _)⟩
   ·simp only[Rep] at hx f;obtain⟨_,k,o,_,rfl,_⟩:=hx;subst f;simp at d;subst d;exact⟨_,_,rfl,rfl,A _⟩
   ·simp only[Rep] at hx f;rw[RepC] at f;obtain⟨a,rfl,_⟩:=f;subst hx;simp at d;subst d;exact⟨_,_,rfl,rfl,nn (some _)⟩
   ·simp only[Rep] at hx f;rw[RepC] at hx;obtain⟨a,rfl,_⟩:=hx;subst f;simp at d;subst d;exact⟨_,_,rfl,rfl,A _⟩
   ·rename_i V o1 X o2
    obtain⟨z,U,d⟩:=ub d
    obtain⟨F,d⟩:=uc d
    have F:=A1n F
    subst F
    obtain⟨G,l⟩:=D3 T U
    rw[Rep] at hx f
    obtain⟨x1,Y,p1,⟨I,_⟩,rfl,C⟩:=hx
    obtain⟨x2,k2,p2,⟨M,_⟩,rfl,s⟩:=f
    rw[G] at I M;simp at I M;subst I M
    rcases C with C | C
    ·rw[C] at l;cases l
    ·rcases s with s | s
     ·rw[s] at l;cases l
     ·rw[C] at s;simp at s;obtain⟨rfl,rfl⟩:=s
      refine⟨_,_,rfl,rfl,?_⟩
      simp at d
      unfold Op.equal Op.maxDepth Op.equalIn
      simp[v,hs,D,sameAddr]
      by_cases e:o1=o2
      ·subst e;simp at d;simp[d]
      ·rw[TW e] at d;subst d;simp;exact e
   ·cases d
  ·cases u
 ·cases u
theorem Abb {g:Bk} {op:BinOp} {t:TypeId} {x y:AV} {k:AV→O R} {vx vy:Value} (S:SimH J β h w) (n:Looks g h) (d:wO P g t op x y k=some r) (hx:Rep J β h w x vx) (f:Rep J β h w y vy) (ox oy:Operand) :
  ∃ v vc,k v=some r∧(do eqGuard op t ox oy vx vy;binOp op t vx vy:Sem Value).run P w=.ok vc w∧Rep J β h w v vc:=by
 unfold wO at d
 split at d
 ·rename_i b s
  obtain⟨u,d⟩:=uc d
  obtain⟨p,q,rfl,rfl,l⟩:=Aba S n s u hx f
  split at d
  ·refine⟨_,.bool b,d,?_,by rw[Rep]⟩
   simp[eqGuard,binOp,l]
  ·refine⟨_,.bool (!b),d,?_,by rw[Rep]⟩
   simp[eqGuard,binOp,l]
  ·cases d
 ·exact Aa9 d hx f ox oy
end
end Gx
namespace Gx
open Go Go.MapKept
section
variable {R:Type} {r:R} {P:Program} {J:Bool→Nat→Prop} {β:Cu} {h:A1} {w:World} {g:Bk}
theorem kV:∀ (l:List Int) (n:Int),qq (l.map fun m=>.int .i64 m) n=true↔n ∈ l
 | [],n=>by simp[qq]
 | m::r,n=>by
  rw[A1r,qq]
  by_cases e:n=m
  ·simp[e]
  ·simp[e,kV r n]
theorem Abc {c:LA} {es:Array MapEntry} {l:List Int} (k:es.toList.map (fun e=>(e.key,e.val))=l.map (fun n=>((.int .i64 n:Value),(.bool true:Value)))) {x:MapEntry} (hx:x ∈ es.toList):∃ n,n ∈ l∧x.key=.int .i64 n∧x.val=.bool true:=by
 have:=A2g (f:=fun e:MapEntry=>(e.key,e.val)) hx
 rw[k] at this
 obtain⟨n,hn,d⟩:=A1y.1 this
 simp at d
 exact⟨n,hn,d.1.symm,d.2.symm⟩
theorem Anl {es:Array MapEntry} {l:List Int} (k:es.toList.map (fun e=>(e.key,e.val))=l.map (fun n=>((.int .i64 n:Value),(.bool true:Value)))) {n:Int} (hn:n ∈ l):∃ x ∈ es.toList,x.key=.int .i64 n:=by
 have:=A2g (f:=fun n:Int=>((.int .i64 n:Value),(.bool true:Value))) hn
 rw[←k] at this
 obtain⟨x,hx,d⟩:=A1y.1 this
 simp at d
 exact⟨x,hx,d.1⟩
theorem Abd {c:LA} {es:Array MapEntry} (C:Atv c es) (n:Int) :
  (qq c n=false∧Instr.findNow (.int .i64) (.int .i64 n) es.toList 0=some none) ∨
  (qq c n=true∧∃ j e,Instr.findNow (.int .i64) (.int .i64 n) es.toList 0=some (some (j,.bool true))∧es[j]?=some e∧e.key=.int .i64 n∧e.val=.bool true):=by
 obtain⟨l,rfl,v⟩:=C
 have y:∀ x ∈ es.toList,IsKey (.int .i64) x.key:=fun x hx=>by
  obtain⟨m,_,q,_⟩:=Abc (c:=[]) v hx
  rw[q];simp[IsKey]
 rcases findNow_spec (d:=.int .i64) (k:=.int .i64 n) (by simp[IsKey]) es.toList 0 y with⟨q,u⟩ | ⟨j,e,q,u,A⟩
 ·left
  refine⟨?_,q⟩
  cases D:qq (l.map fun m=>.int .i64 m) n with
  | false=>rfl
  | true =>
   obtain⟨x,hx,F⟩:=Anl v ((kV l n).1 D)
   exact absurd F (u x hx)
 ·right
  have s:e ∈ es.toList:=A4u u
  obtain⟨m,z,f,t⟩:=Abc (c:=[]) v s
  rw[A] at f;simp at f;subst f
  refine⟨(kV l n).2 z,j,e,?_,by simpa using u,A,t⟩
  rw[q,t,A1w]
theorem rC {t:TypeId} (hs:xt P t=true):∃ kt et,P.underlying t=some (.map kt et)∧P.underlying kt=some (.int .i64)∧∀ w,(zeroValue et).run P w=.ok (.bool false) w:=by
 unfold xt at hs
 split at hs
 ·rename_i kt et q
  simp only[A1f] at hs
  obtain⟨k,l⟩:=hs
  refine⟨kt,et,q,?_,fun w=>?_⟩
  ·split at k
   ·assumption
   ·cases k
  ·split at l
   ·rename_i d
    unfold ql at d
    cases hi:P.info? et with
    | none=>rw[hi] at d;simp at d
    | some i =>
     rw[hi] at d
     cases f:i.zero with
     | none=>simp[f] at d
     | some z =>
      simp[f] at d
      have:z=.bool false:=by
       have n:=OY (J:=fun _ _=>False) (β:=fun _=>none) (h:=[]) (w:=w) z
       rw[d,Rep] at n;exact n
      subst this
      simp[zeroValue,typeInfo,hi,f]
   ·cases l
 ·cases hs
theorem Anm {b:Nat} {x:Blk} {v:Value} (S:SimH J β h w) (l:Ak h b=some x) (n:x.dead=false) (hr:Rep J β h w (.omap b) v) :
  ∃ k ob,x.mp=true∧β b=some (k,0)∧v=Avo x.sz k∧w.heap[k]?=some ob∧ObjIs x ob∧x.sealed=false∧x.pure=true:=by
 rw[Rep] at hr
 obtain⟨y,k,⟨d,q⟩,hr⟩:=hr
 rw[l] at d;simp at d;subst d
 rcases hr with hr | ⟨s,t⟩
 ·simp[n] at hr
 ·obtain⟨u,z,D,ob,f,A,C,_⟩:=S.mblk b x l n q
  rw[s] at f;simp at f;subst f
  exact⟨k,ob,q,s,t,A,C,z,u⟩
theorem Ait {b:Nat} {x:Blk} {v:Value} (S:SimH J β h w) (l:Ak h b=some x) (n:x.dead=false) (q:x.sz=0) (hr:Rep J β h w (.omap b) v) :
  ∃ k es clk,x.mp=true∧β b=some (k,0)∧v=.map (some k)∧w.heap[k]?=some (.map es clk)∧Atv x.cells es∧x.sealed=false∧x.pure=true:=by
 obtain⟨k,ob,s,t,f,u,d,y,z⟩:=Anm S l n hr
 rw[q] at f
 rcases d with⟨_,es,clk,rfl,d⟩ | ⟨d,_⟩
 ·exact⟨k,es,clk,s,t,f,u,d,y,z⟩
 ·omega
theorem Aq3 {b:Nat} {x:Blk} {v:Value} (S:SimH J β h w) (l:Ak h b=some x) (n:x.dead=false) (q:x.sz=1) (hr:Rep J β h w (.omap b) v) :
  ∃ k s pos,x.mp=true∧β b=some (k,0)∧v=.pointer (some ⟨k,0,none⟩)∧w.heap[k]?=some (.stringIter ⟨⟨s⟩⟩ pos)∧x.cells=[.str s,.int .i64 (pos:Int)]∧x.sealed=false∧x.pure=true:=by
 obtain⟨k,ob,t,u,f,y,d,z,A⟩:=Anm S l n hr
 rw[q] at f
 rcases d with⟨d,_⟩ | ⟨_,s,pos,rfl,d⟩
 ·omega
 ·exact⟨k,s,pos,t,u,f,y,d,z,A⟩
theorem SL {k pos:Nat} {s:ByteArray} (d:w.heap[k]?=some (.stringIter s pos)):(getObj k).run P w=.ok (.stringIter s pos) w:=by
 simp[getObj,Sem.run,d]
theorem pG {k pos:Nat} {s:ByteArray} (ob:Obj) (d:w.heap[k]?=some (.stringIter s pos)):(setObj k ob).run P w=.ok () { w with heap:=w.heap.setIfInBounds k ob }:=by
 simp[setObj,Sem.run,d]
theorem yT {d:Nat} {t:TypeId} {x:AV} {vx:Value} {k:AV→Ez→O R} (S:SimH J β h w) (f:kM P d t x k=some r) (hx:Rep J β h w x vx) :
  ∃ val ups,k val ups=some r∧(UpsFree d h ups→∃ vc w',(Instr.range t vx).run P w=.ok vc w'∧OpDone J β h w ups val vc w'):=by
 unfold kM at f
 split at f
 ·rename_i s l
  rw[Rep] at hx;subst hx
  refine⟨_,_,f,fun n=>⟨.pointer (some ⟨w.heap.size,0,none⟩),w.alloc (.stringIter ⟨⟨s⟩⟩ 0),?_,?_⟩⟩
  ·simp only[Instr.range,Sem.run_bind,run_underlying l,Result.andThen_ok,Sem.run_pure];rfl
  have A:=Step.newObj (x:={ dead:=false,sealed:=false,pure:=true,taint:=false,sz:=1,cells:=[.str s,.int .i64 0],mp:=true }) (ob:=.stringIter ⟨⟨s⟩⟩ 0) S (n.nid (by simp[Bg])) rfl rfl rfl (.inr ⟨rfl,s,0,rfl,rfl⟩) rfl
  refine⟨_,_,A,?_⟩
  rw[Rep]
  exact⟨{ dead:=false,sealed:=false,pure:=true,taint:=false,sz:=1,cells:=[.str s,.int .i64 0],mp:=true },w.heap.size,⟨by simp[Al,Af],rfl⟩,.inr ⟨by simp,rfl⟩⟩
 ·simp at f
theorem Abe {d:Nat} {t:TypeId} {it:AV} {b:Bool} {vi:Value} {k:AV→Ez→O R} (S:SimH J β h w) (M:Looks g h) (v:wN g it b k=some r) (hi:Rep J β h w it vi) :
  ∃ val ups,k val ups=some r∧(UpsFree d h ups→∃ vc w',(Instr.next vi b t).run P w=.ok vc w'∧OpDone J β h w ups val vc w'):=by
 unfold wN at v
 split at v
 ·rename_i T
  obtain⟨x,hx,U⟩:=ub v
  obtain⟨G,n⟩:=uc U
  simp only[A1f] at G
  obtain⟨q,y⟩:=G
  have y:=A1n y
  obtain⟨I,z⟩:=D3 M hx
  obtain⟨kk,s,pos,_,V,rfl,u,A,C,D⟩:=Aq3 S I z y hi
  rw[A] at n
  simp only at n
  have F:=O_ u
  cases f:decide ((pos:Int)<(s.length:Int)) with
  | true =>
   rw[f] at n
   have f:pos<s.length:=by have:=of_decide_eq_true f;omega
   have l:pos<(⟨⟨s⟩⟩:ByteArray).size:=f
   refine⟨_,_,n,fun _=>⟨.tuple #[.bool true,goInt pos,.int .i32 ((BM s pos).1:Nat)],{ w with heap:=w.heap.setIfInBounds kk (.stringIter ⟨⟨s⟩⟩ (pos+(BM s pos).2)) },?_,J,β,?_,?_⟩⟩
   ·simp[Instr.next,SL u,l,pG _ u,BM]
   ·show Step J β h w J β (Gq h T _) _
    refine Step.setObj (ob:=.stringIter ⟨⟨s⟩⟩ pos) S I z q V u (by simp[F]) (fun j X=>by simp[A4w,Ne.symm X]) (by simp) rfl rfl rfl (.inr ⟨y,s,pos+(BM s pos).2,rfl,by simp⟩) z C D rfl q
   ·rw[Rep]
    refine⟨_,rfl,?_⟩
    simp[Reps,Rep,goInt]
  | false =>
   rw[f] at n
   have f:¬ pos<s.length:=by have:=of_decide_eq_false f;omega
   have l:¬ pos<(⟨⟨s⟩⟩:ByteArray).size:=f
   refine⟨_,_,n,fun _=>⟨.tuple #[.bool false],w,?_,J,β,Step.refl S,?_⟩⟩
   ·simp[Instr.next,SL u,l]
   ·rw[Rep]
    refine⟨_,rfl,?_⟩
    simp[Reps,Rep]
 ·simp at v
theorem rD {d:Nat} {t:TypeId} {k:AV→Ez→O R} (S:SimH J β h w) (f:ES d none k=some r) :
  ∃ val ups,k val ups=some r∧(UpsFree d h ups→∃ vc w',(Instr.makeMap t none).run P w=.ok vc w'∧OpDone J β h w ups val vc w'):=by
 unfold ES at f
 refine⟨_,_,f,fun l=>⟨.map (some w.heap.size),w.alloc (.map #[] 0),rfl,?_⟩⟩
 have A:=Step.newObj (x:={ dead:=false,sealed:=false,pure:=true,taint:=false,sz:=0,cells:=[],mp:=true }) (ob:=.map #[] 0) S (l.nid (by simp[Bg])) rfl rfl rfl (.inl ⟨rfl,#[],0,rfl,[],rfl,by simp⟩) rfl
 refine⟨_,_,A,?_⟩
 rw[Rep]
 exact⟨{ dead:=false,sealed:=false,pure:=true,taint:=false,sz:=0,cells:=[],mp:=true },w.heap.size,⟨by simp[Al,Af],rfl⟩,.inr ⟨by simp,rfl⟩⟩
theorem Abf {t:TypeId} {m key:AV} {c:Bool} {vm vk:Value} {k:AV→O R} (S:SimH J β h w) (z:Looks g h) (q:wL P g t m key c k=some r) (A:Rep J β h w m vm) (f:Rep J β h w key vk) :
  ∃ v vc,k v=some r∧(Instr.lookup t vm vk c).run P w=.ok vc w∧Rep J β h w v vc:=by
 unfold wL at q
 split at q
 ·rename_i b n
  obtain⟨hs,C⟩:=uc q
  obtain⟨x,hx,D⟩:=ub C
  obtain⟨d,F⟩:=uc D
  simp only[A1f] at d
  obtain⟨d,s⟩:=d
  have s:=A1n s
  obtain⟨G,I⟩:=D3 z hx
  rw[Rep] at f;subst f
  obtain⟨kk,es,clk,_,M,rfl,f,hr,_,_⟩:=Ait S G I s A
  obtain⟨kt,et,u1,u2,u3⟩:=rC hs
  refine⟨_,.bool (qq x.cells n),F,?_,by rw[Rep]⟩
  have l:IsKey (.int .i64) (.int .i64 n):=by simp[IsKey]
  rcases Abd hr n with⟨u,y⟩ | ⟨u,j,e,y,_,_,_⟩
  ·rw[u]
   simp[Instr.lookup,run_underlying u1,run_getObj_map f,run_checkKey u2 l,run_findKey u2 y,u3,Result.andThen]
  ·rw[u]
   simp[Instr.lookup,run_underlying u1,run_getObj_map f,run_checkKey u2 l,run_findKey u2 y,Result.andThen]
 ·simp at q
theorem yU {t:TypeId} {m key val:AV} {vm vk vv:Value} {k:AV→Ez→O R} (S:SimH J β h w) (Y:Looks g h) (C:kL P g t m key val k=some r) (hm:Rep J β h w m vm) (f:Rep J β h w key vk) (T:Rep J β h w val vv) :
  ∃ ups,k .undef ups=some r∧∃ J' β' w',(Instr.mapUpdate t vm vk vv).run P w=.ok () w'∧Step J β h w J' β' (Al ups h) w':=by
 unfold kL at C
 split at C
 ·rename_i b n
  obtain⟨hs,h1⟩:=uc C
  obtain⟨x,hx,h2⟩:=ub h1
  obtain⟨d,h3⟩:=uc h2
  simp only[A1f] at d
  obtain⟨d,v⟩:=d
  have v:=A1n v
  obtain⟨D,y⟩:=D3 Y hx
  simp only[Rep] at f T;subst f T
  obtain⟨kk,es,clk,_,U,rfl,f,hr,z,A⟩:=Ait S D y v hm
  obtain⟨kt,et,u1,u2,u3⟩:=rC hs
  have q:IsKey (.int .i64) (.int .i64 n):=by simp[IsKey]
  have hlt:=O_ f
  refine⟨_,h3,J,β,?_⟩
  rcases Abd hr n with⟨F,G⟩ | ⟨F,j,e,G,V,X,g5⟩
  ·refine⟨{ w with heap:=w.heap.setIfInBounds kk (.map (es.push { key:=.int .i64 n,val:=.bool true,born:=clk }) (clk+1)) },?_,?_⟩
   ·simp[Instr.mapUpdate,run_underlying u1,run_getObj_map f,run_checkKey u2 q,run_findKey u2 G,run_setObj_map _ f,Result.andThen]
   ·refine Step.setObj S D y d U f (heap_set f).1 (fun j I=>(heap_set f).2 j I) (by simp) rfl rfl rfl (.inl ⟨v,_,_,rfl,?_⟩) y z A rfl d
    obtain⟨l,s,u⟩:=hr
    refine⟨l++[n],?_,?_⟩
    ·show Ana x.cells n=_
     unfold Ana;rw[F,s];simp
    ·simp[u]
  ·refine⟨{ w with heap:=w.heap.setIfInBounds kk (.map (es.modify j fun e=>{ e with key:=.int .i64 n,val:=.bool true }) clk) },?_,?_⟩
   ·simp[Instr.mapUpdate,run_underlying u1,run_getObj_map f,run_checkKey u2 q,run_findKey u2 G,V,X,run_keyThatStays q,run_setObj_map _ f,Result.andThen]
   ·refine Step.setObj S D y d U f (heap_set f).1 (fun j I=>(heap_set f).2 j I) (by simp) rfl rfl rfl (.inl ⟨v,_,_,rfl,?_⟩) y z A rfl d
    obtain⟨l,s,u⟩:=hr
    refine⟨l,?_,?_⟩
    ·show Ana x.cells n=_
     unfold Ana;rw[F,s];rfl
    ·have:es.modify j (fun e=>{ e with key:=.int .i64 n,val:=.bool true })=es:=by
      apply Array.ext_getElem?
      intro i
      rw[A3h]
      split
      ·rename_i M;subst M
       rw[V];simp;rw[←X,←g5]
      ·rfl
     rw[this];exact u
 ·simp at C
end
end Gx
namespace Gx
open Go
def fA (E:Env):Prop:=∀ (R:Type) (r:R) (k:AV→Ez→O R) (J:Bool→Nat→Prop) (β:Cu) (h:A1) (w:World) (g:Bk) (d f:Nat) (args:LA) (vs:List Value),
 SimH J β h w→Looks g h→wQ E g d f args k=some r→Reps J β h w args vs →
 ∃ val ups,k val ups=some r∧(UpsFree d h ups→Calls E.P f vs.toArray w fun e w'=>∃ vc,e=.returned vc∧OpDone J β h w ups val vc w')
section
variable {R:Type} {r:R} {P:Program} {J J':Bool→Nat→Prop} {β:Cu} {h:A1} {w w':World} {g:Bk} {o:Oper} {a:Act} {next:Act→World→Prop} {Q:Exit→Act→World→Prop}
theorem G5 {vc:Value} (d:(execOp a.eval o).run P w=.ok (.value vc) w') (hn:next (a.put o.dst vc) w'):o.wp P a w next Q:=by
 unfold Oper.wp;rw[d];exact hn
theorem Abg (d:(execOp a.eval o).run P w=.ok .skip w') (hn:next (a.put o.dst undef) w'):o.wp P a w next Q:=by
 unfold Oper.wp;rw[d];exact hn
theorem OpDone.same (S:SimH J β h w) {v:AV} {vc:Value} (d:Rep J β h w v vc):OpDone J β h w [] v vc w:=⟨J,β,Step.refl S,d⟩
theorem rE {s:Ik} (SS:SimS J β h w s a.tmps):∀ (xs:List Operand),Reps J β h w (xs.map (ev s)) (xs.map a.eval)
 | []=>by simp[Reps]
 | x::r=>by rw[A1r,A1r,Reps];exact⟨_,_,rfl,Bj SS x,rE SS r⟩
theorem U2 {s:Ik} (SS:SimS J β h w s a.tmps):∀ (ps:List (Nat×Operand)),RepParts J β h w (ps.map fun p=>(p.1,ev s p.2)) (ps.map fun p=>(p.1,a.eval p.2))
 | []=>by simp[RepParts]
 | p::r=>by rw[A1r,A1r,RepParts];exact⟨_,_,rfl,Bj SS p.2,U2 SS r⟩
theorem rF {s:Ik} (SS:SimS J β h w s a.tmps) (x:Option Operand):BO J β h w (x.map (ev s)) (x.map a.eval):=by
 cases x with
 | none=>simp[BO]
 | some x=>simp[BO];exact Bj SS x
theorem Reps.append:∀ {c k:LA} {cs d:List Value},Reps J β h w c cs→Reps J β h w k d→Reps J β h w (c++k) (cs++d)
 | [],k,cs,d,f,l=>by rw[Reps] at f;subst f;exact l
 | x::r,k,cs,d,f,l=>by
  rw[Reps] at f
  obtain⟨u,us,rfl,n,q⟩:=f
  rw[A1o,A1o,Reps]
  exact⟨u,us++d,rfl,n,Reps.append q l⟩
theorem Abh {J:Nat→Prop}:∀ {c:LA} {cs:List Value},A2 c=true→Reps (fun _ _=>False) (fun _=>none) [] w c cs→RepCs J w c (fun j=>cs[j]?) 0∧cs.length=c.length:=by
 intro c cs n hr
 rw[Cv] at hr
 refine⟨?_,hr.1⟩
 rw[Cb]
 intro j x f
 have d:j<cs.length:=by rw[hr.1];exact(A1s.1 f).1
 refine⟨cs[j],by simp[d],?_⟩
 have k:=hr.2 j x cs[j] f (A1g d)
 have q:A2 [x]=true:=by
  clear hr k d
  induction c generalizing j with
  | nil=>simp at f
  | cons y r s =>
   have l:A2 r=true:=by unfold A2 at n;split at n<;>simp_all
   cases j with
   | zero=>simp at f;subst f;cases y<;>simp_all[A2]
   | succ j=>exact s l j (by simpa using f)
 cases x<;>simp[A2] at q<;>(rw[Rep] at k;rw[RepC];exact k)
theorem Akl {co:Bool} {v:AV} {vv:Value} (d:∀ (J:Bool→Nat→Prop) (β:Cu) (h:A1),Rep J β h w v vv):Rep J β h w (Am7 co v) vv:=by
 unfold Am7
 split
 ·rename_i c
  cases k:A2 c with
  | false=>exact d J β h
  | true =>
   have f:=d (fun _ _=>False) (fun _=>none) []
   rw[Rep] at f
   obtain⟨cs,rfl,l⟩:=f
   obtain⟨n,q⟩:=Abh (J:=J false) k l
   rw[cond_true,Rep]
   exact⟨cs,rfl,q,n⟩
 ·exact d J β h
theorem fB {d:Nat}:∀ {l:List (Nat×Nat)} {j:Nat} {c:LA},1≤j→Bg (Hz d l j c).2 (nid d)=false
 | [],_,_,_=>by simp[Hz,Bg]
 | (o,sz)::l,j,c,f=>by
  rw[Hz]
  split
  ·simp only[Bg]
   rw[TW (by omega),cond_false]
   exact fB (by omega)
  ·exact fB (by omega)
theorem u9 {d:Nat} {t:TypeId} {k:AV→Ez→O R} (S:SimH J β h w) (x:ZC P g d t k=some r) :
  ∃ v val ups,(∃ i,P.info? t=some i∧i.zero=some v)∧k val ups=some r∧(UpsFree d h ups→∃ vc w',(Instr.box t v).run P w=.ok vc w'∧OpDone J β h w ups val vc w'):=by
 unfold ZC at x
 split at x
 ·rename_i c q
  obtain⟨F,T⟩:=uc x
  simp only[A1f] at F
  obtain⟨U,z⟩:=F
  obtain⟨v,V,X⟩:∃ v,(∃ i,P.info? t=some i∧i.zero=some v)∧jz v=.agg c:=by
   unfold ql at q
   cases hi:P.info? t with
   | none=>simp[hi] at q
   | some i =>
    cases n:i.zero with
    | none=>simp[hi,n] at q
    | some v=>simp[hi,n] at q;exact⟨v,⟨i,rfl,n⟩,q⟩
  have hr:=OY (J:=J) (β:=β) (h:=h) (w:=w) v
  rw[X,Rep] at hr
  obtain⟨cs,rfl,hr⟩:=hr
  refine⟨_,_,_,V,T,fun G=>⟨_,_,PA,?_⟩⟩
  have hn:=G.nid (by simp[Jq,Uz,Bg])
  obtain⟨β',A,hA⟩:=Y0 (d:=d) (l:=U0 P t) (j:=1) S (A1h _) (by simp at U;omega) (fun i hi Y C=>G _ (by rw[Jq,C];rfl) (by unfold MC;simp;omega)) hr
  have D:Ak (Al (Hz d (U0 P t) 1 c).2 h) (nid d)=none:=by rw[Cy _ _ _ (fB (A1h _))];exact hn
  have s:∀ (j:Nat) u,cs[j]?=some u→u.oneCell'=true:=fun j u I=>by
   rw[Cv] at hr
   have f:j<c.length:=by rw[←hr.1];exact(A1s.1 I).1
   exact Q8 (DJ z j c[j] (A1g f)) (hr.2 j c[j] u (A1g f) I)
  rw[Cv] at hA
  refine OpDone.after A (ZI A.sim D rfl rfl (by simp[Value.cells,hA.1]) ⟨fun hp=>by simp at hp,fun _ j y M=>?_⟩) (Tx _ _)
  have f:j<cs.length:=by rw[hA.1];exact(A1s.1 M).1
  exact⟨cs[j],by simp[Value.cells,f],hA.2 j y _ M (A1g f),s j _ (A1g f)⟩
 ·simp at x
theorem yV {co:Bool} {d:Nat} {t:TypeId} {k:AV→Ez→O R} (S:SimH J β h w) (I:Looks g h) (l:kG P g co d t k=some r) :
  ∃ v val ups,(∃ i,P.info? t=some i∧i.zero=some v)∧k val ups=some r∧(UpsFree d h ups→∃ vc w',(Instr.box t v).run P w=.ok vc w'∧OpDone J β h w ups val vc w'):=by
 have zv:∀ {z:AV},ql P t=some z→∃ v,(∃ i,P.info? t=some i∧i.zero=some v)∧jz v=z:=by
  intro z f
  unfold ql at f
  cases hi:P.info? t with
  | none=>simp[hi] at f
  | some i =>
   cases n:i.zero with
   | none=>simp[hi,n] at f
   | some v=>simp[hi,n] at f;exact⟨v,⟨i,rfl,n⟩,f⟩
 unfold kG at l
 split at l
 ·rename_i U V f
  obtain⟨v,q,s⟩:=zv f
  obtain⟨sz,hs,l⟩:=ub l
  refine⟨v,_,_,q,l,fun G=>⟨_,_,PA,?_⟩⟩
  have hr:=OY (J:=J) (β:=β) (h:=h) (w:=w) v
  rw[s,Rep] at hr;subst hr
  have u:∀ b,b=nid d+1→MC d b=true:=fun b M=>by subst M;unfold MC nid;simp
  have C:Ak h (nid d+1)=none:=G _ (by simp[Bg]) (u _ rfl)
  have D:Ak h (nid d)=none:=G.nid (by simp[Bg])
  have A:=Step.newNone S (d:=nid d+1) (x:=Ht sz) C rfl
  have e:([(nid d+1,some (Ht sz)),(nid d,some { dead:=false,sealed:=false,pure:=false,taint:=false,sz:=0,cells:=[.own (nid d+1) 0 0] })]:Ez)=[(nid d+1,some (Ht sz))]++[(nid d,some { dead:=false,sealed:=false,pure:=false,taint:=false,sz:=0,cells:=[.own (nid d+1) 0 0] })]:=rfl
  rw[e]
  refine OpDone.after A (ZI A.sim ?_ rfl rfl (by simp[Value.cells]) ⟨fun T=>by simp at T,fun _ j y F=>?_⟩) (Tx _ _)
  ·simp only[Al];rw[Af,if_neg (by omega)];exact D
  ·cases j with
   | zero =>
    simp at F;subst F
    refine⟨.slice none 0 0,by simp[Value.cells],?_,rfl⟩
    rw[Rep]
    exact⟨Ht sz,none,0,⟨by simp[Al,Af],rfl⟩,rfl,A1h _,.inl rfl⟩
   | succ j=>simp at F
 ·rename_i z f _
  obtain⟨v,q,s⟩:=zv f
  obtain⟨val,ups,C,D⟩:=qw S I l (vv:=v) (Akl fun J β h=>by rw[←s];exact OY v)
  exact⟨v,val,ups,q,C,D⟩
 ·simp at l
theorem Abi {c x y:AV} {vc vx vy:Value} {k:AV→O R} (d:wR c x y k=some r) (f:Rep J β h w c vc) (hx:Rep J β h w x vx) (l:Rep J β h w y vy) :
  ∃ v,k v=some r∧∃ t:Bool,vc=.bool t∧Rep J β h w v (if t then vx else vy):=by
 unfold wR at d
 split at d
 ·rename_i t a b
  rw[Rep] at f hx l
  subst f hx l
  exact⟨_,d,t,rfl,by cases t<;>simp[Rep]⟩
 ·rename_i t x _
  rw[Rep] at f;subst f
  obtain⟨n,q⟩:=uc d
  subst n
  exact⟨_,q,true,rfl,hx⟩
 ·rename_i t _ _ _
  rw[Rep] at f;subst f
  obtain⟨n,q⟩:=Afe d
  subst n
  exact⟨_,q,false,rfl,l⟩
 ·rename_i t _ _ _
  rw[Rep] at f;subst f
  cases t
  ·exact⟨_,d,false,rfl,l⟩
  ·exact⟨_,d,true,rfl,hx⟩
 ·simp at d
theorem Afm {E:Env} (hC:fA E) {d:Nat} {s:Ik} {k:AV→Ez→O R} (S:SimH J β h w) (SS:SimS J β h w s a.tmps) (X:Looks g h)
  (A:u4 E g d (ev s) o.op k=some r) :
  ∃ val ups,k val ups=some r∧(UpsFree d h ups→(∀ vc w',OpDone J β h w ups val vc w'→next (a.put o.dst vc) w')→o.wp E.P a w next Q):=by
 unfold u4 at A
 have same:∀ {v:AV} {vc:Value},k v []=some r→(execOp a.eval o).run E.P w=.ok (.value vc) w→Rep J β h w v vc →
   ∃ val ups,k val ups=some r∧(UpsFree d h ups→(∀ vc w',OpDone J β h w ups val vc w'→next (a.put o.dst vc) w')→o.wp E.P a w next Q) :=
  fun hk hrun hr=>⟨_,_,hk,fun _ hn=>G5 hrun (hn _ _ (OpDone.same S hr))⟩
 split at A
 ·rename_i x G
  exact same A (by simp[execOp,G]) (Bj SS x)
 ·rename_i x G
  exact same A (by simp[execOp,G]) (Bj SS x)
 ·rename_i c x y G
  obtain⟨v,C,D⟩:=Abi A (Bj SS c) (Bj SS x) (Bj SS y)
  obtain⟨t,ht,hr⟩:=D
  refine same C (vc:=if t then a.eval x else a.eval y) ?_ hr
  cases t<;>simp[execOp,G,ht,Go.asBool]
 ·rename_i t G
  obtain⟨v,val,ups,h0,C,D⟩:∃ v val ups,(∃ i,E.P.info? t=some i∧i.zero=some v)∧k val ups=some r∧(UpsFree d h ups→∃ vc w',(Instr.box t v).run E.P w=.ok vc w'∧OpDone J β h w ups val vc w'):=by
   cases hm:Jh E.cob (d+1000000) with
   | true=>rw[hm] at A;exact u9 S A
   | false=>rw[hm] at A;exact yV S X A
  refine⟨val,ups,C,fun V hn=>?_⟩
  obtain⟨vc,w',F,I⟩:=D V
  refine G5 ?_ (hn vc w' I)
  rw[PA] at F
  simp only[Result.ok.injEq] at F
  obtain⟨rfl,rfl⟩:=F
  obtain⟨i,hi,hiz⟩:=h0
  simp[execOp,G,Instr.alloc,zeroValue,typeInfo,hi,hiz,newVar,newRow]
 ·rename_i t x G
  obtain⟨v',h0,hv'⟩:=yL A (Bj SS x)
  obtain⟨val,ups,C,D⟩:=qw S X h0 hv'
  refine⟨val,ups,C,fun V hn=>?_⟩
  obtain⟨vc,w',F,I⟩:=D V
  exact G5 (by simp[execOp,G,F]) (hn vc w' I)
 ·rename_i t parts G
  have:(parts.map fun p=>(p.1,a.eval p.2))=(parts.toList.map fun p=>(p.1,a.eval p.2)).toArray:=by apply A26;simp
  cases hco:Jh E.cob (d+4000000) with
  | true =>
   rw[hco] at A
   obtain⟨val,ups,u,C,D,F⟩:=u7 S X A (U2 SS parts.toList)
   exact⟨val,ups,C,fun _ hn=>G5 (by simp[execOp,G,this,D]) (hn _ _ F)⟩
  | false =>
  rw[hco,cond_false,ey] at A
  obtain⟨v,U,A⟩:=ub A
  obtain⟨u,C,D⟩:=yS (P:=E.P) S U (U2 SS parts.toList)
  obtain⟨val,ups,F,I⟩:=Afj S A D
  refine⟨val,ups,F,fun V hn=>G5 ?_ (hn _ _ (I V))⟩
  simp[execOp,G,this,C]
 ·rename_i t len parts G
  have:(parts.map fun p=>(p.1,a.eval p.2))=(parts.toList.map fun p=>(p.1,a.eval p.2)).toArray:=by apply A26;simp
  cases hhard:(parts.toList.map fun p=>(p.1,ev s p.2)).any fun p=>Am8 p.2 with
  | true =>
   rw[hhard] at A
   obtain⟨val,ups,C,D⟩:=kU S A (U2 SS parts.toList)
   refine⟨val,ups,C,fun V hn=>?_⟩
   obtain⟨vc,w',F,I⟩:=D V
   exact G5 (by simp[execOp,G,this,F]) (hn vc w' I)
  | false =>
   rw[hhard] at A
   obtain⟨val,ups,C,D⟩:=gd S X A (U2 SS parts.toList)
   refine⟨val,ups,C,fun V hn=>?_⟩
   obtain⟨vc,w',F,I⟩:=D V
   exact G5 (by simp[execOp,G,this,F]) (hn vc w' I)
 ·rename_i t p G
  obtain⟨v,vc,C,D,F⟩:=mm S X A (Bj SS p)
  exact same C (by simp[execOp,G,D]) F
 ·rename_i t p x G
  obtain⟨val,ups,C,J',β',w',D,F,rfl⟩:=yK S X A (Bj SS p) (Bj SS x)
  exact⟨.undef,ups,C,fun _ hn=>Abg (w':=w') (by simp[execOp,G,D]) (hn undef w' ⟨J',β',F,by simp[Rep]⟩)⟩
 ·rename_i x G
  have C:=Bj SS x
  split at A
  ·rename_i c oo hx
   rw[hx] at C
   refine same A (vc:=a.eval x) ?_ C
   rw[Rep,RepC] at C
   obtain⟨ad,D,_⟩:=C
   simp[execOp,G,D]
  ·rename_i b oo hx
   rw[hx] at C
   refine same A (vc:=a.eval x) ?_ C
   rw[Rep] at C
   obtain⟨_,kk,o',_,D,_⟩:=C
   simp[execOp,G,D]
  ·simp at A
 ·rename_i op t x y t2 G
  obtain⟨v,vc,C,D,F⟩:=Abb S X A (Bj SS x) (Bj SS y) x y
  refine same C ?_ F
  simp only[execOp,G]
  rw[Sem.run_bind,D];simp
 ·rename_i op t x G
  obtain⟨v,U,A⟩:=ub A
  obtain⟨vc,D,F⟩:=Akh (P:=E.P) U (Bj SS x)
  exact same A (by simp[execOp,G,D]) F
 ·rename_i src dst x G
  obtain⟨val,ups,C,D⟩:=yQ S X A (Bj SS x)
  refine⟨val,ups,C,fun V hn=>?_⟩
  obtain⟨vc,w',F,I⟩:=D V
  exact G5 (by simp[execOp,G,F]) (hn vc w' I)
 ·rename_i f first caps G
  obtain⟨V,A⟩:=uc A
  have hf':f<1000000:=by simpa using V
  have key:∀ (a n:Nat),a<1000000→(a+1000000*n)%1000000=a∧(a+1000000*n)/1000000=n:=by intro a n h;omega
  have e1:=(key f first.toList.length hf').1
  have e2:=(key f first.toList.length hf').2
  refine same (vc:=.func (.func f) ⟨first.toList.map a.eval⟩ ⟨caps.toList.map a.eval⟩) A ?_ ?_
  ·simp only[execOp,G,Instr.makeFunc]
   simp
   refine⟨?_,?_⟩<;>(apply A26;simp)
  ·rw[Rep,e1,e2]
   refine⟨(first.toList++caps.toList).map a.eval,?_,rE SS _⟩
   simp
 ·rename_i t l c G
  obtain⟨val,ups,C,D⟩:=Aa3 S A (Bj SS l) (Bj SS c)
  refine⟨val,ups,C,fun V hn=>?_⟩
  obtain⟨vc,w',F,I⟩:=D V
  exact G5 (by simp[execOp,G,F]) (hn vc w' I)
 ·rename_i t x lo hi mx G
  obtain⟨v,vc,C,D,F⟩:=yJ S X A (Bj SS x) (rF SS lo) (rF SS hi) (rF SS mx)
  exact same C (by simp[execOp,G,D]) F
 ·rename_i t x f G
  obtain⟨v,vc,C,D,F⟩:=kR A (Bj SS x)
  exact same C (by simp[execOp,G,D]) F
 ·rename_i t x f G
  obtain⟨v,vc,C,D,F⟩:=yH A (Bj SS x)
  exact same C (by simp[execOp,G,D]) F
 ·rename_i t x i G
  obtain⟨v,vc,C,D,F⟩:=kQ A (Bj SS x) (Bj SS i)
  exact same C (by simp[execOp,G,D]) F
 ·rename_i t x i G
  obtain⟨v,vc,C,D,F⟩:=yI A (Bj SS x) (Bj SS i)
  exact same C (by simp[execOp,G,D]) F
 ·rename_i t rr G
  cases rr with
  | some x=>simp[ES] at A
  | none =>
   obtain⟨val,ups,C,D⟩:=rD (P:=E.P) (t:=t) S A
   refine⟨val,ups,C,fun V hn=>?_⟩
   obtain⟨vc,w',F,I⟩:=D V
   exact G5 (by simp[execOp,G,F]) (hn vc w' I)
 ·rename_i t m x y G
  obtain⟨ups,C,J',β',w',D,F⟩:=yU S X A (Bj SS m) (Bj SS x) (Bj SS y)
  exact⟨.undef,ups,C,fun _ hn=>Abg (w':=w') (by simp[execOp,G,D]) (hn undef w' ⟨J',β',F,by simp[Rep]⟩)⟩
 ·rename_i t m x c G
  obtain⟨v,vc,C,D,F⟩:=Abf S X A (Bj SS m) (Bj SS x)
  exact same C (by simp[execOp,G,D]) F
 ·rename_i t x G
  obtain⟨val,ups,C,D⟩:=yT (P:=E.P) S A (Bj SS x)
  refine⟨val,ups,C,fun V hn=>?_⟩
  obtain⟨vc,w',F,I⟩:=D V
  exact G5 (by simp[execOp,G,F]) (hn vc w' I)
 ·rename_i x b G
  obtain⟨val,ups,C,D⟩:=Abe (P:=E.P) (d:=d) (t:=o.type) S X A (Bj SS x)
  refine⟨val,ups,C,fun V hn=>?_⟩
  obtain⟨vc,w',F,I⟩:=D V
  exact G5 (by simp[execOp,G,F]) (hn vc w' I)
 ·rename_i t i G
  split at A
  ·rename_i vs ht
   obtain⟨v,U,A⟩:=ub A
   have C:=Bj SS t
   rw[ht,Rep] at C
   obtain⟨cs,D,F⟩:=C
   rw[Cv] at F
   have hlt:i<cs.length:=by rw[F.1];exact(A1s.1 U).1
   refine same A (vc:=cs[i]) ?_ (F.2 i v _ U (A1g hlt))
   simp[execOp,G,Instr.extract,D,hlt]
  ·simp at A
 ·rename_i c G
  split at A
  ·rename_i Y
   split at A
   ·rename_i x t C D
    obtain⟨v,U,A⟩:=ub A
    have e1:c.args=#[x]:=by apply A26;simpa using C
    have e2:c.argTypes=#[t]:=by apply A26;simpa using D
    obtain⟨vc,F,I⟩:=Aff (P:=E.P) (ty:=o.type) U (Bj SS x)
    refine same A ?_ I
    simp[execOp,G,resolve,Y,e1,e2,invoke,builtin,F]
   ·simp at A
  ·rename_i Y
   split at A
   ·rename_i x y t tx C D
    have e1:c.args=#[x,y]:=by apply A26;simpa using C
    have e2:c.argTypes=#[t,tx]:=by apply A26;simpa using D
    obtain⟨val,ups,F,I⟩:=u6 (ty:=o.type) S X A (Bj SS x) (Bj SS y)
    refine⟨val,ups,F,fun V hn=>?_⟩
    obtain⟨vc,w',h5,h6⟩:=I V
    refine G5 ?_ (hn vc w' h6)
    simp[execOp,G,resolve,Y,e1,e2,invoke,builtin,h5]
   ·simp at A
  ·rename_i Y
   split at A
   ·rename_i x y t tx C D
    have e1:c.args=#[x,y]:=by apply A26;simpa using C
    have e2:c.argTypes=#[t,tx]:=by apply A26;simpa using D
    obtain⟨val,ups,F,vc,w',h5,h6⟩:=Aa6 (tx:=tx) (ty:=o.type) S X A (Bj SS x) (Bj SS y)
    refine⟨val,ups,F,fun V hn=>?_⟩
    refine G5 ?_ (hn vc w' h6)
    simp[execOp,G,resolve,Y,e1,e2,invoke,builtin,h5]
   ·simp at A
  ·rename_i Y
   split at A
   ·rename_i x t C D
    have e1:c.args=#[x]:=by apply A26;simpa using C
    have e2:c.argTypes=#[t]:=by apply A26;simpa using D
    obtain⟨val,ups,F,vc,w',h5,h6⟩:=yP (ty:=o.type) S X A (Bj SS x)
    refine⟨val,ups,F,fun V hn=>?_⟩
    refine G5 ?_ (hn vc w' h6)
    simp[execOp,G,resolve,Y,e1,e2,invoke,builtin,h5]
   ·simp at A
  ·rename_i Y
   split at A
   ·rename_i x y C
    obtain⟨v,U,A⟩:=ub A
    have e1:c.args=#[x,y]:=by apply A26;simpa using C
    have D:=Bj SS x
    have F:=Bj SS y
    unfold Akf at U
    split at U
    ·rename_i k1 a1 k2 a2 hx hy
     simp at U;subst U
     rw[hx,Rep] at D;rw[hy,Rep] at F
     refine same A (vc:=.int k1 (Mm a1 a2)) ?_ (by rw[Rep])
     simp[execOp,G,resolve,Y,e1,invoke,builtin,D,F,Builtin.min_,Builtin.min2,Mm,cond_eq_ite]
    ·simp at U
   ·rename_i x y z C
    obtain⟨q,hq,A⟩:=ub A
    obtain⟨v,U,A⟩:=ub A
    have e1:c.args=#[x,y,z]:=by apply A26;simpa using C
    have D:=Bj SS x
    have F:=Bj SS y
    have I:=Bj SS z
    unfold Akf at hq
    split at hq
    ·rename_i k1 a1 k2 a2 hx hy
     simp at hq;subst hq
     unfold Akf at U
     split at U
     ·rename_i k3 a3 k4 a4 hx2 hz
      simp at hx2;obtain⟨rfl,rfl⟩:=hx2
      simp at U;subst U
      rw[hx,Rep] at D;rw[hy,Rep] at F;rw[hz,Rep] at I
      refine same A (vc:=.int k1 (Mm (Mm a1 a2) a4)) ?_ (by rw[Rep])
      simp[execOp,G,resolve,Y,e1,invoke,builtin,D,F,I,Builtin.min_,Builtin.min2,Mm,cond_eq_ite]
     ·simp at U
    ·simp at hq
   ·simp at A
  ·rename_i Y
   split at A
   ·rename_i x y C
    obtain⟨v,U,A⟩:=ub A
    have e1:c.args=#[x,y]:=by apply A26;simpa using C
    have D:=Bj SS x
    have F:=Bj SS y
    unfold Akg at U
    split at U
    ·rename_i k1 a1 k2 a2 hx hy
     simp at U;subst U
     rw[hx,Rep] at D;rw[hy,Rep] at F
     refine same A (vc:=.int k1 (ep a1 a2)) ?_ (by rw[Rep])
     simp[execOp,G,resolve,Y,e1,invoke,builtin,D,F,Builtin.max_,Builtin.max2,ep,cond_eq_ite]
    ·simp at U
   ·rename_i x y z C
    obtain⟨q,hq,A⟩:=ub A
    obtain⟨v,U,A⟩:=ub A
    have e1:c.args=#[x,y,z]:=by apply A26;simpa using C
    have D:=Bj SS x
    have F:=Bj SS y
    have I:=Bj SS z
    unfold Akg at hq
    split at hq
    ·rename_i k1 a1 k2 a2 hx hy
     simp at hq;subst hq
     unfold Akg at U
     split at U
     ·rename_i k3 a3 k4 a4 hx2 hz
      simp at hx2;obtain⟨rfl,rfl⟩:=hx2
      simp at U;subst U
      rw[hx,Rep] at D;rw[hy,Rep] at F;rw[hz,Rep] at I
      refine same A (vc:=.int k1 (ep (ep a1 a2) a4)) ?_ (by rw[Rep])
      simp[execOp,G,resolve,Y,e1,invoke,builtin,D,F,I,Builtin.max_,Builtin.max2,ep,cond_eq_ite]
     ·simp at U
    ·simp at hq
   ·simp at A
  ·rename_i Y
   split at A
   ·rename_i x C
    have e1:c.args=#[x]:=by apply A26;simpa using C
    obtain⟨val,ups,F,I⟩:=kS (P:=E.P) (d:=d) (ts:=c.argTypes) (ty:=o.type) S X A (Bj SS x)
    refine⟨val,ups,F,fun V hn=>?_⟩
    obtain⟨vc,w',h5,h6⟩:=I V
    refine G5 ?_ (hn vc w' h6)
    simp[execOp,G,resolve,Y,e1,invoke,builtin,h5]
   ·simp at A
  ·rename_i Y
   split at A
   ·rename_i x y t tx C D
    have e1:c.args=#[x,y]:=by apply A26;simpa using C
    have e2:c.argTypes=#[t,tx]:=by apply A26;simpa using D
    obtain⟨val,ups,F,I⟩:=kT (d:=d) (it:=tx) (ty:=o.type) S X A (Bj SS x) (Bj SS y)
    refine⟨val,ups,F,fun V hn=>?_⟩
    obtain⟨vc,w',h5,h6⟩:=I V
    refine G5 ?_ (hn vc w' h6)
    simp[execOp,G,resolve,Y,e1,e2,invoke,builtin,h5]
   ·simp at A
  ·rename_i fo Y
   split at A
   ·rename_i f0 caps V
    have C:=Bj SS fo
    rw[V,Rep] at C
    obtain⟨cs0,D,h30⟩:=C
    cases M:xw E.P (f0%1000000) with
    | false =>
     rw[M,cond_false] at A
     obtain⟨hne,A⟩:=uc A
     split at A
     ·rename_i x T hold
      rw[Reps] at h30;subst h30
      obtain⟨y,hy,rfl⟩:∃ y,c.args=#[y]∧x=ev s y:=by
       cases X:c.args.toList with
       | nil=>rw[X] at T;cases T
       | cons y l =>
        rw[X] at T;simp at T
        exact⟨y,by apply A26;rw[X,T.2],T.1.symm⟩
      refine same (vc:=a.eval y) A ?_ (Bj SS y)
      simp only[execOp,G,Sem.run_bind,resolve,Y,D,Deferred.ofValue,Sem.run_pure,Result.andThen_ok,invoke,hy]
      simpa using Akj hne (a.eval y) w
     ·simp at A
    | true =>
    rw[M,cond_true] at A
    have htk:Reps J β h w (caps.take (f0/1000000)) (cs0.take (f0/1000000))∧Reps J β h w (caps.drop (f0/1000000)) (cs0.drop (f0/1000000)):=by
     rw[Cv] at h30
     refine⟨Cv.2 ⟨by simp[h30.1],fun j x u hx hu=>?_⟩,Cv.2 ⟨by simp[h30.1],fun j x u hx hu=>?_⟩⟩
     ·rw[A28] at hx hu
      split at hx
      ·rename_i hj;rw[if_pos hj] at hu;exact h30.2 j x u hx hu
      ·simp at hx
     ·rw[A27] at hx hu;exact h30.2 _ x u hx hu
    generalize f0%1000000=f at *
    generalize cs0.take (f0/1000000)=fs at *
    generalize cs0.drop (f0/1000000)=cs at *
    obtain⟨val,ups,I,h5⟩:=hC R r k J β h w g d f _ _ S X A (htk.1.append ((rE SS c.args.toList).append htk.2))
    refine⟨val,ups,I,fun hfr hn=>?_⟩
    have hcall:=h5 hfr
    unfold xw at M
    cases hfn:E.P.funcs[f]? with
    | none=>rw[hfn] at M;simp at M
    | some fn =>
     rw[hfn] at M
     simp at M
     obtain⟨hb1,hb2⟩:=M
     have hb3:fn.body.isNone=false:=by cases hq:fn.body<;>simp_all
     have T:(⟨fs⟩:Array Value)++c.args.map a.eval++(⟨cs⟩:Array Value)=(fs++(c.args.toList.map a.eval++cs)).toArray:=by apply A26;simp
     have hrun:(execOp a.eval o).run E.P w=.ok (.enter f (fs++(c.args.toList.map a.eval++cs)).toArray) w:=by
      simp only[execOp,G,Sem.run_bind,resolve,Y,D,Deferred.ofValue,Sem.run_pure,Result.andThen_ok,invoke,callFunc,run_program,hfn]
      simp only[hb3,T]
      simp[hb2]
     unfold Oper.wp
     rw[hrun]
     refine Calls.mono hcall ?_
     rintro e w' ⟨vc,rfl,hd⟩
     exact hn vc w' hd
   ·simp at A
  ·simp at A
 ·simp at A
end
end Gx
