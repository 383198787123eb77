/- A part of the proof; each theorem says what it holds. -/
import GoSem.Step
import Derived.KernelRfl
import Derived.WalkKit
import Derived.Deep.MidRow
import Derived.Deep.AppendSrc
import Derived.Laws.IdiomStrings
import Derived.Deep.Upon
import Derived.Lib.Builder
import Derived.Laws.BytesString
import Derived.Lib.UnsafeStr
import Derived.Laws.Externs
import Derived.Laws.Tables
import Derived.Laws.StructEq
import Derived.ChangeKeysEq
import Derived.MapKept
set_option linter.unusedVariables false
set_option linter.defProp false
set_option linter.unusedSimpArgs false
open Nat (ble beq)
open List (take drop replicate)
open Go.IntKind (wrap)
namespace Gx
abbrev Lu:=List UInt8
def Az0:=@List.take_of_length_le
def Az1:=@Int.toNat_natCast
def Az2:=@List.length_append
def Az3:=@Nat.le_refl
def Az4:=@Option.bind_assoc
def Az5:=@List.length_cons
def Az6:=@List.getElem?_eq_getElem
def Az7:=@List.mem_cons
def Az8:=@Nat.mul_comm
def Az9:=@Nat.mul_le_mul_right
def A0a:=@Bool.and_eq_true
def A0b:=@Nat.mul_one
def A0c:=@Nat.mul_assoc
def A0d:=@List.drop_eq_getElem_cons
def A0e:=@List.getD_eq_getElem?_getD
def A0f:=@List.mem_append
def A0g:=@Nat.zero_add
def A0h:=@Nat.mul_add
def A0i:=@Nat.pow_succ
def A0j:=@Nat.eq_of_beq_eq_true
def A0k:=@List.drop_eq_nil_of_le
def A0l:=@List.getElem_mem
def A0m:=@Nat.add_mul
def A0n:=@List.map_cons
def A0o:=@List.length_take
def A0p:=@List.getElem?_eq_some_iff
def A0q:=@Nat.eq_zero_or_pos
def A0r:=@List.mem_cons_of_mem
def A0s:=@Nat.lt_of_le_of_lt
def A0t:=@List.length_singleton
def A0u:=@List.cons_append
def A0v:=@Int.natAbs_natCast
def A0w:=@Nat.mul_le_mul_left
def A0x:=@Nat.min_eq_left
def A0y:=@Nat.pow_le_pow_right
def A0z:=@List.flatMap_cons
def A00:=@List.drop_zero
def A01:=@List.mem_singleton
def A02:=@List.take_succ_eq_append_getElem
def A03:=@List.length_map
def A04:=@List.mem_map
def A05:=@List.all_eq_true
def A06:=@List.take_length
def A07:=@Nat.mod_eq_of_lt
def A08:=@List.not_mem_nil
def A09:=@Nat.pow_add
def A1a:=@List.head?_eq_getElem?
def A1b:=@List.drop_succ_cons
def A1c:=@Nat.le_trans
def A1d:=@List.all_cons
def A1e:=@Nat.div_add_mod
def A1f:=@List.getElem?_eq_none
def A1g:=@Nat.lt_of_lt_of_le
def A1h:=@List.flatMap_append
def A1i:=@Nat.add_zero
def A1j:=@Nat.mod_lt
def A1k:=@List.getElem?_append
def A1l:=@Nat.pow_pos
def A1m:=@Nat.div_eq_of_lt
def A1n:=@Bool.true_and
def A1o:=@List.nil_append
def A1p:=@List.getElem_of_mem
def A1q:=@Option.bind_some
def A1r:=@Nat.div_le_self
def A1s:=@List.nodup_cons
def A1t:=@List.getElem?_drop
def A1u:=@Int.sign_eq_neg_one_of_neg
def A1v:=@List.length_replicate
def A1w:=@List.eq_nil_of_length_eq_zero
def A1x:=@Nat.add_assoc
def A1y:=@List.append_nil
def A1z:=@Nat.mul_lt_mul''
def A10:=@List.append_assoc
def A11:=@Array.getElem?_eq_none
def A12:=@Eq.trans
def A13:=@List.length_pos_iff
def A14:=@Nat.gcd_comm
def A15:=@List.map_append
def A16:=@Nat.dvd_mul_left_of_dvd
def A17:=@Array.getElem?_eq_some_iff
def A18:=@Array.ext'
def A19:=@Bool.and_true
def A2a:=@Option.map_eq_some_iff
def A2b:=@List.getElem?_take
def A2c:=@Bool.not_false
def A2d:=@List.length_drop
def A2e:=@List.take_append_drop
def A2f:=@Nat.mul_left_comm
def A2g:=@List.length_nil
def A2h:=@Int.sign_eq_one_of_pos
def A2i:=@Array.getElem?_modify
def A2j:=@Nat.le_max_left
def A2k:=@List.take_left'
def A2l:=@List.cons.injEq
def A2m:=@Nat.gcd_zero_right
def A2n:=@Nat.le_of_not_lt
def A2o:=@Nat.le_max_right
def A2p:=@Array.getD_eq_getD_getElem?
def A2q:=@List.take_zero
def A2r:=@List.mem_map_of_mem
def A2s:=@Nat.lt_of_mul_lt_mul_left
def A2t:=@Nat.gcd_dvd_left
def A2u:=@Int.natCast_zero
def A2v:=@Nat.add_comm
def A2w:=@Nat.mul_lt_mul_right
def A2x:=@Nat.add_mul_div_left
def A2y:=@Nat.div_lt_of_lt_mul
def A2z:=@Option.some.injEq
def A20:=@List.getLast_eq_getElem
def A21:=@Nat.le_mul_of_pos_right
def A22:=@List.foldl_cons
def A23:=@List.mem_filter
def A24:=@Bool.or_true
def A25:=@List.map_map
def A26:=@Nat.zero_mul
def A27:=@Nat.mul_le_mul
def A28:=@Nat.add_sub_cancel
def A29:=@List.all_append
def A3a:=@Bool.not_eq_true'
def A3b:=@List.mem_of_mem_take
def A3c:=@List.getElem?_map
def A3d:=@Bool.true_or
def A3e:=@Int.mul_ediv_cancel_left
def A3f:=@Bool.not_true
def A3g:=@Nat.gcd_pos_of_pos_right
def A3h:=@Bool.false_or
def A3i:=@Array.length_toList
def A3j:=@List.replicate_succ
def A3k:=@Nat.pow_le_pow_left
def A3l:=@List.filter_cons
def A3m:=@List.length_eq_zero_iff
def A3n:=@List.map_nil
def A3o:=@Nat.pow_zero
def A3p:=@Bool.false_eq_true
def A3q:=@Nat.lt_or_ge
def A3r:=@Nat.le_div_iff_mul_le
def A3s:=@Nat.gcd_dvd_right
def A3t:=@Nat.one_mul
def A3u:=@List.mem_of_mem_drop
def A3v:=@Array.getElem?_append_left
def A3w:=@Nat.mul_pos
def A3x:=@Nat.pow_mul
def A3y:=@Nat.lt_of_mul_lt_mul_right
def A3z:=@List.all_nil
def A30:=@List.flatMap_map
def A31:=@List.getElem_set
def A32:=@List.map_congr_left
def A33:=@Prod.mk.injEq
def A34:=@Nat.mul_add_div
def A35:=@BitVec.toNat_ofNat
def A36:=@Nat.mul_right_comm
def A37:=@List.mem_cons_self
def A38:=@Nat.add_sub_cancel_left
def A39:=@List.getElem_cons_succ
def A4a:=@Nat.div_div_eq_div_mul
def A4b:=@Int.natAbs_neg
def A4c:=@List.getElem_cons_zero
def A4d:=@Array.getElem?_setIfInBounds_ne
def A4e:=@Nat.div_lt_iff_lt_mul
def A4f:=@List.set_append_right
def A4g:=@Option.bind_none
def A4h:=@Int.sign_neg_iff
def A4i:=@List.mem_flatMap
def A4j:=@Nat.dvd_add_left
def A4k:=@List.forall_mem_cons
def A4l:=@Nat.zero_le
def A4m:=@Bool.or_eq_true
def A4n:=@Array.getElem?_setIfInBounds
def A4o:=@Nat.div_lt_self
def A4p:=@Nat.mul_add_mod
def A4q:=@UInt8.toNat_inj
def A4r:=@List.filter_eq_self
def A4s:=@List.take_succ_cons
def A4t:=@Rat.mkRat_self
def A4u:=@Bool.false_and
def A4v:=@List.take_take
def A4w:=@List.getElem?_append_right
def A4x:=@List.pairwise_cons
def A4y:=@Int.sign_eq_zero_iff_zero
def A4z:=@List.mem_or_eq_of_mem_set
def A40:=@List.getElem?_append_left
def A41:=@Nat.add_mul_mod_self_left
def A42:=@Int.mul_neg
def A43:=@Nat.dvd_mul_right
def A44:=@List.any_eq_false
def A45:=@Int.lt_trichotomy
def A46:=@Nat.gcd_rec
def A47:=@Option.isSome_iff_exists
def A48:=@Array.size_setIfInBounds
def A49:=@List.eq_of_mem_replicate
def A5a:=@List.getElem?_take_of_lt
def A5b:=@Nat.pow_lt_pow_iff_right
def A5c:=@List.getElem_append_left
def A5d:=@List.map_drop
def A5e:=@Nat.mul_div_cancel_left
def A5f:=@List.countP_cons
def A5g:=@Nat.lt_of_not_le
def A5h:=@Nat.le_of_lt
def A5i:=@Nat.succ_mul
def A5j:=@Bool.or_comm
def A5k:=@Nat.mod_le
def A5l:=@Nat.sub_self
def A5m:=@Int.natCast_mul
def A5n:=@Rat.num_eq_zero
def A5o:=@Option.some.inj
def A5p:=@Option.map_some
def A5q:=@List.countP_eq_length
def A5r:=@List.getElem_set_self
def A5s:=@Array.getElem?_toList
def A5t:=@List.set_getElem_self
def A5u:=@List.getElem?_zipIdx
def A5v:=@List.mem_of_getElem?
def A5w:=@List.pairwise_append
def A5x:=@List.take_left
def A5y:=@List.nodup_nil
def A5z:=@Int.natAbs_mul
def A50:=@List.mapM_cons
def A51:=@Int.toNat_of_nonneg
def A52:=@List.getD_cons_zero
def A53:=@List.map_eq_nil_iff
def A54:=@List.drop_nil
def A55:=@Rat.den_mkRat
def A56:=@Rat.num_mkRat
def A57:=@Int.tmod_lt_of_pos
def A58:=@Nat.ble_eq
def A59:=@Rat.sub_eq_add_neg
def A6a:=@List.map_set
def A6d:=@Nat.min_self
def A6g:=@Nat.mul_zero
def A6r:=@Nat.or_comm
def A6s:=@Nat.div_one
def A6t:=@Nat.pow_two
end Gx
namespace Gx
open Go
inductive AV where
 | int (k:IntKind) (n:Int)
 | bool (b:Bool)
 | str (s:List UInt8)
 | nsl
 | imm (c:List AV) (len sz:Nat) (tight org:Bool)
 | iptr (c:List AV) (org:Bool)
 | pagg (c:List AV) (org:Bool)
 | own (b off len:Nat)
 | optr (b off:Nat)
 | agg (c:List AV)
 | tup (c:List AV)
 | fn (f:Nat) (caps:List AV)
 | nilptr
 | nilfn
 | undef
 | omap (b:Nat)
structure Blk where
 dead:Bool
 sealed:Bool
 pure:Bool
 taint:Bool
 sz:Nat
 cells:List AV
 mp:Bool:=false
 ty:Option (Nat×Nat):=none
abbrev LA:=List AV
abbrev O (R:Type):=Option R
abbrev Az:=List (Nat×Blk)
abbrev Gp:=List (Nat×AV)
def An:Az→Nat→Option Blk
 | [],_=>none
 | (i,x)::r,b=>cond (beq i b) (some x) (An r b)
def Ff:Az→Nat→Blk→Az
 | [],b,y=>[(b,y)]
 | (i,x)::r,b,y=>cond (beq i b) ((b,y)::r) (cond (Nat.blt b i) ((b,y)::(i,x)::r) ((i,x)::Ff r b y))
def F4:Gp→Nat→AV
 | [],_=>.undef
 | (i,x)::r,b=>cond (beq i b) x (F4 r b)
def a8:Gp→Nat→AV→Gp
 | [],b,y=>[(b,y)]
 | (i,x)::r,b,y=>cond (beq i b) ((b,y)::r) (cond (Nat.blt b i) ((b,y)::(i,x)::r) ((i,x)::a8 r b y))
structure St where
 s:Gp
 h:Az
mutual
def ii:Value→AV
 | .int k n=>.int k n
 | .bool b=>.bool b
 | .string ⟨⟨s⟩⟩=>.str s
 | .slice none 0 0=>.nsl
 | .pointer none=>.nilptr
 | .nilFunc=>.nilfn
 | .agg ⟨cs⟩=>.agg (L9 cs)
 | _=>.undef
def L9:List Value→List AV
 | []=>[]
 | v::r=>ii v::L9 r
end
def ev (s:Gp):Operand→AV
 | .tmp t=>F4 s t
 | .const v=>ii v
 | .func f=>cond (Nat.blt f 1000000) (.fn f []) .undef
 | .global _=>.undef
def Bi (P:Program) (t:TypeId):Option Nat:=(P.info? t).map (·.size)
def zH (P:Program) (t:TypeId):Option Nat:=(P.info? t).map (·.bytes)
def Alt (P:Program) (t:TypeId):Bool:=((P.info? t).map (·.hasPointers)).getD true
def qK (P:Program) (t:TypeId):Option AV:=((P.info? t).bind (·.zero)).map ii
def A6:LA→Bool
 | []=>true
 | .int ..::r=>A6 r
 | .bool _::r=>A6 r
 | .str _::r=>A6 r
 | .nsl::r=>A6 r
 | .nilptr::r=>A6 r
 | .nilfn::r=>A6 r
 | _=>false
def d6 (P:Program) (t:TypeId):Option (LA) :=
 (P.info? t).bind fun i=>(i.zero).bind fun v=>cond (A6 (L9 v.cells.toList)&&beq v.cells.toList.length i.size) (some (L9 v.cells.toList)) none
def ij (op:BinOp) (k:IntKind) (a b:Int):Option AV :=
 match op with
 | .add=>some (.int k (k.wrap (a+b)))
 | .sub=>some (.int k (k.wrap (a - b)))
 | .mul=>some (.int k (k.wrap (a*b)))
 | .and=>some (.int k (k.wrap ((BitVec.ofInt k.bits a &&& BitVec.ofInt k.bits b).toNat:Int)))
 | .or=>some (.int k (k.wrap ((BitVec.ofInt k.bits a ||| BitVec.ofInt k.bits b).toNat:Int)))
 | .xor=>some (.int k (k.wrap ((BitVec.ofInt k.bits a ^^^ BitVec.ofInt k.bits b).toNat:Int)))
 | .andNot=>some (.int k (k.wrap ((BitVec.ofInt k.bits a &&& ~~~ (BitVec.ofInt k.bits b)).toNat:Int)))
 | .eql=>some (.bool (a==b))
 | .neq=>some (.bool (a != b))
 | .lss=>some (.bool (decide (a<b)))
 | .leq=>some (.bool (decide (a≤b)))
 | .gtr=>some (.bool (decide (a>b)))
 | .geq=>some (.bool (decide (a≥b)))
 | _=>none
def Qv (k k':IntKind):Bool:=decide (k=k')
def VV (P:Program) (t:TypeId):Bool:=match P.underlying t with | some .bool=>true | _=>false
def Anm {R:Type} (P:Program) (t:TypeId) (op:BinOp) (x y:AV) (r:AV→O R):O R :=
 match x,y with
 | .int k a,.int k' b =>
  match op with
  | .shl=>cond (decide (b<0)) none (r (.int k (k.wrap (a*2 ^ (min b.toNat k.bits)))))
  | .shr=>cond (decide (b<0)) none (r (.int k (a.fdiv (2 ^ (min b.toNat k.bits)))))
  | .quo=>cond (Qv k k') (cond (b==0) none (r (.int k (k.wrap (a.tdiv b))))) none
  | .rem=>cond (Qv k k') (cond (b==0) none (r (.int k (a.tmod b)))) none
  | op=>cond (Qv k k') ((ij op k a b).bind r) none
 | .bool a,.bool b =>
  match op with
  | .eql=>cond (VV P t) (r (.bool (a==b))) none
  | .neq=>cond (VV P t) (r (.bool (!(a==b)))) none
  | _=>none
 | .str a,.str b =>
  match op with
  | .add=>cond (ble (a.length+b.length) 140737488355328) (r (.str (a++b))) none
  | .eql=>r (.bool (a==b))
  | .neq=>r (.bool (!(a==b)))
  | .lss=>r (.bool (Op.bytesLess a b))
  | .leq=>r (.bool (Op.bytesLess a b||a==b))
  | .gtr=>r (.bool (!(Op.bytesLess a b||a==b)))
  | .geq=>r (.bool (!Op.bytesLess a b))
  | _=>none
 | _,_=>none
def Ayn (op:UnOp) (x:AV):Option AV :=
 match op,x with
 | .neg,.int k n=>some (.int k (k.wrap (0 - n)))
 | .xor,.int k n=>ij .xor k (cond k.signed (-1) k.max) n
 | .not,.bool b=>some (.bool (!b))
 | _,_=>none
def YL (k:IntKind):AV→Option Int
 | .int k' n=>cond (Qv k k') (some n) none
 | _=>none
def asBool:AV→Option Bool
 | .bool b=>some b
 | _=>none
def lF:AV→Option Lu
 | .str s=>some s
 | _=>none
def Aq1 (sz:Nat):AV→Option (LA×Nat)
 | .imm c len sz' _ _=>cond (beq sz sz') (some (c,len)) none
 | .nsl=>some ([],0)
 | _=>none
def Ah6:AV→Option UInt8
 | .int .u8 n=>some (UInt8.ofNat n.toNat)
 | _=>none
def Wc:LA→Option Lu
 | []=>some []
 | x::r=>(Ah6 x).bind fun b=>(Wc r).bind fun l=>some (b::l)
def HT {R:Type} (step:TypeId→LA→LA→(Bool→O R)→O R) (x y:LA):List (Nat×TypeId)→(Bool→O R)→O R
 | [],k=>k true
 | (off,t)::r,k=>step t (x.drop off) (y.drop off) fun b=>HT step x y r fun c=>k (b&&c)
def zI (P:Program) (sz:Nat) (f:Field):Bool:=match Bi P f.type with
 | some s => ble 1 s && (ble (f.offset + s) sz && !(f.name == "_"))
 | none=>false
def nv {R:Type} (P:Program):Nat→TypeId→LA→LA→(Bool→O R)→O R
 | 0,_,_,_,_=>none
 | d+1,t,x,y,k=>match P.underlying t with
  | some (.int kd)=>(x.head?).bind fun u=>(YL kd u).bind fun a=>(y.head?).bind fun v=>(YL kd v).bind fun b=>k (a==b)
  | some .bool=>(x.head?).bind fun u=>(asBool u).bind fun a=>(y.head?).bind fun v=>(asBool v).bind fun b=>k (a==b)
  | some .string=>(x.head?).bind fun u=>(lF u).bind fun a=>(y.head?).bind fun v=>(lF v).bind fun b=>k (a==b)
  | some (.struct fs)=>(Bi P t).bind fun sz=>cond (P.stoodInHeld t||!(fs.toList.all (zI P sz))) none (HT (nv P d) x y (fs.toList.map fun f=>(f.offset,f.type)) k)
  | some (.array n e)=>(Bi P e).bind fun s=>(Bi P t).bind fun sz=>cond (ble 1 s&&ble (n*s) sz) (HT (nv P d) x y ((List.range n).map fun i=>(i*s,e)) k) none
  | _=>none
def zJ:AV→Option (LA)
 | .pagg c _=>some c
 | .agg c=>some c
 | _=>none
def Aq2 (P:Program) (t:TypeId):Bool:=match P.underlying t with | some (.struct _)=>true | some (.array _ _)=>true | _=>false
def xQ {R:Type} (P:Program) (t:TypeId) (op:BinOp) (x y:AV) (r:AV→O R):O R :=
 match zJ x,zJ y with
 | some a,some b=>(Bi P t).bind fun s=>cond (ble 1 s&&(beq a.length s&&(beq b.length s&&(Aq2 P t&&!(P.eqGuardType P.depth t)))))
  (match op with
   | .eql=>nv P 8 t a b fun c=>r (.bool c)
   | .neq=>nv P 8 t a b fun c=>r (.bool (!c))
   | _=>none) none
 | _,_=>Anm P t op x y r
def Zq {R:Type} (P:Program) (t:TypeId) (c:LA) (org:Bool) (k:Bool→O R):O R :=
 cond (Alt P t) (k org) (cond (!org||A6 c) (k false) none)
def RG {R:Type} (P:Program) (t:TypeId) (c:LA) (org:Bool) (k:AV→O R):O R :=
 match P.underlying t with
 | some (.int kd)=>(c.head?).bind fun x=>(YL kd x).bind fun n=>k (.int kd n)
 | some .bool=>(c.head?).bind fun x=>(asBool x).bind fun b=>k (.bool b)
 | some .string=>(c.head?).bind fun x=>(lF x).bind fun s=>k (.str s)
 | some (.slice e)=>(Bi P e).bind fun sz=>(c.head?).bind fun x=>(Aq1 sz x).bind fun p=>k (.imm p.1 p.2 sz false org)
 | some (.struct _)=>(Bi P t).bind fun n=>cond (ble n c.length) (Zq P t (c.take n) org fun o=>k (.pagg (c.take n) o)) none
 | some (.array _ _)=>(Bi P t).bind fun n=>cond (ble n c.length) (Zq P t (c.take n) org fun o=>k (.pagg (c.take n) o)) none
 | _=>none
def LI {R:Type} (n:Nat) (k:AV→O R):LA→Nat→O R
 | [],_=>none
 | v::r,i=>cond (beq n i) (k v) (LI n k r (i+1))
def lG {R:Type} (P:Program) (t:TypeId) (c:LA) (k:AV→O R):O R :=
 match P.underlying t with
 | some (.struct _)=>(Bi P t).bind fun n=>cond (ble n c.length) (k (.agg (c.take n))) none
 | some (.array _ _)=>(Bi P t).bind fun n=>cond (ble n c.length) (k (.agg (c.take n))) none
 | some _=>(c.head?).bind k
 | none=>none
def RH {R:Type} (P:Program) (t:TypeId) (c:LA) (off:Nat) (k:AV→O R):O R :=
 match P.underlying t with
 | some (.struct _)=>(Bi P t).bind fun n=>cond (ble n (c.drop off).length) (k (.agg ((c.drop off).take n))) none
 | some (.array _ _)=>(Bi P t).bind fun n=>cond (ble n (c.drop off).length) (k (.agg ((c.drop off).take n))) none
 | some _=>LI off k c 0
 | none=>none
abbrev A7:=Nat→Option Blk
def Fy (g:A7) (b:Nat):Option Blk:=(g b).bind fun x=>cond x.dead none (some x)
def qL {R:Type} (P:Program) (g:A7) (t:TypeId) (p:AV) (k:AV→O R):O R :=
 match p with
 | .iptr c org=>RG P t c org k
 | .optr b off=>(Fy g b).bind fun x=>cond x.pure (RG P t (x.cells.drop off) x.taint k) (RH P t x.cells off k)
 | _=>none
def Ae (i:Int) (n:Nat):Bool:=decide (0≤i)&&decide (i<(n:Int))
def Uw {R:Type} (P:Program) (t:TypeId) (x i:AV) (k:AV→O R):O R :=
 match P.underlying t,x,i with
 | some (.slice el),.imm c len sz _ org,.int _ i=>(Bi P el).bind fun sz'=>cond (beq sz sz') (cond (Ae i len) (k (.iptr (c.drop (i.toNat*sz)) org)) none) none
 | some (.slice el),.own b off len,.int _ i=>(Bi P el).bind fun sz=>cond (Ae i len) (k (.optr b (off+i.toNat*sz))) none
 | some (.array len el),.iptr c org,.int _ i=>(Bi P el).bind fun sz=>cond (Ae i len) (k (.iptr (c.drop (i.toNat*sz)) org)) none
 | some (.array len el),.optr b off,.int _ i=>(Bi P el).bind fun sz=>cond (Ae i len) (k (.optr b (off+i.toNat*sz))) none
 | _,_,_=>none
def pg (P:Program) (t:TypeId) (f:Nat):Option (Nat×TypeId) :=
 match P.underlying t with
 | some (.struct fs)=>(fs[f]?).map fun x=>(x.offset,x.type)
 | _=>none
def Ux {R:Type} (P:Program) (t:TypeId) (x:AV) (f:Nat) (k:AV→O R):O R :=
 (pg P t f).bind fun p=>(Bi P p.2).bind fun n=>cond (beq n 0) none
 (match x with
 | .iptr c org=>k (.iptr (c.drop p.1) org)
 | .optr b off=>k (.optr b (off+p.1))
 | _=>none)
def ik {R:Type} (P:Program) (t:TypeId) (x:AV) (f:Nat) (k:AV→O R):O R :=
 (pg P t f).bind fun p =>
 match x with
 | .pagg c org=>RG P p.2 (c.drop p.1) org k
 | .agg c=>lG P p.2 (c.drop p.1) k
 | _=>none
def ip {R:Type} (P:Program) (t:TypeId) (x i:AV) (k:AV→O R):O R :=
 match P.underlying t,x,i with
 | some .string,.str s,.int _ i=>cond (Ae i s.length) (k (.int .u8 ((s.getD i.toNat 0).toNat:Int))) none
 | some (.array len el),.pagg c org,.int _ i=>(Bi P el).bind fun sz=>cond (Ae i len) (RG P el (c.drop (i.toNat*sz)) org k) none
 | some (.array len el),.agg c,.int _ i=>(Bi P el).bind fun sz=>cond (Ae i len) (RH P el c (i.toNat*sz) k) none
 | _,_,_=>none
def d7 (o:Option AV) (d:Nat):Option Int:=match o with | none=>some (d:Int) | some (.int _ i)=>some i | _=>none
def Zr {R:Type} (lo hi mx:Option AV) (n:Nat) (k:Nat→Nat→O R):O R :=
 (d7 lo 0).bind fun l=>(d7 hi n).bind fun h=>(d7 mx n).bind fun m=>cond (mx.isSome&&!hi.isSome) none <|
 cond (decide (0≤l)&&(decide (l≤h)&&(decide (h≤m)&&decide (m≤(n:Int))))) (k l.toNat h.toNat) none
def Alu (tight:Bool) (hi mx:Option AV):Bool:=match hi,mx with | none,none=>tight | some (.int _ a),some (.int _ b)=>a==b | _,_=>false
def iq {R:Type} (P:Program) (g:A7) (t:TypeId) (x:AV) (lo hi mx:Option AV) (k:AV→O R):O R :=
 match P.underlying t,x with
 | some .string,.str s=>cond mx.isSome none (Zr lo hi none s.length fun l h=>k (.str ((s.drop l).take (h - l))))
 | some (.slice el),.nsl=>(Bi P el).bind fun _=>Zr lo hi mx 0 fun _ _=>k .nsl
 | some (.slice el),.imm c n sz tight org=>(Bi P el).bind fun sz'=>cond (beq sz sz') (Zr lo hi mx n fun l h =>
   k (.imm ((c.drop (l*sz)).take ((h - l)*sz)) (h - l) sz (Alu tight hi mx) org)) none
 | some (.slice el),.own b off n=>(Bi P el).bind fun sz=>(Fy g b).bind fun y=>cond (beq sz y.sz) (Zr lo hi mx n fun l h=>k (.own b (off+l*sz) (h - l))) none
 | some (.array n el),.optr b off=>(Bi P el).bind fun _=>(Fy g b).bind fun y=>cond (beq y.sz 0&&(ble (off+n) y.cells.length&&(lo.isNone&&(hi.isNone&&mx.isNone)))) (k (.own b off n)) none
 | _,_=>none
def Av7 (P:Program) (t:TypeId) (x:AV):Option AV :=
 match P.underlying t,x with
 | some (.slice _),.nsl=>some (.int .i64 0)
 | some (.slice _),.imm _ n _ _ _=>some (.int .i64 n)
 | some (.slice _),.own _ _ n=>some (.int .i64 n)
 | some .string,.str s=>some (.int .i64 s.length)
 | some (.array n _),_=>some (.int .i64 n)
 | _,_=>none
def xR (g:A7) (sz:Nat):AV→Option (LA×Nat×Bool)
 | .nsl=>some ([],0,false)
 | .imm c n sz' _ org=>cond (beq sz sz') (some (c,n,org)) none
 | .own b off n=>(Fy g b).bind fun x=>cond (x.pure&&beq sz x.sz) (some ((x.cells.drop off).take (n*sz),n,x.taint)) none
 | .str s=>cond (beq sz 1) (some (s.map fun b=>.int .u8 (b.toNat:Int),s.length,false)) none
 | _=>none
def a_ {R:Type} (P:Program) (el:TypeId) (g:A7) (sz:Nat) (x:AV) (k:LA×Nat×Bool→O R):O R :=
 (xR g sz x).bind fun q=>Zq P el q.1 q.2.2 fun o=>k (q.1,q.2.1,o)
abbrev Eo:=List (Nat×Option Blk)
def YM (g:A7):AV→Option (AV×Eo×Bool)
 | .own b off n=>(Fy g b).bind fun x=>cond x.pure (some (.imm ((x.cells.drop off).take (n*x.sz)) n x.sz false x.taint,[(b,some { x with sealed:=true })],x.taint)) none
 | .optr .. | .agg _ | .tup _ | .undef | .fn .. | .omap _=>none
 | .imm c n sz t org=>some (.imm c n sz t org,[],org)
 | .iptr c org=>some (.iptr c org,[],org)
 | .pagg _ _=>none
 | v=>some (v,[],false)
def BQ (g:A7):LA→Option (LA×Eo×Bool)
 | []=>some ([],[],false)
 | v::r=>(YM g v).bind fun p=>(BQ g r).bind fun q=>some (p.1::q.1,p.2.1++q.2.1,p.2.2||q.2.2)
def AY (g:A7):AV→Option (LA×Eo×Bool)
 | .pagg c org=>some (c,[],org)
 | .agg c=>BQ g c
 | v=>BQ g [v]
def D9 (c:LA) (off:Nat) (vs:LA):LA:=c.take off++vs++c.drop (off+vs.length)
def A4:Eo→Nat→Bool
 | [],_=>false
 | (i,_)::r,b=>cond (beq i b) true (A4 r b)
def HU (g:A7):AV→Bool
 | .own b _ _=>(Fy g b).isSome
 | .optr b _=>(Fy g b).isSome
 | .agg _=>false
 | .pagg _ _=>false
 | .tup _=>false
 | .undef=>false
 | .omap _=>false
 | _=>true
def N1 (g:A7):LA→Bool
 | []=>true
 | v::r=>HU g v&&N1 g r
def setCells (c:LA) (off:Nat) (vs:LA):LA:=match vs with | [y]=>c.set off y | ys=>D9 c off ys
def iw {R:Type} (P:Program) (g:A7) (t:TypeId) (p v:AV) (k:AV→Eo→O R):O R :=
  match p with
  | .optr b off=>(Fy g b).bind fun x=>(Bi P t).bind fun n =>
    cond x.sealed none
    (cond x.pure
      ((AY g v).bind fun q=>cond (beq q.1.length n&&(ble (off+n) x.cells.length&&!A4 q.2.1 b))
        (k .undef (q.2.1++[(b,some { x with cells:=setCells x.cells off q.1,taint:=x.taint||q.2.2 })])) none)
      (match v with
        | .agg c=>cond (N1 g c&&(beq c.length n&&ble (off+n) x.cells.length)) (k .undef [(b,some { x with cells:=D9 x.cells off c })]) none
        | .pagg c org=>cond (beq off 0&&(beq c.length n&&beq x.cells.length n)) (k .undef [(b,some { x with pure:=true,taint:=org,cells:=c })]) none
        | v=>cond (HU g v&&(beq n 1&&Nat.blt off x.cells.length)) (k .undef [(b,some { x with cells:=x.cells.set off v })]) none))
  | _=>none
def Hb:Nat:=1000000
def nid (d:Nat):Nat:=1000000+d*16
def zK (P:Program) (t:TypeId):Option (Nat×Nat) :=
 match P.underlying t with
 | some (.struct fs)=>(fs[0]?).bind fun f=>match P.underlying f.type with
  | some (.pointer u)=>cond (beq u t) ((Bi P t).map fun n=>(t,n)) none
  | some (.struct gs)=>(gs[0]?).bind fun g=>match P.underlying g.type with
   | some (.pointer u)=>cond (beq u f.type) ((Bi P t).map fun n=>(t,n)) none
   | _=>none
  | _=>none
 | _=>none
def Sa (d:Nat) (pure taint:Bool) (sz:Nat) (cells:LA):Eo :=
 [(nid d,some { dead:=false,sealed:=false,pure,taint,sz,cells })]
def Adc {R:Type} (P:Program) (g:A7) (d:Nat) (t:TypeId) (v:AV) (k:AV→Eo→O R):O R :=
 match v with
 | .pagg c org=>k (.optr (nid d) 0) (Sa d true org 0 c)
 | .agg c =>
  cond (Alt P t) (cond (N1 g c&&beq c.length ((Bi P t).getD 0)) (k (.optr (nid d) 0) [(nid d,some { dead:=false,sealed:=false,pure:=false,taint:=false,sz:=0,cells:=c,ty:=zK P t })]) none)
   ((BQ g c).bind fun q=>k (.optr (nid d) 0) (q.2.1++Sa d true q.2.2 0 q.1))
 | v=>cond (HU g v) (k (.optr (nid d) 0) (Sa d false false 0 [v])) none
def F5 (sz:Nat):Blk:={ dead:=false,sealed:=false,pure:=true,taint:=false,sz,cells:=[] }
def Aq3 (co:Bool) (v:AV):AV:=match co,v with
 | true,.agg c=>cond (A6 c) (.pagg c false) (.agg c)
 | _,v=>v
def ix {R:Type} (P:Program) (g:A7) (co:Bool) (d:Nat) (t:TypeId) (k:AV→Eo→O R):O R :=
 match P.underlying t,qK P t with
 | some (.slice el),some .nsl=>(Bi P el).bind fun sz=>k (.optr (nid d) 0) [(nid d+1,some (F5 sz)),(nid d,some { dead:=false,sealed:=false,pure:=false,taint:=false,sz:=0,cells:=[.own (nid d+1) 0 0] })]
 | _,some z=>Adc P g d t (Aq3 co z) k
 | _,none=>none
def O5 (place:Nat→Option (Nat×Nat)):List (Nat×LA)→LA→Option (LA)
 | [],c=>some c
 | (i,vs)::r,c=>(place i).bind fun p=>cond (beq vs.length p.2&&ble (p.1+p.2) c.length) (O5 place r (setCells c p.1 vs)) none
def qM {R:Type} (place:Nat→Option (Nat×Nat)):List (Nat×LA)→LA→(LA→O R)→O R
 | [],c,k=>k c
 | (i,vs)::r,c,k=>(place i).bind fun p=>cond (beq vs.length p.2&&ble (p.1+p.2) c.length) (qM place r (setCells c p.1 vs) k) none
def Ey (n:Nat) (z:LA):LA:=match z with | [v]=>replicate n v | z=>(replicate n z).flatten
def HV (g:A7):List (Nat×AV)→Option (List (Nat×LA)×Eo×Bool)
 | []=>some ([],[],false)
 | (i,v)::r=>(AY g v).bind fun q=>(HV g r).bind fun q'=>some ((i,q.1)::q'.1,q.2.1++q'.2.1,q.2.2||q'.2.2)
def Aq4:AV→Bool
 | .optr ..=>true
 | .fn _ (_::_)=>true
 | _=>false
def Uy {R:Type} (P:Program) (g:A7) (d:Nat) (t:TypeId) (len:Nat) (parts:List (Nat×AV)) (k:AV→Eo→O R):O R :=
 match P.underlying t with
 | some (.slice el)=>(Bi P el).bind fun sz=>(d6 P el).bind fun z =>
  cond (beq sz 1&&(ble len 16777216&&N1 g (parts.map (·.2)))) ((O5 (fun i=>some (i*1,1)) (parts.map fun p=>(p.1,[p.2])) (Ey len z)).bind fun cells =>
   k (.own (nid d) 0 len) (Sa d false false 1 cells)) none
 | _=>none
def Ri {R:Type} (P:Program) (g:A7) (d:Nat) (t:TypeId) (len:Nat) (parts:List (Nat×AV)) (k:AV→Eo→O R):O R :=
 match P.underlying t with
 | some (.slice el)=>(Bi P el).bind fun sz=>(d6 P el).bind fun z=>(HV g parts).bind fun q =>
  cond (ble (len*sz) 16777216) (qM (fun i=>some (i*sz,sz)) q.1 (Ey len z) fun cells =>
   k (.own (nid d) 0 len) (q.2.1++Sa d true q.2.2 sz cells)) none
 | _=>none
def bA:AV→Bool
 | .own .. | .optr .. | .fn .. | .undef | .agg _ | .pagg _ _ | .tup _ | .omap _=>true
 | _=>false
def qN:AV→Bool
 | .agg c=>c.any bA
 | .pagg _ _=>false
 | v=>bA v
def cellsOf:AV→LA
 | .agg c=>c
 | .pagg c _=>c
 | v=>[v]
def zL:AV→Bool
 | .imm _ _ _ _ o=>o
 | .iptr _ o=>o
 | _=>false
def lH:AV→Bool
 | .pagg _ o=>o
 | .agg c=>c.any zL
 | v=>zL v
def LJ:AV→Bool
 | .pagg _ _=>true
 | _=>false
def d8 (P:Program) (t:TypeId):Option (Nat→Option (Nat×Nat)) :=
 match P.underlying t with
 | some (.array _ e)=>(P.info? e).map fun ie=>fun i=>some (i*ie.size,ie.size)
 | some (.struct fs)=>(fs.toList.mapM fun f=>(P.info? f.type).map fun i=>(f.offset,i.size)).map fun pl=>fun i=>pl[i]?
 | _=>none
def xS (P:Program) (t:TypeId):Option (LA):=(P.info? t).bind fun i=>(i.zero).map fun v=>L9 v.cells.toList
def Fs:List (Nat×AV)→List (Nat×LA)
 | []=>[]
 | (i,v)::r=>(i,cellsOf v)::Fs r
def Add (o:Bool):AV→AV
 | .imm c n s t _=>.imm c n s t o
 | .iptr c _=>.iptr c o
 | v=>v
def qO:AV→LA
 | .agg c=>c
 | .pagg c o=>c.map (Add o)
 | v=>[v]
def J6:List (Nat×AV)→List (Nat×LA)
 | []=>[]
 | (i,v)::r=>(i,qO v)::J6 r
def RI:AV→Bool
 | .undef=>false
 | .tup _=>false
 | .omap _=>false
 | _=>true
def zM (P:Program) (t:TypeId) (parts:List (Nat×AV)):Option AV :=
 (d8 P t).bind fun place=>cond (parts.all fun p=>RI p.2) (
 cond (parts.any fun p=>LJ p.2)
  (cond (parts.any fun p=>qN p.2) ((xS P t).bind fun z=>(O5 place (J6 parts) z).map fun c=>.agg c) ((d6 P t).bind fun z=>(O5 place (Fs parts) z).map fun c=>.pagg c (parts.any fun p=>lH p.2)))
  ((xS P t).bind fun z=>(O5 place (Fs parts) z).map fun c=>.agg c)) none
def zN {R:Type} (P:Program) (t:TypeId) (parts:List (Nat×AV)) (k:AV→O R):O R :=
 (d8 P t).bind fun place=>cond (parts.all fun p=>RI p.2) (
 cond (parts.any fun p=>LJ p.2)
  (cond (parts.any fun p=>qN p.2) ((xS P t).bind fun z=>qM place (J6 parts) z fun c=>k (.agg c)) ((d6 P t).bind fun z=>qM place (Fs parts) z fun c=>k (.pagg c (parts.any fun p=>lH p.2))))
  ((xS P t).bind fun z=>qM place (Fs parts) z fun c=>k (.agg c))) none
def Ann (P:Program) (t:TypeId):List (Nat×Nat) :=
 match P.underlying t with
 | some (.struct fs)=>fs.toList.filterMap fun f=>match P.underlying f.type with | some (.slice el)=>(Bi P el).map fun s=>(f.offset,s) | _=>none
 | _=>[]
def Sb (P:Program) (t:TypeId):List (Nat×Nat) :=
 match P.underlying t with
 | some (.struct fs)=>fs.toList.flatMap fun f=>match P.underlying f.type with
  | some (.slice el)=>((Bi P el).map fun s=>(f.offset,s)).toList
  | some (.struct _)=>(Ann P f.type).map fun p=>(f.offset+p.1,p.2)
  | _=>[]
 | _=>[]
def F8 (d:Nat):List (Nat×Nat)→Nat→LA→LA×Eo
 | [],_,c=>(c,[])
 | (o,sz)::r,j,c=>match c[o]? with
  | some .nsl=>((F8 d r (j+1) (c.set o (.own (nid d+j) 0 0))).1,(nid d+j,some (F5 sz))::(F8 d r (j+1) (c.set o (.own (nid d+j) 0 0))).2)
  | _=>F8 d r (j+1) c
def Ano {R:Type} (P:Program) (t:TypeId) (co:Bool) (d:Nat) (v:AV) (k:AV→Eo→O R):O R :=
 match co,v with
 | true,.agg c=>cond (ble (Sb P t).length 14) (k (.agg (F8 d (Sb P t) 1 c).1) (F8 d (Sb P t) 1 c).2) none
 | _,v=>k v []
def VW {R:Type} (P:Program) (g:A7) (d:Nat) (t:TypeId) (k:AV→Eo→O R):O R :=
 match qK P t with
 | some (.agg c)=>cond (ble (Sb P t).length 14&&N1 g c) (k (.optr (nid d) 0) ((F8 d (Sb P t) 1 c).2++Sa d false false 0 (F8 d (Sb P t) 1 c).1)) none
 | _=>none
def Alv (P:Program):Nat→TypeId→Nat→List (Nat×TypeId)
 | 0,t,off=>[(off,t)]
 | d+1,t,off=>match P.underlying t with
  | some (.struct fs)=>fs.toList.flatMap fun f=>Alv P d f.type (off+f.offset)
  | _=>[(off,t)]
def Aq5 (P:Program) (t:TypeId):Bool:=match P.underlying t with
 | some (.int _)=>true | some .bool=>true | some .string=>true | some (.slice _)=>true | _=>false
def d9 {R:Type} (P:Program) (c:LA) (org:Bool):List (Nat×TypeId)→LA→(LA→O R)→O R
 | [],acc,k=>k acc
 | (off,t)::r,acc,k=>cond (beq off acc.length&&Aq5 P t) (RG P t (c.drop off) org fun v=>d9 P c org r (acc++[v]) k) none
def iy {R:Type} (P:Program) (co:Bool) (t:TypeId) (v:AV) (k:AV→O R):O R :=
 match co,v with
 | true,.pagg c org=>d9 P c org (Alv P 4 t 0) [] fun l=>cond (beq c.length l.length) (k (.agg l)) none
 | _,v=>k v
def xT {R:Type} (P:Program) (d:Nat) (t:TypeId) (len cap:AV) (k:AV→Eo→O R):O R :=
 match P.underlying t,len,cap with
 | some (.slice el),.int .i64 l,.int .i64 c=>(Bi P el).bind fun sz=>(zH P el).bind fun by_=>(d6 P el).bind fun z =>
  cond (decide (0≤l)&&(decide (l≤c)&&(decide (c≤140737488355328)&&decide (c*(by_:Int)≤140737488355328)))) (
   k (.own (nid d) 0 l.toNat) (Sa d true false sz (Ey l.toNat z))) none
 | _,_,_=>none
def Alw (g:A7) (sz:Nat) (s:AV):Option (LA×Nat×Bool×Eo) :=
 match s with
 | .nsl=>some ([],0,false,[])
 | .imm _ n _ true _=>cond (beq n 0) (some ([],0,false,[])) none
 | .own b off n=>(Fy g b).bind fun x=>cond (x.pure&&(!x.sealed&&beq sz x.sz)) (some ((x.cells.drop off).take (n*sz),n,x.taint,[(b,none)])) none
 | _=>none
def lI (P:Program) (g:A7) (el tx:TypeId) (s:AV):Option (Nat×Nat) :=
 match s with
 | .nsl=>match P.underlying tx with | some .string=>some (el,0) | _=>none
 | .own b off _=>(Fy g b).bind fun x=>(x.ty).bind fun q=>cond (beq q.1 el&&(beq q.2 0&&beq off 0)) (some (el,0)) none
 | _=>none
def zO (P:Program) (t:TypeId):Bool:=match P.underlying t with | some (.slice _)=>true | some .string=>true | _=>false
def VX {R:Type} (P:Program) (g:A7) (d:Nat) (t tx:TypeId) (s x:AV) (k:AV→Eo→O R):O R :=
 match P.underlying t with
 | some (.slice el)=>cond (zO P tx) ( (Bi P el).bind fun sz=>(zH P el).bind fun by_=>(d6 P el).bind fun _ =>
  (Alw g sz s).bind fun old=>a_ P el g sz x fun new =>
  cond (ble (old.2.1+new.2.1) 140737488355328&&ble ((old.2.1+new.2.1)*by_) 140737488355328) (
   k (.own (nid d) 0 (old.2.1+new.2.1)) (old.2.2.2++[(nid d,some { dead:=false,sealed:=false,pure:=true,taint:=old.2.2.1||new.2.2,sz,cells:=old.1++new.1,ty:=lI P g el tx s })])) none) none
 | _=>none
def bB {R:Type} (kd:IntKind):Nat→LA→(LA→O R)→O R
 | 0,_,k=>k []
 | n+1,c,k=>(c.head?).bind fun x=>(YL kd x).bind fun v=>bB kd n (c.drop 1) fun l=>k (.int kd v::l)
def iz {R:Type} (P:Program) (el sz b off n:Nat) (y:Blk) (new:LA×Nat×Bool) (k:AV→Eo→O R):O R :=
 match P.underlying el with
 | some (.int kd)=>cond (beq sz 1&&(ble 1 n&&(beq y.sz 0&&(!y.sealed&&(!y.pure&&(ble n new.2.1&&ble (off+n) y.cells.length)))))) (
   bB kd n new.1 fun vs=>k (.int .i64 (n:Nat)) [(b,some { y with cells:=D9 y.cells off vs })]) none
 | _=>none
def xU {R:Type} (P:Program) (g:A7) (t:TypeId) (s x:AV) (k:AV→Eo→O R):O R :=
 match P.underlying t,s with
 | some (.slice el),.own b off n=>(Bi P el).bind fun sz=>(Fy g b).bind fun y=>a_ P el g sz x fun new =>
  cond (y.pure&&(!y.sealed&&beq sz y.sz)) (
   k (.int .i64 (min new.2.1 n:Nat)) [(b,some { y with cells:=D9 y.cells off (new.1.take ((min new.2.1 n)*sz)),taint:=y.taint||new.2.2 })]) (iz P el sz b off n y new k)
 | some (.slice el),.nsl=>(Bi P el).bind fun sz=>a_ P el g sz x fun _=>k (.int .i64 0) []
 | _,_=>none
def jA {R:Type} (P:Program) (g:A7) (t:TypeId) (s:AV) (k:AV→Eo→O R):O R :=
 match P.underlying t,s with
 | some (.slice el),.own b off n=>(Bi P el).bind fun sz=>(d6 P el).bind fun z=>(Fy g b).bind fun y =>
  cond (y.pure&&(!y.sealed&&beq sz y.sz)) (k (.tup []) [(b,some { y with cells:=D9 y.cells off (Ey n z) })]) none
 | _,_=>none
def xV {R:Type} (P:Program) (g:A7) (d:Nat) (src dst:TypeId) (x:AV) (k:AV→Eo→O R):O R :=
 match P.underlying dst with
 | some (.int kd)=>match x with | .int _ n=>cond (P.underlying src).isSome (k (.int kd (kd.wrap n)) []) none | _=>none
 | some .string=>match P.underlying src with
  | some .string=>match x with | .str s=>k (.str s) [] | _=>none
  | some (.slice el)=>match P.underlying el with
   | some (.int .u8)=>match x with
    | .str _=>none
    | x=>(xR g 1 x).bind fun q=>(Wc q.1).bind fun s=>k (.str s) []
   | _=>none
  | _=>none
 | some (.slice el)=>match P.underlying src,P.underlying el,x with
  | some (.slice _),some (.int .u8),.own b off n=>cond (beq src dst&&ble 1 n) ((Fy g b).bind fun x=>cond x.sealed none (k (.own b off n) [])) none
  | some .string,some (.int .u8),.str s=>k (.own (nid d) 0 s.length) (Sa d true false 1 (s.map fun b=>.int .u8 (b.toNat:Int)))
  | _,_,_=>none
 | _=>none
def jB {R:Type} (P:Program) (g:A7) (d:Nat) (src dst:TypeId) (x:AV) (k:AV→Eo→O R):O R :=
 match P.underlying dst with
 | some .unsafePointer=>match P.underlying src,x with
  | some (.pointer t),.optr b off=>(Bi P t).bind fun n=>(Fy g b).bind fun y=>cond (!(beq n 0)&&Nat.blt off y.cells.length) (k (.optr b off) []) none
  | _,_=>none
 | some (.pointer u)=>match P.underlying src,x with
  | some .unsafePointer,.optr b off=>(Bi P u).bind fun _=>(Fy g b).bind fun y=>(y.ty).bind fun q =>
    cond (Nat.blt 0 q.2&&(Nat.blt 0 y.cells.length&&liesAt P P.depth q.1 (q.2/P.cellsOf q.1) off u 1)) (k (.optr b off) []) none
  | _,_=>none
 | _=>xV P g d src dst x k
def ph:AV→Option UInt8
 | .int .u8 n=>cond (decide (((UInt8.ofNat n.toNat).toNat:Int)=n)) (some (UInt8.ofNat n.toNat)) none
 | _=>none
def Sc:LA→Option Lu
 | []=>some []
 | x::r=>(ph x).bind fun b=>(Sc r).bind fun l=>some (b::l)
def Uz {R:Type} (g:A7) (x:AV) (k:AV→Eo→O R):O R :=
 match x with
 | .nsl=>k .nilptr []
 | .own b off n=>(Fy g b).bind fun _=>cond (Nat.blt 0 n) (k (.optr b off) []) none
 | _=>none
def U0 {R:Type} (P:Program) (g:A7) (t:TypeId) (x n:AV) (k:AV→Eo→O R):O R :=
 match x,n with
 | .nilptr,.int .i64 n=>cond (n==0) (k (.str []) []) none
 | .optr b off,.int .i64 n=>(Fy g b).bind fun y=>(y.ty).bind fun q=>match P.underlying t with
  | some (.pointer e)=>cond (beq q.1 e&&(beq (P.cellsOf e) 1&&(y.pure&&(!y.sealed&&(beq off 0&&(decide (0<n)&&(decide (n≤(y.cells.length:Int))&&decide (n≤9223372036854775807))))))))
    ((Sc (y.cells.take n.toNat)).bind fun s=>k (.str s) [(b,none)]) none
  | _=>none
 | _,_=>none
def qP:LA→Int→Bool
 | [],_=>false
 | .int _ m::r,n=>cond (n==m) true (qP r n)
 | _::r,n=>qP r n
def Aq6 (c:LA) (n:Int):LA:=cond (qP c n) c (c++[.int .i64 n])
def zP (P:Program) (t:TypeId):Bool:=match P.underlying t with
 | some (.map k e)=>(match P.underlying k with | some (.int .i64)=>true | _=>false)&&(match qK P e with | some (.bool false)=>true | _=>false)
 | _=>false
def BR {R:Type} (d:Nat) (r:Option AV) (k:AV→Eo→O R):O R :=
 match r with
 | none=>k (.omap (nid d)) [(nid d,some { dead:=false,sealed:=false,pure:=true,taint:=false,sz:=0,cells:=[],mp:=true })]
 | some _=>none
def jC {R:Type} (P:Program) (g:A7) (t:TypeId) (m key val:AV) (k:AV→Eo→O R):O R :=
 match m,key,val with
 | .omap b,.int .i64 n,.bool true=>cond (zP P t) ((Fy g b).bind fun x=>cond (x.mp&&beq x.sz 0) (k .undef [(b,some { x with cells:=Aq6 x.cells n })]) none) none
 | _,_,_=>none
def xW {R:Type} (P:Program) (g:A7) (t:TypeId) (m key:AV) (comma:Bool) (k:AV→O R):O R :=
 match m,key,comma with
 | .omap b,.int .i64 n,false=>cond (zP P t) ((Fy g b).bind fun x=>cond (x.mp&&beq x.sz 0) (k (.bool (qP x.cells n))) none) none
 | _,_,_=>none
def Sd (s:Lu) (p:Int):Nat×Nat:=Utf8.decode ⟨⟨s⟩⟩ p.toNat
def jD {R:Type} (P:Program) (d:Nat) (t:TypeId) (x:AV) (k:AV→Eo→O R):O R :=
 match P.underlying t,x with
 | some .string,.str s=>k (.omap (nid d)) [(nid d,some { dead:=false,sealed:=false,pure:=true,taint:=false,sz:=1,cells:=[.str s,.int .i64 0],mp:=true })]
 | _,_=>none
def xX {R:Type} (g:A7) (it:AV) (isString:Bool) (k:AV→Eo→O R):O R :=
 match it,isString with
 | .omap b,true=>(Fy g b).bind fun x=>cond (x.mp&&beq x.sz 1)
  (match x.cells with
   | [.str s,.int .i64 p]=>cond (decide (p<(s.length:Int)))
     (k (.tup [.bool true,.int .i64 p,.int .i32 ((Sd s p).1:Nat)]) [(b,some { x with cells:=[.str s,.int .i64 (p+((Sd s p).2:Nat))] })]) (k (.tup [.bool false]) [])
   | _=>none) none
 | _,_=>none
def Aq7 (g:A7) (x y:AV):Option Bool :=
 match x,y with
 | .nilptr,.nilptr=>some true
 | .nilptr,.optr _ _=>some false
 | .optr _ _,.nilptr=>some false
 | .nilptr,.iptr _ _=>some false
 | .iptr _ _,.nilptr=>some false
 | .optr b o,.optr b' o'=>(Fy g b).bind fun _=>cond (beq b b') (some (beq o o')) none
 | _,_=>none
def Ah7 (P:Program) (t:TypeId):Bool:=match P.underlying t with
 | some (.pointer e)=>match Bi P e with | some n=>!(beq n 0) | none=>false
 | _=>false
def xY {R:Type} (P:Program) (g:A7) (t:TypeId) (op:BinOp) (x y:AV) (r:AV→O R):O R :=
 match Aq7 g x y with
 | some b=>cond (Ah7 P t) (match op with
  | .eql=>r (.bool b)
  | .neq=>r (.bool (!b))
  | _=>none) none
 | none=>xQ P t op x y r
mutual
def Gq:AV→List Nat
 | .own b _ _=>[b]
 | .optr b _=>[b]
 | .omap b=>[b]
 | .agg c=>Io c
 | .tup c=>Io c
 | .fn _ c=>Io c
 | _=>[]
def Io:List AV→List Nat
 | []=>[]
 | v::r=>Gq v++Io r
end
mutual
def XM (ρ:Nat→Nat):AV→AV
 | .own b off n=>.own (ρ b) off n
 | .optr b off=>.optr (ρ b) off
 | .omap b=>.omap (ρ b)
 | .agg c=>.agg (Y8 ρ c)
 | .tup c=>.tup (Y8 ρ c)
 | .fn f c=>.fn f (Y8 ρ c)
 | v=>v
def Y8 (ρ:Nat→Nat):List AV→List AV
 | []=>[]
 | v::r=>XM ρ v::Y8 ρ r
end
def LK (g:A7):AV→Option (AV×Bool)
 | .own b off n=>(Fy g b).bind fun x=>cond x.pure (some (.imm ((x.cells.drop off).take (n*x.sz)) n x.sz false (!x.sealed||x.taint),!x.sealed||x.taint)) none
 | .imm c n sz _ org=>some (.imm c n sz false org,org)
 | .iptr c org=>some (.iptr c org,org)
 | .optr .. | .agg _ | .tup _ | .undef | .fn .. | .pagg .. | .omap _=>none
 | v=>some (v,false)
def RK (g:A7):LA→Option (LA×Bool)
 | []=>some ([],false)
 | v::r=>(LK g v).bind fun p=>(RK g r).bind fun q=>some (p.1::q.1,p.2||q.2)
def zQ (g:A7):AV→Option (AV×Bool)
 | .own b off n=>(Fy g b).bind fun x=>cond x.pure (some (.imm ((x.cells.drop off).take (n*x.sz)) n x.sz false (!x.sealed||x.taint),!x.sealed)) none
 | .imm c n sz _ org=>some (.imm c n sz false org,false)
 | .optr b off=>(Fy g b).bind fun x=>cond x.pure (some (.iptr (x.cells.drop off) (!x.sealed||x.taint),!x.sealed)) none
 | .agg c=>(RK g c).bind fun q=>some (.pagg q.1 q.2,true)
 | .fn f []=>some (.fn f [],false)
 | .fn _ _ | .tup _ | .undef | .omap _=>none
 | v=>some (v,false)
def I9 (d:Nat):List (Nat×Nat)→Nat→Nat
 | [],_=>d
 | (i,x)::r,b=>cond (beq i b) x (I9 d r b)
def Ip:List Nat→Nat→Bool
 | [],_=>false
 | i::r,b=>cond (beq i b) true (Ip r b)
def lJ:List Nat→List Nat→List Nat
 | [],acc=>acc.reverse
 | i::r,acc=>cond (Ip acc i) (lJ r acc) (lJ r (i::acc))
def RL:List Nat→Bool
 | []=>true
 | i::r=>!Ip r i&&RL r
def Ax (base:Nat):List Nat→List (Nat×Nat)
 | []=>[]
 | i::r=>(i,base)::Ax (base+1) r
def Ld (g:A7):List Nat→List Nat
 | []=>[]
 | b::r=>(match g b with | some x=>cond x.pure [] (Io x.cells) | none=>[])++Ld g r
def BS (g:A7) (ids:List Nat):List Nat:=lJ (ids++Ld g (ids++Ld g ids)) []
def RM (g:A7):List Nat→Bool
 | []=>true
 | b::r=>(match g b with | some x=>!x.dead | none=>false)&&RM g r
def EE (ρ:Nat→Nat) (x:Blk):Blk:={ x with cells:=cond x.pure x.cells (Y8 ρ x.cells) }
def sub (g:A7) (ρ:Nat→Nat):List Nat→Az
 | []=>[]
 | b::r=>match g b with
  | some x=>Ff (sub g ρ r) (ρ b) (EE ρ x)
  | none=>sub g ρ r
structure Tw where
 runK:{R:Type}→List AV→Az→(AV→Az→O R)→O R
 eq:∀ {R:Type} (args:List AV) (h:Az) (k:AV→Az→O R),runK args h k=(runK args h fun v h'=>some (v,h')).bind fun p=>k p.1 p.2
def d_ {R:Type}:List (Nat×Tw)→Nat→LA→Az→(AV→Az→O R)→O R
 | [],_,_,_,_=>none
 | (g,t)::r,f,args,h,k=>cond (beq g f) (t.runK args h k) (d_ r f args h k)
structure Env where
 P:Program
 nt:Nat
 muts:Nat→List Bool
 nils:List (Nat×Nat)
 free:List Nat
 cob:List Nat
 tbl:List (Nat×Tw)
mutual
def GN:AV→Bool
 | .imm _ _ _ _ o=>o
 | .iptr _ o=>o
 | .pagg _ o=>o
 | .agg c=>Wd c
 | .tup c=>Wd c
 | .fn _ c=>Wd c
 | _=>false
def Wd:List AV→Bool
 | []=>false
 | v::r=>GN v||Wd r
end
def dm:Az→Bool
 | []=>false
 | (_,x)::r=>x.taint||(cond x.pure false (Wd x.cells))||dm r
def J7 (g:A7):LA→List Nat
 | []=>[]
 | .own b _ _::r=>match g b with | some x=>cond x.sealed (J7 g r) (b::J7 g r) | none=>J7 g r
 | _::r=>J7 g r
def HW (g:A7):AV→List Nat
 | .own b _ _=>match g b with | some x=>cond x.sealed [] [b] | none=>[]
 | .optr b _=>match g b with | some x=>cond x.sealed [] [b] | none=>[]
 | .agg c=>J7 g c
 | _=>[]
def HX (g:A7):List Bool→LA→Option (LA×List Nat×List Nat)
 | _,[]=>some ([],[],[])
 | ms,v::r =>
  cond (ms.headD false)
   ((HX g ms.tail r).bind fun q=>some (v::q.1,Gq v++q.2.1,q.2.2))
   ((zQ g v).bind fun p=>(HX g ms.tail r).bind fun q=>some (p.1::q.1,q.2.1,HW g v++q.2.2))
def PD (ids:List Nat):List Nat→Bool
 | []=>true
 | b::r=>Ip ids b&&PD ids r
def Ade:List Nat→List Nat→Bool
 | [],_=>true
 | i::r,l=>!Ip l i&&Ade r l
def zR:List Nat→Bool
 | []=>true
 | _=>false
def xZ {R:Type} (E:Env) (g:A7) (d:Nat) (f:Nat) (args:LA) (k:AV→Eo→O R):O R :=
 (HX g (E.muts f) args).bind fun q =>
 let ids:=BS g q.2.1
 let tin:=Ax 100000 ids
 let outs:=tin.map (·.2)
 cond (RM g ids&&(PD ids q.2.1&&(PD ids (Ld g ids)&&(Ade q.2.2 ids&&(RL (ids.map (I9 0 tin))&&ble ids.length 100000))))) (
  d_ E.tbl f (Y8 (I9 0 tin) q.1) (sub g (I9 0 tin) ids) fun rv rh =>
  let all:=BS (An rh) (Gq rv++outs)
  let new:=all.filter fun b=>!Ip outs b
  let tnew:=Ax (nid d) new
  let σ:=I9 0 ((tin.map fun p=>(p.2,p.1))++tnew)
  cond (!zR q.2.2&&(GN rv||dm rh)) none
   (cond (RM (An rh) new&&(ble new.length 16&&(PD all (Gq rv)&&(PD all outs&&(PD all (Ld (An rh) all)&&RL (all.map σ))))))
    (k (XM σ rv) ((tin.map fun p=>(p.1,(An rh p.2).map (EE σ)))++tnew.map fun p=>(p.2,(An rh p.1).map (EE σ)))) none)) none
def x9 {R:Type} (c a b:AV) (k:AV→O R):O R :=
 match c,a,b with
 | .bool t,.bool x,.bool y=>k (.bool (cond t x y))
 | .bool t,x,.tup []=>cond t (k x) none
 | .bool t,.tup [],y=>cond t none (k y)
 | .bool t,x,y=>cond t (k x) (k y)
 | _,_,_=>none
def zS (P : Program) (f : Nat) : Bool := match P.funcs[f]? with | some fn => fn.body.isSome && !(fn.name == "runtime.NumGoroutine") | none => false
def Aq8 (P : Program) (f : Nat) : Bool := match P.funcs[f]? with | some fn => fn.body.isNone && (fn.name == "internal/abi.NoEscape" && fn.origin == "") | none => false
def Js (a b:Int):Int:=cond (decide (b<a)) b a
def bC (a b:Int):Int:=cond (decide (b>a)) b a
def Anp:AV→AV→Option AV
 | .int k a,.int _ b=>some (.int k (Js a b))
 | _,_=>none
def Anq:AV→AV→Option AV
 | .int k a,.int _ b=>some (.int k (bC a b))
 | _,_=>none
def vS {R:Type} (E:Env) (g:A7) (d:Nat) (v:Operand→AV) (o:Op) (k:AV→Eo→O R):O R :=
 match o with
 | .move x=>k (v x) []
 | .assign x=>k (v x) []
 | .pick c a b=>x9 (v c) (v a) (v b) fun r=>k r []
 | .alloc t=>cond (Ip E.cob (d+1000000)) (VW E.P g d t k) (ix E.P g (Ip E.cob d) d t k)
 | .box t x=>iy E.P (Ip E.cob d) t (v x) fun u=>Adc E.P g d t u k
 | .build t parts=>zN E.P t (parts.toList.map fun p=>(p.1,v p.2)) fun r=>Ano E.P t (Ip E.cob d) d r k
 | .buildSlice t len parts=>cond ((parts.toList.map fun p=>(p.1,v p.2)).any fun p=>Aq4 p.2) (Uy E.P g d t len (parts.toList.map fun p=>(p.1,v p.2)) k) (Ri E.P g d t len (parts.toList.map fun p=>(p.1,v p.2)) k)
 | .load t a=>qL E.P g t (v a) fun r=>k r []
 | .store t a x=>iw E.P g t (v a) (v x) k
 | .nilCheck x=>match v x with | .iptr c o=>k (.iptr c o) [] | .optr b o=>k (.optr b o) [] | _=>none
 | .binOp op t x y _=>xY E.P g t op (v x) (v y) fun r=>k r []
 | .unOp op _ x=>(Ayn op (v x)).bind fun r=>k r []
 | .convert s t x=>jB E.P g d s t (v x) k
 | .makeFunc (.func f) first caps=>cond (Nat.blt f 1000000) (k (.fn (f+1000000*first.toList.length) ((first.toList++caps.toList).map v)) []) none
 | .makeSlice t l c=>xT E.P d t (v l) (v c) k
 | .slice t x lo hi mx=>iq E.P g t (v x) (lo.map v) (hi.map v) (mx.map v) fun r=>k r []
 | .fieldAddr t x f=>Ux E.P t (v x) f fun r=>k r []
 | .field t x f=>ik E.P t (v x) f fun r=>k r []
 | .indexAddr t x i=>Uw E.P t (v x) (v i) fun r=>k r []
 | .index t x i=>ip E.P t (v x) (v i) fun r=>k r []
 | .makeMap _ r=>BR d (r.map v) k
 | .mapUpdate t m x y=>jC E.P g t (v m) (v x) (v y) k
 | .lookup t m x c=>xW E.P g t (v m) (v x) c fun r=>k r []
 | .range t x=>jD E.P d t (v x) k
 | .next it s=>xX g (v it) s k
 | .extract t i=>match v t with | .tup vs=>(vs[i]?).bind fun r=>k r [] | _=>none
 | .call c=>match c.callee with
  | .builtin .len=>match c.args.toList,c.argTypes.toList with | [x],[t]=>(Av7 E.P t (v x)).bind fun r=>k r [] | _,_=>none
  | .builtin .append=>match c.args.toList,c.argTypes.toList with | [s,x],[t,tx]=>VX E.P g d t tx (v s) (v x) k | _,_=>none
  | .builtin .copy=>match c.args.toList,c.argTypes.toList with | [s,x],[t,_]=>xU E.P g t (v s) (v x) k | _,_=>none
  | .builtin .clear=>match c.args.toList,c.argTypes.toList with | [x],[t]=>jA E.P g t (v x) k | _,_=>none
  | .builtin .min=>match c.args.toList with | [x,y]=>(Anp (v x) (v y)).bind fun r=>k r [] | [x,y,z]=>(Anp (v x) (v y)).bind fun q=>(Anp q (v z)).bind fun r=>k r [] | _=>none
  | .builtin .max=>match c.args.toList with | [x,y]=>(Anq (v x) (v y)).bind fun r=>k r [] | [x,y,z]=>(Anq (v x) (v y)).bind fun q=>(Anq q (v z)).bind fun r=>k r [] | _=>none
  | .builtin .unsafeSliceData=>match c.args.toList with | [x]=>Uz g (v x) k | _=>none
  | .builtin .unsafeString=>match c.args.toList,c.argTypes.toList with | [x,y],[t,_]=>U0 E.P g t (v x) (v y) k | _,_=>none
  | .value fo=>match v fo with
   | .fn f caps=>cond (zS E.P (f%1000000)) (xZ E g d (f%1000000) (caps.take (f/1000000)++(c.args.toList.map v++caps.drop (f/1000000))) k)
     (cond (Aq8 E.P (f%1000000)) (match caps,c.args.toList.map v with | [],[x]=>k x [] | _,_=>none) none)
   | _=>none
  | _=>none
 | _=>none
structure Foot where
 r:List Nat
 w:Option Nat
 f:List Nat
 u:List Nat
def bE:List Operand→List Nat
 | []=>[]
 | .tmp t::r=>t::bE r
 | _::r=>bE r
def Am:Eo→Az→Az
 | [],h=>h
 | (b,some x)::r,h=>Am r (Ff h b x)
 | (b,none)::r,h=>Am r (match An h b with | some x=>Ff h b { x with dead:=true,pure:=true,cells:=[] } | none=>h)
def VY (ops:Array Oper) (o:Oper):Option (Nat×Bool) :=
 match o.guard with
 | none=>none
 | some (j,want)=>((ops[j]?).bind (·.dst)).map fun t=>(t,want)
def LL (ops:Array Oper) (s:Gp) (o:Oper):Option Bool :=
 match o.guard with
 | none=>some true
 | some (j,want)=>match (ops[j]?).bind (·.dst) with
  | some t=>match F4 s t with
   | .bool b=>some (b==want)
   | .tup []=>some false
   | _=>none
  | none=>some false
def Ah8 (nt:Nat) (s:Gp) (d:Option Nat) (v:AV):Gp:=match d with | some d=>cond (Nat.blt d nt) (a8 s d v) s | none=>s
def Alx:Op→Bool
 | .binOp op ..=>match op with | .eql | .neq=>true | _=>false
 | .move _ | .assign _ | .pick .. | .build .. | .unOp .. | .makeFunc .. | .fieldAddr .. | .field .. | .indexAddr .. | .index .. | .extract .. | .nilCheck _=>false
 | .call c=>match c.callee with
  | .builtin .len | .builtin .min | .builtin .max=>false
  | _=>true
 | _=>true
def Aly:Op→Bool
 | .load .. | .binOp ..=>true
 | _=>false
def Yn (h:Az) (op:Op) (vals:LA):List Nat:=cond (Alx op) (cond (Aly op) (lJ (Io vals) []) (BS (An h) (Io vals))) []
def HY (d b:Nat):Bool:=ble (nid d) b&&Nat.blt b (nid d+16)
def YN (d:Nat) (F:List Nat) (h:Az):Eo→Bool
 | []=>true
 | (b,_)::r=>cond (HY d b) (An h b).isNone (Ip F b&&(An h b).isSome)&&YN d F h r
def Adf {R:Type} (E:Env) (ops:Array Oper) (o:Oper) (st:St) (k:St→Foot→O R):O R :=
 (LL ops st.s o).bind fun wanted=>cond wanted (
  vS E (fun b=>cond (Ip (Yn st.h o.op (o.op.operands.toList.map (ev st.s))) b) (An st.h b) none) (o.dst.getD 50000) (ev st.s) o.op fun v ups =>
  cond (YN (o.dst.getD 50000) (Yn st.h o.op (o.op.operands.toList.map (ev st.s))) st.h ups)
   (k { s:=Ah8 E.nt st.s o.dst v,h:=Am ups st.h } { r:=(match VY ops o with | some p=>[p.1] | none=>[])++bE o.op.operands.toList,w:=o.dst,f:=Yn st.h o.op (o.op.operands.toList.map (ev st.s)),u:=ups.map (·.1) }) none)
  (k { st with s:=Ah8 E.nt st.s o.dst (.tup []) } { r:=(match VY ops o with | some p=>[p.1] | none=>[]),w:=o.dst,f:=[],u:=[] })
def jE {R:Type} (ops:Array Oper) (o:Oper) (st:St) (k:St→O R):O R :=
 match o.guard with
 | none=>k st
 | some (j,want)=>match (ops[j]?).bind (·.dst) with
  | none=>k st
  | some t=>match F4 st.s t with
   | .bool b=>cond (b==want) (k { s:=a8 st.s t (.bool want),h:=st.h }) (k { s:=a8 st.s t (.bool (!want)),h:=st.h })
   | _=>k st
def qQ {R:Type} (E:Env) (ops:Array Oper):List Oper→St→List Foot→(St→List Foot→O R)→O R
 | [],st,tr,k=>k st tr
 | o::r,st,tr,k=>jE ops o st fun st=>Adf E ops o st fun st f=>qQ E ops r st (f::tr) k
def Ayf:Option Nat→List Nat→Bool
 | none,_=>false
 | some d,l=>Ip l d
def lK (a b:Foot):Bool :=
 !Ayf a.w b.r&&!Ayf b.w a.r&&(match a.w,b.w with | some x,some y=>!beq x y | _,_=>true)&&Ade a.u (b.f++b.u)&&Ade b.u a.f
def RN (e:Edge):Bool:=match e.ground with | .textOnly _=>false | .gcOnly _=>false | _=>true
def LM (o:Oper):List Nat:=(o.after.toList.filter RN).map (·.on)
def zT {α:Type}:List Nat→(List Nat→α)→α
 | [],k=>k []
 | i::r,k=>zT r fun s=>k (i::s)
theorem HZ {α:Type}:∀ (l:List Nat) (k:List Nat→α),zT l k=k l
 | [],_=>rfl
 | i::r,k=>by rw[zT,HZ r]
def Gg:List Oper→List (List Nat)→List (List Nat)
 | [],acc=>acc
 | o::r,acc=>zT (lJ (LM o++((LM o).flatMap fun i=>(acc[i]?).getD [])) []) fun a=>Gg r (acc++[a])
def AZ:Nat→List Oper→Bool
 | _,[]=>true
 | i,o::r=>(o.after.toList.all fun e=>!RN e||Nat.blt e.on i)&&AZ (i+1) r
def dn (f:Foot) (anc:List Nat):Nat→List Foot→Bool
 | _,[]=>true
 | i,g::r=>(Ip anc i||lK g f)&&dn f anc (i+1) r
def VZ:List Foot→List (List Nat)→List Foot→Bool
 | [],_,_=>true
 | f::r,a::az9,seen=>dn f a 0 seen&&VZ r az9 (seen++[f])
 | _::_,[],_=>false
def Le (b:Nat):Nat:=cond (ble Hb b) (b - Hb) b
mutual
def BT (g:A7):AV→AV
 | .own b off n=>match Fy g b with | some _=>.own (Le b) off n | none=>.undef
 | .optr b off=>match Fy g b with | some _=>.optr (Le b) off | none=>.undef
 | .omap b=>match Fy g b with | some _=>.omap (Le b) | none=>.undef
 | .agg c=>.agg (J8 g c)
 | .tup c=>.tup (J8 g c)
 | .fn f c=>.fn f (J8 g c)
 | v=>v
def J8 (g:A7):List AV→List AV
 | []=>[]
 | v::r=>BT g v::J8 g r
end
def jF (g:A7) (K:List Nat):Gp→Gp
 | []=>[]
 | (t,v)::r=>cond (Ip K t) ((t,BT g v)::jF g K r) (jF g K r)
def qR (K:List Nat):Gp→List Nat
 | []=>[]
 | (t,v)::r=>cond (Ip K t) (Gq v++qR K r) (qR K r)
def BU (g:A7):List Nat→Az
 | []=>[]
 | b::r=>match Fy g b with
  | some x=>Ff (BU g r) (Le b) { x with cells:=cond x.pure x.cells (J8 g x.cells) }
  | none=>BU g r
def EH (g:A7) (ids:List Nat):List Nat:=ids.filter fun b=>match Fy g b with | some _=>true | none=>false
def qS (g:A7) (ids:List Nat):List Nat→Bool
 | []=>true
 | b::r=>(Ip ids b||(Fy g b).isNone)&&qS g ids r
def Alz:List Nat→Bool
 | []=>true
 | b::r=>cond (ble Hb b) (Nat.blt (Le b) 100000) true&&Alz r
def clean (K roots:List Nat) (st:St):Option St :=
 let g:=An st.h
 let ids:=EH g (BS g (qR K st.s++roots))
 cond (RL (ids.map Le)&&(qS g ids (qR K st.s)&&(qS g ids (Ld g ids)&&Alz ids))) (some { s:=jF g K st.s,h:=BU g ids }) none
def V_ {R:Type} (E:Env) (roots:List Nat) (ops:Array Oper) (draw:Bool) (st:St) (k:St→O R):O R :=
 qQ E ops ops.toList st [] fun st tr =>
  cond (!draw||(AZ 0 ops.toList&&VZ tr.reverse (Gg ops.toList []) [])) ((clean (st.s.map (·.1)) roots st).bind k) none
def qT (b:Nat):Bool:=ble 100000 b&&Nat.blt b 200000
def LN (live:List Nat):List (Nat×Nat)→St→Option St
 | [],st=>some st
 | (t,sz)::r,st=>cond (ble 1000000 sz)
  (match Ip live t,F4 st.s t with
  | true,.nsl=>LN live r { s:=a8 st.s t (.imm [] 0 (sz - 1000000) false false),h:=st.h }
  | true,.own b off n=>(YM (An st.h) (.own b off n)).bind fun q=>LN live r { s:=a8 st.s t q.1,h:=Am q.2.1 st.h }
  | _,_=>LN live r st)
  (match Ip live t,F4 st.s t with
  | true,.nsl=>cond (An st.h (nid t+15)).isSome none (LN live r { s:=a8 st.s t (.own (nid t+15) 0 0),h:=Ff st.h (nid t+15) (F5 sz) })
  | _,_=>LN live r st)
def H_ (free:List Nat) (b:Nat):Bool:=qT b&&!Ip free b
def Aq9 (free ids:List Nat):List (Nat×Nat):=Ax 300000 (ids.filter fun b=>!H_ free b)
def BV (free ids:List Nat) (b:Nat):Nat:=cond (H_ free b) b (I9 0 (Aq9 free ids) b)
def Ara (ρ:Nat→Nat) (K:List Nat):Gp→Gp
 | []=>[]
 | (t,v)::r=>cond (Ip K t) ((t,XM ρ v)::Ara ρ K r) (Ara ρ K r)
def dp (E:Env) (live roots:List Nat) (st:St):Option St :=
 (LN live E.nils st).bind fun st =>
 let g:=An st.h
 let ids:=EH g (BS g (qR live st.s++roots))
 cond (RL (ids.map (BV E.free ids))&&(PD ids (qR live st.s)&&(PD ids (Ld g ids)&&ble ids.length 100000))) (some { s:=Ara (BV E.free ids) live st.s,h:=sub g (BV E.free ids) ids }) none
inductive Hint where
 | leaf
 | node (live:List Nat) (a b:Hint)
 | join (live:List Nat) (a b:Hint)
def Hint.live:Hint→List Nat
 | .leaf=>[]
 | .node l _ _=>l
 | .join l _ _=>l
def Hint.a:Hint→Hint
 | .leaf=>.leaf
 | .node _ a _=>a
 | .join _ a _=>a
def Hint.b:Hint→Hint
 | .leaf=>.leaf
 | .node _ _ b=>b
 | .join _ _ b=>b
def Hint.isJoin:Hint→Bool
 | .join _ _ _=>true
 | _=>false
noncomputable def Af {α:Type} (a:α):{ x:α // x=a }:=Classical.choice ⟨⟨a,rfl⟩⟩
noncomputable def Arb {R:Type} (j:Bool) (f:St→O R):St→O R:=cond j (Af f).1 f
theorem EI {R:Type} (j:Bool) (f:St→O R):Arb j f=f:=by cases j;rfl;exact(Af f).2
noncomputable def Anr {R:Type} (E:Env) (roots:List Nat) (H:Hint) (f:St→O R) (st:St):O R:=cond H.isJoin ((dp E H.live roots st).bind (Arb true f)) (f st)
def RO {R:Type} (cn:St→Option St) (body:(St→O R)→St→O R):Nat→St→O R
 | 0,_=>none
 | n+1,st=>body (fun st=>(cn st).bind (RO cn body n)) st
noncomputable def F6 {R:Type} (E:Env) (roots:List Nat) (N:Nat):Code→Hint→(St→O R)→(Nat→St→O R)→(St→O R)→St→O R
 | .skip,_,k,_,_,st=>k st
 | .region _ ops draw,_,k,_,_,st=>V_ E roots ops draw st k
 | .seq a b,H,k,x,r,st=>F6 E roots N a H.a (Anr E roots H fun st=>F6 E roots N b H.b k x r st) x r st
 | .cond c a b,H,k,x,r,st=>match ev st.s c with
  | .bool t=>cond t (F6 E roots N a H.a k x r st) (F6 E roots N b H.b k x r st)
  | _=>none
 | .block id c,H,k,x,r,st=>F6 E roots N c H.a k (fun j st=>cond (beq j id) (k st) (x j st)) r st
 | .loop c,H,_,x,r,st=>(dp E H.live roots st).bind (Arb true (RO (dp E H.live roots) (fun k st=>F6 E roots N c H.a k x r st) N))
 | .exit id,_,_,x,_,st=>x id st
 | .ret,_,_,_,r,st=>r st
 | _,_,_,_,_,_=>none
def N2 {R:Type} (E:Env) (st:St):List ResultVar→LA→(LA→O R)→O R
 | [],acc,k=>k acc.reverse
 | .tmp t::r,acc,k=>N2 E st r (F4 st.s t::acc) k
 | .cell a t::r,acc,k=>qL E.P (An st.h) t (F4 st.s a) fun v=>N2 E st r (v::acc) k
def Av8 (g:A7) (i:Nat) (m:Nat×Nat) (v:AV):Option (AV×Eo) :=
 cond (beq m.1 0) (some (v,[]))
 (cond (beq m.1 1) (match v with
  | .nsl=>some (.imm [] 0 m.2 false false,[])
  | .imm c n sz _ o=>some (.imm c n sz false o,[])
  | .own b off n=>(YM g (.own b off n)).bind fun q=>some (q.1,q.2.1)
  | _=>none)
 (cond (beq m.1 2) (match v with
  | .nsl=>cond (g (nid 90000+i)).isSome none (some (.own (nid 90000+i) 0 0,[(nid 90000+i,some (F5 m.2))]))
  | v=>some (v,[]))
 (match v with
  | .agg c=>(BQ g c).bind fun q=>some (.pagg q.1 q.2.2,q.2.1)
  | .pagg c o=>some (.pagg c o,[])
  | _=>none)))
def Adg (h:Az):Nat→List (Nat×Nat)→LA→Option (LA×Az)
 | _,_,[]=>some ([],h)
 | i,ms,v::r=>(Av8 (An h) i (ms.headD (0,0)) v).bind fun p=>(Adg (Am p.2 h) (i+1) ms.tail r).bind fun q=>some (p.1::q.1,q.2)
def Av9 (l:LA):AV:=match l with | [v]=>v | l=>.tup l
def Zs {R:Type} (E:Env) (fn:Func) (modes:List (Nat×Nat)) (outs:List Nat) (k:AV→Az→O R) (st:St):O R :=
 N2 E st fn.results.toList [] fun l =>
 (Adg st.h 0 modes l).bind fun q =>
 let v:=Av9 q.1
 let g:=An q.2
 let ids:=EH g (BS g (Gq v++outs))
 cond (RL (ids.map (BV E.free ids))&&(PD ids (Gq v)&&(PD ids (Ld g ids)&&ble ids.length 100000))) (k (XM (BV E.free ids) v) (sub g (BV E.free ids) ids)) none
def x_:Nat→LA→Gp
 | _,[]=>[]
 | i,v::r=>(i,v)::x_ (i+1) r
structure Hints where
 H:Hint
 nils:List (Nat×Nat):=[]
 modes:List (Nat×Nat):=[]
 free:List Nat:=[]
 cob:List Nat:=[]
def pi:Az→Bool
 | []=>true
 | (b,_)::r=>qT b&&pi r
noncomputable def xa {R:Type} (P:Program) (muts:Nat→List Bool) (T:List (Nat×Tw)) (hs:Hints) (N f:Nat) (args:LA) (h:Az) (k:AV→Az→O R):O R :=
 match P.funcs[f]? with
 | none=>none
 | some fn=>match fn.body with
  | none=>none
  | some c =>
   let E:Env:={ P,nt:=fn.ntmps,muts,nils:=hs.nils,free:=hs.free,cob:=hs.cob,tbl:=T }
   let outs:=h.map (·.1)
   let fin:=Zs E fn hs.modes outs k
   cond (ble args.length fn.ntmps&&pi h) (F6 E outs N c hs.H fin (fun _ _=>none) fin { s:=x_ 0 args,h }) none
end Gx
namespace Gx
open Go
mutual
def RepC (J:Nat→Prop) (w:World):AV→Value→Prop
 | .int k n,v=>v=.int k n
 | .bool b,v=>v=.bool b
 | .str s,v=>v=.string ⟨⟨s⟩⟩
 | .nsl,v=>v=.slice none 0 0
 | .imm c len sz tight _,v=>c.length=len*sz∧∃ A cap,v=.slice A len cap∧len≤cap∧(tight=true→cap=len) ∧
   (len=0∨∃ a,A=some a∧J a.block∧RepCs J w c (fun j=>w.cell? (a.add j)) 0)
 | .iptr c _,v=>∃ a,v=.pointer (some a)∧J a.block∧RepCs J w c (fun j=>w.cell? (a.add j)) 0
 | .nilptr,v=>v=.pointer none
 | .nilfn,v=>v=.nilFunc
 | .fn f [],v=>v=.func (.func (f%1000000)) #[] #[]
 | _,_=>False
def RepCs (J:Nat→Prop) (w:World):List AV→(Nat→Option Value)→Nat→Prop
 | [],_,_=>True
 | x::r,rd,i=>(∃ u,rd i=some u∧RepC J w x u)∧RepCs J w r rd (i+1)
end
theorem Bv {J:Nat→Prop} {w:World}:∀ {c:LA} {rd:Nat→Option Value} {i:Nat},
  RepCs J w c rd i↔∀ j x,c[j]?=some x→∃ u,rd (i+j)=some u∧RepC J w x u:=by
 intro c
 induction c with
 | nil=>intro rd i;simp[RepCs]
 | cons x r k =>
  intro rd i
  rw[RepCs,k]
  constructor
  ·rintro⟨n,q⟩ j y e
   cases j with
   | zero=>simp at e;subst e;simpa using n
   | succ j=>have:=q j y (by simpa using e);rwa [show i+1+j=i+(j+1) by omega] at this
  ·intro h
   refine⟨by simpa using h 0 x (by simp),fun j y e=>?_⟩
   have:=h (j+1) y (by simpa using e)
   rwa [show i+(j+1)=i+1+j by omega] at this
def Adh (J:Nat→Prop) (w w':World):Prop:=∀ k,J k→w'.heap[k]?=w.heap[k]?
theorem jG {J:Nat→Prop} {w w':World} (h:Adh J w w') {a:Addr} (e:J a.block):w'.cell? a=w.cell? a:=by
 unfold World.cell?;rw[h a.block e]
theorem U4 (a:Addr) (n:Nat):(a.add n).block=a.block:=by unfold Addr.add;split<;>rfl
mutual
theorem RepC.keep {J J':Nat→Prop} {w w':World} (hJ:∀ k,J k→J' k) (hk:Adh J w w'):∀ {x:AV} {v:Value},RepC J w x v→RepC J' w' x v
 | .int ..,_,h=>h
 | .bool _,_,h=>h
 | .str _,_,h=>h
 | .nsl,_,h=>h
 | .imm c _ _ _ _,_,h=>by
  rw[RepC] at h ⊢
  obtain⟨h1,A,cap,h2,h3,h4,h5⟩:=h
  refine⟨h1,A,cap,h2,h3,h4,?_⟩
  rcases h5 with h5 | ⟨a,ha,hj,hc⟩
  ·exact .inl h5
  ·refine .inr ⟨a,ha,hJ _ hj,RepCs.keep hJ hk (c:=c) (fun j=>?_) hc⟩
   exact jG hk (by rw[U4];exact hj)
 | .iptr c _,_,h=>by
  rw[RepC] at h ⊢
  obtain⟨a,ha,hj,hc⟩:=h
  exact⟨a,ha,hJ _ hj,RepCs.keep hJ hk (c:=c) (fun j=>jG hk (by rw[U4];exact hj)) hc⟩
 | .nilptr,_,h=>h
 | .nilfn,_,h=>h
 | .fn _ [],_,h=>h
 | .fn _ (_::_),_,h=>by simp[RepC] at h
 | .pagg ..,_,h=>by simp[RepC] at h
 | .agg _,_,h=>by simp[RepC] at h
 | .tup _,_,h=>by simp[RepC] at h
 | .own ..,_,h=>by simp[RepC] at h
 | .optr ..,_,h=>by simp[RepC] at h
 | .undef,_,h=>by simp[RepC] at h
 | .omap _,_,h=>by simp[RepC] at h
theorem RepCs.keep {J J':Nat→Prop} {w w':World} (hJ:∀ k,J k→J' k) (hk:Adh J w w'):∀ {c:List AV} {rd rd':Nat→Option Value} {i:Nat},(∀ j,rd' j=rd j)→RepCs J w c rd i→RepCs J' w' c rd' i
 | [],_,_,_,_,_=>trivial
 | x::r,rd,rd',i,he,h=>by
  rw[RepCs] at h ⊢
  obtain⟨⟨u,hu,hx⟩,hr⟩:=h
  exact⟨⟨u,by rw[he];exact hu,RepC.keep hJ hk (x:=x) hx⟩,RepCs.keep hJ hk (c:=r) he hr⟩
end
abbrev Cd:=Nat→Option (Nat×Nat)
def A3 (w:World) (k:Nat):Nat:=match w.heap[k]? with | some (.cells cs _ _)=>cs.size | _=>0
def Axj (sz k:Nat):Value:=match sz with | 0=>.map (some k) | _+1=>.pointer (some ⟨k,0,none⟩)
mutual
def Rep (J:Bool→Nat→Prop) (β:Cd) (h:Az) (w:World):AV→Value→Prop
 | .own b off n,v=>∃ x A cap,(An h b=some x∧x.mp=false)∧v=.slice A n cap∧n≤cap∧(cap=0∨∃ k o,A=some ⟨k,o+off,none⟩ ∧
   (x.dead=true∨(β b=some (k,o)∧o+off+cap*x.sz≤A3 w k∧off+n*x.sz≤x.cells.length)))
 | .omap b,v=>∃ x k,(An h b=some x∧x.mp=true)∧(x.dead=true∨(β b=some (k,0)∧v=Axj x.sz k))
 | .optr b off,v=>∃ x k o,(An h b=some x∧x.mp=false)∧v=.pointer (some ⟨k,o+off,none⟩)∧(x.dead=true∨β b=some (k,o))
 | .pagg c org,v=>∃ cs,v=.agg ⟨cs⟩∧cs.length=c.length∧RepCs (J org) w c (fun j=>cs[j]?) 0
 | .agg c,v=>∃ cs,v=.agg ⟨cs⟩∧Reps J β h w c cs
 | .tup c,v=>∃ cs,v=.tuple ⟨cs⟩∧Reps J β h w c cs
 | .fn f c,v=>∃ cs:List Value,v=.func (.func (f%1000000)) ⟨cs.take (f/1000000)⟩ ⟨cs.drop (f/1000000)⟩∧Reps J β h w c cs
 | .undef,_=>True
 | .imm c n sz t org,v=>RepC (J org) w (.imm c n sz t org) v
 | .iptr c org,v=>RepC (J org) w (.iptr c org) v
 | .int k n,v=>v=.int k n
 | .bool b,v=>v=.bool b
 | .str s,v=>v=.string ⟨⟨s⟩⟩
 | .nsl,v=>v=.slice none 0 0
 | .nilptr,v=>v=.pointer none
 | .nilfn,v=>v=.nilFunc
def Reps (J:Bool→Nat→Prop) (β:Cd) (h:Az) (w:World):List AV→List Value→Prop
 | [],cs=>cs=[]
 | x::r,cs=>∃ u us,cs=u::us∧Rep J β h w x u∧Reps J β h w r us
end
structure Ext (J:Bool→Nat→Prop) (β:Cd) (h:Az) (w:World) (J':Bool→Nat→Prop) (β':Cd) (h':Az) (w':World):Prop where
 jsub:∀ o k,J o k→J' o k
 keep:∀ o,Adh (J o) w w'
 blk:∀ b x,An h b=some x→∃ x',(An h' b=some x'∧x'.mp=x.mp)∧(x'.dead=true∨(x.dead=false∧β' b=β b∧x'.sz=x.sz∧(x.mp=false→x'.cells.length=x.cells.length)))
 size:∀ b k o,β b=some (k,o)→A3 w k≤A3 w' k
mutual
theorem Rep.ext {J J':Bool→Nat→Prop} {β β':Cd} {h h':Az} {w w':World} (E:Ext J β h w J' β' h' w'):∀ {x:AV} {v:Value},Rep J β h w x v→Rep J' β' h' w' x v
 | .own b off n,v,hr=>by
  rw[Rep] at hr ⊢
  obtain⟨x,A,cap,⟨hx,hm⟩,h1,h2,hr⟩:=hr
  obtain⟨x',⟨hx',hm'⟩,hd⟩:=E.blk b x hx
  refine⟨x',A,cap,⟨hx',by rw[hm',hm]⟩,h1,h2,?_⟩
  rcases hr with hr | ⟨k,o,h3,hr⟩
  ·exact .inl hr
  ·refine .inr ⟨k,o,h3,?_⟩
   rcases hd with hd | ⟨hd,hβ,hs,hl⟩
   ·exact .inl hd
   ·rcases hr with hr | ⟨h4,h5,h6⟩
    ·simp[hd] at hr
    ·exact .inr ⟨by rw[hβ];exact h4,by rw[hs];exact A1c h5 (E.size b k o h4),by rw[hs,hl hm];exact h6⟩
 | .optr b off,v,hr=>by
  rw[Rep] at hr ⊢
  obtain⟨x,k,o,⟨hx,hm⟩,h1,hr⟩:=hr
  obtain⟨x',⟨hx',hm'⟩,hd⟩:=E.blk b x hx
  refine⟨x',k,o,⟨hx',by rw[hm',hm]⟩,h1,?_⟩
  rcases hd with hd | ⟨hd,hβ,hs,hl⟩
  ·exact .inl hd
  ·rcases hr with hr | hr
   ·simp[hd] at hr
   ·exact .inr (by rw[hβ];exact hr)
 | .omap b,v,hr=>by
  rw[Rep] at hr ⊢
  obtain⟨x,k,⟨hx,hm⟩,hr⟩:=hr
  obtain⟨x',⟨hx',hm'⟩,hd⟩:=E.blk b x hx
  refine⟨x',k,⟨hx',by rw[hm',hm]⟩,?_⟩
  rcases hd with hd | ⟨hd,hβ,hs,hl⟩
  ·exact .inl hd
  ·rcases hr with hr | ⟨hr,hv⟩
   ·simp[hd] at hr
   ·exact .inr ⟨by rw[hβ];exact hr,by rw[hs];exact hv⟩
 | .pagg c org,v,hr=>by
  rw[Rep] at hr ⊢
  obtain⟨cs,h1,h2,h3⟩:=hr
  exact⟨cs,h1,h2,RepCs.keep (E.jsub org) (E.keep org) (fun _=>rfl) h3⟩
 | .agg c,v,hr=>by
  rw[Rep] at hr ⊢
  obtain⟨cs,h1,h2⟩:=hr
  exact⟨cs,h1,Reps.ext E (c:=c) h2⟩
 | .tup c,v,hr=>by
  rw[Rep] at hr ⊢
  obtain⟨cs,h1,h2⟩:=hr
  exact⟨cs,h1,Reps.ext E (c:=c) h2⟩
 | .fn f c,v,hr=>by
  rw[Rep] at hr ⊢
  obtain⟨cs,h1,h2⟩:=hr
  exact⟨cs,h1,Reps.ext E (c:=c) h2⟩
 | .undef,_,_=>by rw[Rep];trivial
 | .imm c n sz t org,v,hr=>by rw[Rep] at hr ⊢;exact RepC.keep (E.jsub org) (E.keep org) hr
 | .iptr c org,v,hr=>by rw[Rep] at hr ⊢;exact RepC.keep (E.jsub org) (E.keep org) hr
 | .int ..,_,hr=>hr
 | .bool _,_,hr=>hr
 | .str _,_,hr=>hr
 | .nsl,_,hr=>hr
 | .nilptr,_,hr=>hr
 | .nilfn,_,hr=>hr
theorem Reps.ext {J J':Bool→Nat→Prop} {β β':Cd} {h h':Az} {w w':World} (E:Ext J β h w J' β' h' w'):∀ {c:List AV} {cs:List Value},Reps J β h w c cs→Reps J' β' h' w' c cs
 | [],_,hr=>hr
 | x::r,cs,hr=>by
  rw[Reps] at hr ⊢
  obtain⟨u,us,h1,h2,h3⟩:=hr
  exact⟨u,us,h1,Rep.ext E (x:=x) h2,Reps.ext E (c:=r) h3⟩
end
end Gx
namespace Gx
open Go
def Al0:List (Nat×List Value):=[(3,(List.range 20).map fun i=>.int .u64 ((10 ^ i:Nat):Int))]
def Ah9:List Nat:=[0]
end Gx
namespace Gx
open Go
def CellsRep (J:Bool→Nat→Prop) (β:Cd) (h:Az) (w:World) (x:Blk) (rd:Nat→Option Value):Prop :=
 (x.pure=true→RepCs (J x.taint) w x.cells rd 0) ∧
 (x.pure=false→∀ j c,x.cells[j]?=some c→∃ u,rd j=some u∧Rep J β h w c u∧u.oneCell'=true)
def FrOk (n:Nat) (fr:Nat×Nat):Prop:=fr.1=fr.2∨n≤fr.1
theorem FrOk.at {n:Nat} {fr:Nat×Nat} (h:FrOk n fr) (j:Nat) (e:j<n):¬ (fr.1≤j∧j<fr.2):=by rcases h with h | h<;>omega
def TyOk (X:Option (Nat×Nat)) (ty:TypeId) (o n:Nat):Prop:=∀ t m,X=some (t,m)→ty=t∧o=0∧(m=0∨n=m)
def FrTy (X:Option (Nat×Nat)) (ty:TypeId) (o n:Nat) (fr:Nat×Nat):Prop:=FrOk n fr∧TyOk X ty o n
theorem TyOk.none {ty:TypeId} {o n:Nat}:TyOk .none ty o n:=fun _ _ h=>by cases h
theorem FrOk.un {n:Nat} {fr:Nat×Nat} (h:FrOk n fr) {ty:TypeId} {o:Nat}:FrTy .none ty o n fr:=⟨h,TyOk.none⟩
theorem FrTy.un0 {ty:TypeId} {o n a:Nat}:FrTy .none ty o n (a,a):=⟨.inl rfl,TyOk.none⟩
def Awa (J:Bool→Nat→Prop) (β:Cd) (h:Az) (w:World) (b:Nat) (x:Blk):Prop :=
 (β b=none∧x.cells=[])∨∃ k o cs ty fr,β b=some (k,o)∧w.heap[k]?=some (.cells cs ty fr) ∧
  FrTy x.ty ty o cs.size fr∧o+x.cells.length≤cs.size∧CellsRep J β h w x (fun j=>cs[o+j]?) ∧
  (x.sealed=false→∀ g,¬ J g k)∧(x.sealed=true→J x.taint k)
def Awb (c:LA) (es:Array MapEntry):Prop:=∃ l:List Int,c=l.map (fun n=>.int .i64 n)∧es.toList.map (fun e=>(e.key,e.val))=l.map (fun n=>(.int .i64 n,.bool true))
def ObjIs (x:Blk) (ob:Obj):Prop:=(x.sz=0∧∃ es clk,ob=.map es clk∧Awb x.cells es)∨(x.sz=1∧∃ s pos,ob=.stringIter ⟨⟨s⟩⟩ pos∧x.cells=[.str s,.int .i64 (pos:Int)])
def MapRep (J:Bool→Nat→Prop) (β:Cd) (w:World) (b:Nat) (x:Blk):Prop :=
 x.pure=true∧x.sealed=false∧∃ k ob,β b=some (k,0)∧w.heap[k]?=some ob∧ObjIs x ob∧∀ g,¬ J g k
theorem ObjIs.row {x:Blk} {ob:Obj} (h:ObjIs x ob) {cs:Array Value} {ty:TypeId} {fr:Nat×Nat}:ob≠.cells cs ty fr:=by
 rcases h with⟨_,es,clk,rfl,_⟩ | ⟨_,s,pos,rfl,_⟩<;>exact fun h=>by cases h
def GlobOk (J:Bool→Nat→Prop) (w:World):Prop:=(∀ p ∈ Al0,J false p.1∧∃ ty fr,w.heap[p.1]?=some (.cells p.2.toArray ty fr))∧∀ g ∈ Ah9,J false g∧∃ m,w.cell? ⟨g,0,none⟩=some (.int .i64 m)
theorem GlobOk.to {J J':Bool→Nat→Prop} {w w':World} (h:GlobOk J w) (n:∀ k,J false k→J' false k) (q:Adh (J false) w w'):GlobOk J' w':=⟨fun p e =>
 ⟨n _ (h.1 p e).1,by rw[q _ (h.1 p e).1];exact(h.1 p e).2⟩,fun g j=>⟨n _ (h.2 g j).1,by rw[jG q (by exact(h.2 g j).1)];exact(h.2 g j).2⟩⟩
theorem GlobOk.ext {J J':Bool→Nat→Prop} {β β':Cd} {h h':Az} {w w':World} (G:GlobOk J w) (E:Ext J β h w J' β' h' w'):GlobOk J' w':=G.to (E.jsub false) (E.keep false)
structure SimH (J:Bool→Nat→Prop) (β:Cd) (h:Az) (w:World):Prop where
 jlt:∀ o k,J o k→k<w.heap.size
 jft:∀ k,J false k→J true k
 gl:GlobOk J w
 blk:∀ b x,An h b=some x→x.dead=false→x.mp=false→Awa J β h w b x
 mblk:∀ b x,An h b=some x→x.dead=false→x.mp=true→MapRep J β w b x
 sep:∀ b b' x x' k o o',An h b=some x→An h b'=some x'→x.dead=false→x'.dead=false→x.sealed=false→β b=some (k,o)→β b'=some (k,o')→b=b'
mutual
theorem LO {J:Bool→Nat→Prop} {β:Cd} {h:Az} {w:World}:∀ v:Value,Rep J β h w (ii v) v
 | .int ..=>by simp[ii,Rep]
 | .bool _=>by simp[ii,Rep]
 | .string ⟨⟨s⟩⟩=>by simp[ii,Rep]
 | .slice none 0 0=>by simp[ii,Rep]
 | .slice none 0 (_+1)=>by simp[ii,Rep]
 | .slice none (_+1) _=>by simp[ii,Rep]
 | .slice (some _) _ _=>by simp[ii,Rep]
 | .pointer none=>by simp[ii,Rep]
 | .pointer (some _)=>by simp[ii,Rep]
 | .nilFunc=>by simp[ii,Rep]
 | .agg ⟨cs⟩=>by rw[ii,Rep];exact⟨cs,rfl,V' cs⟩
 | .float ..=>by simp[ii,Rep]
 | .complex ..=>by simp[ii,Rep]
 | .map _=>by simp[ii,Rep]
 | .chan _=>by simp[ii,Rep]
 | .func ..=>by simp[ii,Rep]
 | .iface ..=>by simp[ii,Rep]
 | .nilIface=>by simp[ii,Rep]
 | .tuple _=>by simp[ii,Rep]
theorem V' {J:Bool→Nat→Prop} {β:Cd} {h:Az} {w:World}:∀ cs:List Value,Reps J β h w (L9 cs) cs
 | []=>by simp[L9,Reps]
 | v::r=>by rw[L9,Reps];exact⟨v,r,rfl,LO v,V' r⟩
end
structure SimS (J:Bool→Nat→Prop) (β:Cd) (h:Az) (w:World) (s:Gp) (t:Array Value):Prop where
 slot:∀ i v,t[i]?=some v→Rep J β h w (F4 s i) v
 out:∀ i,t.size≤i→F4 s i=.undef
theorem A5 {J:Bool→Nat→Prop} {β:Cd} {h:Az} {w:World} {s:Gp} {a:Act} (H:SimS J β h w s a.tmps) (x:Operand):Rep J β h w (ev s x) (a.eval x):=by
 cases x with
 | tmp t =>
  rw[ev,Act.eval,A2p]
  cases e:a.tmps[t]? with
  | some v=>exact H.slot t v e
  | none =>
   have:a.tmps.size≤t:=by simpa using e
   rw[H.out t this];simp[Rep]
 | const v=>exact LO v
 | global g=>simp[ev,Rep]
 | func f =>
  rw[ev]
  cases j:Nat.blt f 1000000 with
  | false=>simp[Rep]
  | true =>
   have:f<1000000:=by simpa using j
   simp[Rep,Act.eval,Reps,A07 this]
section
variable {R:Type} {r:R} {P:Program} {J:Bool→Nat→Prop} {β:Cd} {h:Az} {w:World}
theorem zU {t:TypeId} {op:BinOp} {k:IntKind} {a b:Int} {v:AV} (e:ij op k a b=some v) :
  ∃ vc,(binOp op t (.int k a) (.int k b)).run P w=.ok vc w∧Rep J β h w v vc:=by
 cases op<;>simp[ij] at e<;>subst e<;>simp[binOp,Op.intArith,Op.intBits,Op.intCmp,Rep]
theorem Aia {op:BinOp} {t:TypeId} {x y:AV} {k:AV→O R} {vx vy:Value} (hh:Anm P t op x y k=some r) (z:Rep J β h w x vx) (A:Rep J β h w y vy) (ox oy:Operand) :
  ∃ v vc,k v=some r∧(do eqGuard op t ox oy vx vy;binOp op t vx vy:Sem Value).run P w=.ok vc w∧Rep J β h w v vc:=by
 unfold Anm at hh
 split at hh
 ·rename_i q a u b
  rw[Rep] at z A;subst z A
  have j:(eqGuard op t ox oy (.int q a) (.int u b)).run P w=.ok () w:=by
   unfold eqGuard;cases op<;>simp
  split at hh
  ·cases e:decide (b<0)<;>rw[e] at hh<;>simp at hh e
   refine⟨_,_,hh,?_,by rw[Rep]⟩
   simp[j,binOp,Op.shift];intro D;omega
  ·cases e:decide (b<0)<;>rw[e] at hh<;>simp at hh e
   refine⟨_,_,hh,?_,by rw[Rep]⟩
   simp[j,binOp,Op.shift];intro D;omega
  ·cases s:Qv q u<;>rw[s] at hh<;>simp at hh
   have n:q=u:=by simpa[Qv] using s
   subst n
   cases e:(b==0)<;>rw[e] at hh<;>simp at hh e
   refine⟨_,_,hh,?_,by rw[Rep]⟩
   simp[j,binOp,Op.intDiv,e]
  ·cases s:Qv q u<;>rw[s] at hh<;>simp at hh
   have n:q=u:=by simpa[Qv] using s
   subst n
   cases e:(b==0)<;>rw[e] at hh<;>simp at hh e
   refine⟨_,_,hh,?_,by rw[Rep]⟩
   simp[j,binOp,Op.intDiv,e]
  ·cases s:Qv q u<;>rw[s] at hh<;>simp at hh
   have n:q=u:=by simpa[Qv] using s
   subst n
   cases hi:ij op q a b with
   | none=>rw[hi] at hh;simp at hh
   | some v =>
    rw[hi] at hh
    obtain⟨vc,F,G⟩:=zU (P:=P) (J:=J) (β:=β) (h:=h) (w:=w) (t:=t) hi
    exact⟨v,vc,by simpa using hh,by simp[j,F],G⟩
 ·rename_i a b
  rw[Rep] at z A;subst z A
  split at hh
  ·cases e:VV P t<;>rw[e] at hh<;>simp at hh
   have B:P.underlying t=some .bool:=by unfold VV at e;split at e<;>simp_all
   refine⟨_,_,hh,?_,by rw[Rep]⟩
   have C:(Op.equal t (.bool a) (.bool b)).run P w=.ok (a==b) w:=by
    have:∀ d,(Op.equalIn (d+1) t (.bool a) (.bool b)).run P w=.ok (a==b) w:=fun d=>by
     unfold Op.equalIn;simp only[Sem.run_bind,run_underlying B,Result.andThen_ok,Sem.run_pure]
    exact this 9999
   have j:∀ op,(eqGuard op t ox oy (.bool a) (.bool b)).run P w=.ok () w:=fun op=>by unfold eqGuard;cases op<;>simp
   simp only[Sem.run_bind,j,Result.andThen_ok,binOp,C,Sem.run_pure]
  ·cases e:VV P t<;>rw[e] at hh<;>simp at hh
   have B:P.underlying t=some .bool:=by unfold VV at e;split at e<;>simp_all
   refine⟨_,_,hh,?_,by rw[Rep]⟩
   have C:(Op.equal t (.bool a) (.bool b)).run P w=.ok (a==b) w:=by
    have:∀ d,(Op.equalIn (d+1) t (.bool a) (.bool b)).run P w=.ok (a==b) w:=fun d=>by
     unfold Op.equalIn;simp only[Sem.run_bind,run_underlying B,Result.andThen_ok,Sem.run_pure]
    exact this 9999
   have j:∀ op,(eqGuard op t ox oy (.bool a) (.bool b)).run P w=.ok () w:=fun op=>by unfold eqGuard;cases op<;>simp
   simp only[Sem.run_bind,j,Result.andThen_ok,binOp,C,Sem.run_pure]
  ·simp at hh
 ·rename_i a b
  rw[Rep] at z A;subst z A
  have I:(⟨⟨a⟩⟩:ByteArray).toList=a:=by simp[ByteArray.toList_eq]
  have eb:(⟨⟨b⟩⟩:ByteArray).toList=b:=by simp[ByteArray.toList_eq]
  have j:∀ op,(eqGuard op t ox oy (.string ⟨⟨a⟩⟩) (.string ⟨⟨b⟩⟩)).run P w=.ok () w:=fun op=>by unfold eqGuard;cases op<;>simp
  split at hh
  ·cases e:ble (a.length+b.length) 140737488355328<;>rw[e] at hh<;>simp at hh e
   refine⟨_,_,hh,?_,by rw[Rep]⟩
   have L:¬ (((⟨⟨a⟩⟩:ByteArray).size+(⟨⟨b⟩⟩:ByteArray).size:Nat):Int)>IntKind.i64.max:=by
    show ¬ ((a.length+b.length:Nat):Int)>9223372036854775807
    omega
   have S:(⟨⟨a⟩⟩:ByteArray)++⟨⟨b⟩⟩=⟨⟨a++b⟩⟩:=by
    apply ByteArray.ext;simp[ByteArray.data_append]
   simp only[Sem.run_bind,j,Result.andThen_ok,binOp,Op.stringOp,if_neg L,Sem.run_pure,S]
  all_goals first
   | (refine⟨_,_,hh,?_,by rw[Rep]⟩;simp only[Sem.run_bind,j,Result.andThen_ok,binOp,Op.stringOp,Sem.run_pure,I,eb];done)
   | simp at hh
 ·simp at hh
end
end Gx
namespace Gx
open Go
section
variable {R:Type} {r:R} {P:Program} {J:Bool→Nat→Prop} {β:Cd} {h:Az} {w:World}
theorem ub {α:Type} {o:Option α} {f:α→O R} (hh:o.bind f=some r):∃ x,o=some x∧f x=some r:=by
 cases o with
 | none=>simp at hh
 | some x=>exact⟨x,rfl,by simpa using hh⟩
theorem uc {b:Bool} {x:O R} (hh:cond b x none=some r):b=true∧x=some r:=by
 cases b<;>simp at hh;exact⟨rfl,hh⟩
theorem Aib {b:Bool} {x:O R} (hh:cond b none x=some r):b=false∧x=some r:=by
 cases b<;>simp at hh;exact⟨rfl,hh⟩
theorem Ans {op:UnOp} {x v:AV} {vx:Value} (hh:Ayn op x=some v) (j:Rep J β h w x vx) :
  ∃ vc,(Op.unary op vx).run P w=.ok vc w∧Rep J β h w v vc:=by
 unfold Ayn at hh
 split at hh
 ·rename_i k n
  rw[Rep] at j;subst j;simp at hh;subst hh
  refine⟨.int k (k.wrap (-n)),by simp[Op.unary,Op.intArith],?_⟩
  rw[Rep]
 ·rename_i k n
  rw[Rep] at j;subst j
  have e:=hh
  rw[ij] at e
  simp only[A2z] at e;subst e
  refine⟨_,rfl,?_⟩
  rw[Rep];cases k.signed<;>rfl
 ·rename_i b
  rw[Rep] at j;subst j;simp at hh;subst hh
  exact⟨.bool (!b),by simp[Op.unary],by rw[Rep]⟩
 ·simp at hh
def lL (P:Program) (J:Bool→Nat→Prop) (β:Cd) (h:Az) (w:World) (t:TypeId) (rd:Nat→Option Value) (v:AV):Prop :=
 (∃ d,P.underlying t=some d∧d.isRow=false∧∃ u,rd 0=some u∧Rep J β h w v u) ∨
 (∃ d,P.underlying t=some d∧d.isRow=true∧∃ us:List Value,(P.info? t).map (·.size)=some us.length∧(∀ j u,us[j]?=some u→rd j=some u)∧Rep J β h w v (.agg us.toArray))
theorem RepCs.at {J:Nat→Prop} {c:LA} {rd:Nat→Option Value} (e:RepCs J w c rd 0) {j:Nat} {x:AV} (k:c[j]?=some x):∃ u,rd j=some u∧RepC J w x u:=by
 have:=Bv.1 e j x k;simpa using this
theorem RepCs.drop {J:Nat→Prop} {c:LA} {rd:Nat→Option Value} (e:RepCs J w c rd 0) (n:Nat):RepCs J w (c.drop n) (fun j=>rd (n+j)) 0:=by
 rw[Bv] at e ⊢
 intro j x k
 rw[A1t] at k
 simpa using e (n+j) x k
theorem RepCs.take {J:Nat→Prop} {c:LA} {rd:Nat→Option Value} (k:RepCs J w c rd 0) (n:Nat):RepCs J w (c.take n) rd 0:=by
 rw[Bv] at k ⊢
 intro j x e
 rw[A2b] at e
 split at e
 ·exact k j x e
 ·simp at e
theorem RepCs.list {J:Nat→Prop} {c:LA} {rd:Nat→Option Value} (q:RepCs J w c rd 0) :
  ∃ us:List Value,us.length=c.length∧(∀ j u,us[j]?=some u→rd j=some u)∧RepCs J w c (fun j=>us[j]?) 0:=by
 refine⟨c.zipIdx.map fun p=>(rd p.2).getD undef,by simp,fun j u e=>?_,?_⟩
 ·rw[A3c,A5u] at e
  cases n:c[j]? with
  | none=>rw[n] at e;simp at e
  | some x =>
   rw[n] at e
   obtain⟨s,k,_⟩:=q.at n
   simp[k] at e
   rw[k,e]
 ·rw[Bv]
  intro j x e
  obtain⟨u,k,hr⟩:=q.at e
  refine⟨u,?_,hr⟩
  simp[e,k]
theorem lM {J1 J2:Nat→Prop}:∀ {c:LA} {rd:Nat→Option Value} {i:Nat},A6 c=true→RepCs J1 w c rd i→RepCs J2 w c rd i
 | [],_,_,_,_=>trivial
 | x::r,rd,i,e,j=>by
  rw[RepCs] at j ⊢
  obtain⟨⟨u,k,q⟩,n⟩:=j
  have hr:A6 r=true:=by unfold A6 at e;split at e<;>simp_all
  refine⟨⟨u,k,?_⟩,lM hr n⟩
  unfold A6 at e
  split at e<;>simp_all[RepC]
theorem YO {t:TypeId} {c:LA} {org:Bool} {k:Bool→O R} {rd:Nat→Option Value} {i:Nat} (hh:Zq P t c org k=some r) (e:RepCs (J org) w c rd i):∃ o,k o=some r∧RepCs (J o) w c rd i:=by
 unfold Zq at hh
 cases j:Alt P t with
 | true=>rw[j] at hh;exact⟨org,hh,e⟩
 | false =>
  rw[j,cond_false] at hh
  obtain⟨n,q⟩:=uc hh
  refine⟨false,q,?_⟩
  cases org with
  | false=>exact e
  | true=>exact lM (by simpa using n) e
theorem Xo {t:TypeId} {c:LA} {org:Bool} {k:AV→O R} {rd:Nat→Option Value} (hh:RG P t c org k=some r) (C:RepCs (J org) w c rd 0) :
  ∃ v,k v=some r∧lL P J β h w t rd v:=by
 unfold RG at hh
 have agg:∀ {d:TypeDesc},P.underlying t=some d→d.isRow=true→((Bi P t).bind fun n=>cond (ble n c.length) (Zq P t (c.take n) org fun o=>k (.pagg (c.take n) o)) none)=some r →
   ∃ v,k v=some r∧lL P J β h w t rd v:=by
  intro d q U hh
  obtain⟨n,hn,hh⟩:=ub hh
  obtain⟨I,hh⟩:=uc hh
  have T:n≤c.length:=by simpa using I
  obtain⟨us,s,j,L⟩:=(C.take n).list
  have V:us.length=n:=by rw[s];simp;omega
  obtain⟨o,hh,S⟩:=YO hh L
  refine⟨_,hh,.inr ⟨d,q,U,us,?_,j,?_⟩⟩
  ·rw[V];exact hn
  ·rw[Rep];exact⟨us,rfl,by rw[s],S⟩
 split at hh
 ·rename_i kd q
  obtain⟨x,z,hh⟩:=ub hh
  obtain⟨n,hn,hh⟩:=ub hh
  obtain⟨u,s,j⟩:=C.at (by rw[←A1a];exact z)
  refine⟨_,hh,.inl ⟨_,q,rfl,u,s,?_⟩⟩
  unfold YL at hn
  split at hn
  ·obtain⟨D,F⟩:=uc hn
   simp[Qv] at D F;subst D;subst F
   rw[RepC] at j;rw[Rep];exact j
  ·simp at hn
 ·rename_i q
  obtain⟨x,z,hh⟩:=ub hh
  obtain⟨n,hn,hh⟩:=ub hh
  obtain⟨u,s,j⟩:=C.at (by rw[←A1a];exact z)
  refine⟨_,hh,.inl ⟨_,q,rfl,u,s,?_⟩⟩
  unfold asBool at hn
  split at hn
  ·simp at hn;subst hn
   rw[RepC] at j;rw[Rep];exact j
  ·simp at hn
 ·rename_i q
  obtain⟨x,z,hh⟩:=ub hh
  obtain⟨n,hn,hh⟩:=ub hh
  obtain⟨u,s,j⟩:=C.at (by rw[←A1a];exact z)
  refine⟨_,hh,.inl ⟨_,q,rfl,u,s,?_⟩⟩
  unfold lF at hn
  split at hn
  ·simp at hn;subst hn
   rw[RepC] at j;rw[Rep];exact j
  ·simp at hn
 ·rename_i e q
  obtain⟨sz,X,hh⟩:=ub hh
  obtain⟨x,z,hh⟩:=ub hh
  obtain⟨p,B,hh⟩:=ub hh
  obtain⟨u,s,j⟩:=C.at (by rw[←A1a];exact z)
  refine⟨_,hh,.inl ⟨_,q,rfl,u,s,?_⟩⟩
  unfold Aq1 at B
  rw[Rep,RepC]
  split at B
  ·obtain⟨D,G⟩:=uc B
   simp at D G;subst D;subst G
   rw[RepC] at j
   obtain⟨L,A,cap,S,Y,h6,h7⟩:=j
   exact⟨L,A,cap,S,Y,by simp,h7⟩
  ·simp at B;subst B
   rw[RepC] at j
   exact⟨by simp,none,0,j,by simp,by simp,.inl rfl⟩
  ·simp at B
 ·rename_i q;exact agg q rfl hh
 ·rename_i q;exact agg q rfl hh
 ·simp at hh
theorem Ce:∀ {c:LA} {cs:List Value},Reps J β h w c cs↔cs.length=c.length∧∀ (j:Nat) (x:AV) (u:Value),c[j]?=some x→cs[j]?=some u→Rep J β h w x u
 | [],cs=>by rw[Reps];simp
 | x::r,cs=>by
  rw[Reps]
  constructor
  ·rintro⟨u,us,rfl,n,q⟩
   rw[Ce] at q
   refine⟨by simp[q.1],fun j y v e k=>?_⟩
   cases j with
   | zero=>simp at e k;subst e k;exact n
   | succ j=>exact q.2 j y v (by simpa using e) (by simpa using k)
  ·rintro⟨s,n⟩
   cases cs with
   | nil=>simp at s
   | cons u us =>
    refine⟨u,us,rfl,n 0 x u (by simp) (by simp),?_⟩
    rw[Ce]
    exact⟨by simpa using s,fun j y v e k=>n (j+1) y v (by simpa using e) (by simpa using k)⟩
theorem RP {t:TypeId} {c:LA} {k:AV→O R} {rd:Nat→Option Value} (hh:lG P t c k=some r)
  (B:∀ j x,c[j]?=some x→∃ u,rd j=some u∧Rep J β h w x u) :
  ∃ v,k v=some r∧lL P J β h w t rd v:=by
 unfold lG at hh
 have agg:∀ {d:TypeDesc},P.underlying t=some d→d.isRow=true→((Bi P t).bind fun n=>cond (ble n c.length) (k (.agg (c.take n))) none)=some r →
   ∃ v,k v=some r∧lL P J β h w t rd v:=by
  intro d q D hh
  obtain⟨n,hn,hh⟩:=ub hh
  obtain⟨C,hh⟩:=uc hh
  have A:n≤c.length:=by simpa using C
  refine⟨_,hh,.inr ⟨d,q,D,(c.take n).zipIdx.map fun p=>(rd p.2).getD undef,?_,fun j u z=>?_,?_⟩⟩
  ·simp;rw[A0x A];exact A2a.1 hn
  ·rw[A3c,A5u] at z
   cases e:(c.take n)[j]? with
   | none=>rw[e] at z;simp at z
   | some x =>
    rw[e] at z
    rw[A2b] at e
    split at e
    ·obtain⟨F,s,_⟩:=B j x e
     simp[s] at z
     rw[s,z]
    ·simp at e
  ·rw[Rep]
   refine⟨_,rfl,Ce.2 ⟨by simp,fun j x u e q=>?_⟩⟩
   simp[e] at q
   rw[A2b] at e
   split at e
   ·obtain⟨F,s,hr⟩:=B j x e
    simp[s] at q;subst q;exact hr
   ·simp at e
 split at hh
 ·rename_i q;exact agg q rfl hh
 ·rename_i q;exact agg q rfl hh
 ·rename_i d _ _ q
  obtain⟨x,e,hh⟩:=ub hh
  obtain⟨u,G,I⟩:=B 0 x (by rw[←A1a];exact e)
  refine⟨x,hh,.inl ⟨d,q,?_,u,G,I⟩⟩
  cases d<;>simp_all
 ·simp at hh
theorem xb {n:Nat} {k:AV→O R}:∀ {c:LA} {i:Nat},LI n k c i=some r→i≤n∧∃ x,c[n - i]?=some x∧k x=some r
 | [],i,hh=>by simp[LI] at hh
 | v::c,i,hh=>by
  rw[LI] at hh
  cases e:beq n i with
  | true =>
   rw[e] at hh
   have:n=i:=A0j e
   subst this
   exact⟨Az3 _,v,by simp,hh⟩
  | false =>
   rw[e] at hh
   obtain⟨s,x,j,q⟩:=xb (c:=c) hh
   refine⟨by omega,x,?_,q⟩
   rw[show n - i=(n - (i+1))+1 by omega];simpa using j
theorem dq {t:TypeId} {c:LA} {off:Nat} {k:AV→O R} (hh:RH P t c off k=some r):lG P t (c.drop off) k=some r:=by
 unfold RH at hh
 unfold lG
 split at hh
 ·exact hh
 ·exact hh
 ·rename_i d q s u
  obtain⟨_,x,e,j⟩:=xb hh
  have n:(c.drop off).head?=some x:=by rw[A1a,A1t];simpa using e
  rw[n];exact j
 ·simp at hh
theorem WA {t:TypeId} {d:TypeDesc} (e:P.underlying t=some d):(isAgg t).run P w=.ok d.isRow w:=by
 unfold isAgg
 rw[Sem.run_bind,run_underlying e w]
 cases d<;>simp
theorem YP {t:TypeId} {a:Addr} {v:AV} (hr:lL P J β h w t (fun j=>w.cell? (a.add j)) v):∃ vc,(loadVar t a).run P w=.ok vc w∧Rep J β h w v vc:=by
 rcases hr with⟨d,k,n,u,e,q⟩ | ⟨d,k,n,us,e,q,z⟩
 ·refine⟨u,?_,q⟩
  have s:w.cell? a=some u:=by simpa[Addr.add] using e
  simp[loadVar,WA k,n,s]
 ·refine⟨_,?_,z⟩
  have A:=run_loadCells_list (P:=P) w a us q
  cases hq:P.info? t with
  | none=>simp[hq] at e
  | some i =>
   have hs:i.size=us.length:=by simpa[hq] using e
   simp[loadVar,Sem.run_bind,WA k,n,Go.sizeOf,typeInfo,hq,hs,A]
theorem We {t:TypeId} {cs:List Value} {off:Nat} {v:AV} (hr:lL P J β h w t (fun j=>cs[off+j]?) v):∃ vc,(part t ⟨cs⟩ off).run P w=.ok vc w∧Rep J β h w v vc:=by
 rcases hr with⟨d,k,n,u,e,q⟩ | ⟨d,k,n,us,e,q,z⟩
 ·refine⟨u,?_,q⟩
  simp at e
  simp[part,WA k,n,e]
 ·refine⟨_,?_,z⟩
  cases hq:P.info? t with
  | none=>simp[hq] at e
  | some i =>
   have hs:i.size=us.length:=by simpa[hq] using e
   have:(⟨cs⟩:Array Value).extract off (off+us.length)=us.toArray:=by
    apply A18
    simp
    apply List.ext_getElem?
    intro j
    rw[A2b,A1t]
    split
    ·rename_i s
     rw[Az6 s]
     exact q j _ (Az6 s)
    ·rename_i s
     rw[A1f (by omega)]
   simp only[part,Sem.run_bind,WA k,n,Go.sizeOf,typeInfo,run_program,Result.andThen_ok,hq,Sem.run_pure,hs,if_true,this]
end
end Gx
namespace Gx
open Go
section
variable {R:Type} {r:R} {P:Program} {J:Bool→Nat→Prop} {β:Cd} {h:Az} {w:World} {g:A7}
theorem Pf {k:Nat} {cs:Array Value} {ty:TypeId} {fr:Nat×Nat} (e:w.heap[k]?=some (.cells cs ty fr)) (i:Nat):w.cell? ⟨k,i,none⟩=cs[i]?:=by
 simp[World.cell?,e]
def Looks (g:A7) (h:Az):Prop:=∀ b x,g b=some x→An h b=some x
theorem Dg {b:Nat} {x:Blk} (j:Looks g h) (e:Fy g b=some x):An h b=some x∧x.dead=false:=by
 unfold Fy at e
 obtain⟨y,k,e⟩:=ub e
 obtain⟨n,e⟩:=Aib e
 simp at e;subst e
 exact⟨j b _ k,n⟩
theorem zV {b off:Nat} {x:Blk} {v:Value} (S:SimH J β h w) (s:An h b=some x) (t:x.dead=false) (hr:Rep J β h w (.optr b off) v) :
  ∃ k o cs ty fr,β b=some (k,o)∧v=.pointer (some ⟨k,o+off,none⟩)∧w.heap[k]?=some (.cells cs ty fr) ∧
  FrTy x.ty ty o cs.size fr∧o+x.cells.length≤cs.size∧CellsRep J β h w x (fun j=>cs[o+j]?) ∧
  (x.sealed=false→∀ g,¬ J g k)∧(x.sealed=true→J x.taint k):=by
 rw[Rep] at hr
 obtain⟨y,k,o,⟨n,u⟩,z,hr⟩:=hr
 rw[s] at n;simp at n;subst n
 rcases hr with hr | q
 ·simp[t] at hr
 ·rcases S.blk b x s t u with⟨hn,_⟩ | ⟨I,o',cs,ty,fr,e,A,B,C,D,F,G⟩
  ·rw[q] at hn;simp at hn
  ·rw[q] at e;simp at e;obtain⟨rfl,rfl⟩:=e
   exact⟨k,o,cs,ty,fr,q,z,A,B,C,D,F,G⟩
theorem CellsRep.reads {t:TypeId} {x:Blk} {cs:Array Value} {o off:Nat} {k:AV→O R} (s:CellsRep J β h w x (fun j=>cs[o+j]?))
  (hh:cond x.pure (RG P t (x.cells.drop off) x.taint k) (RH P t x.cells off k)=some r) :
  ∃ v,k v=some r∧lL P J β h w t (fun j=>cs[o+off+j]?) v:=by
 cases e:x.pure with
 | true =>
  rw[e] at hh
  have:=(s.1 e).drop off
  obtain⟨v,n,q⟩:=Xo (β:=β) (h:=h) hh this
  exact⟨v,n,by simpa[A1x] using q⟩
 | false =>
  rw[e] at hh
  obtain⟨v,n,q⟩:=RP (J:=J) (β:=β) (h:=h) (w:=w) (rd:=fun j=>cs[o+(off+j)]?) (dq hh) (fun j y z=>by
   rw[A1t] at z
   obtain⟨u,A,hr,_⟩:=s.2 e _ _ z
   exact⟨u,A,hr⟩)
  exact⟨v,n,by simpa[A1x] using q⟩
theorem lN {t:TypeId} {p:AV} {vp:Value} {k:AV→O R} (S:SimH J β h w) (B:Looks g h) (hh:qL P g t p k=some r) (e:Rep J β h w p vp) :
  ∃ v vc,k v=some r∧(Instr.loadAt t vp).run P w=.ok vc w∧Rep J β h w v vc:=by
 unfold qL at hh
 split at hh
 ·rename_i c org
  rw[Rep,RepC] at e
  obtain⟨a,rfl,_,n⟩:=e
  obtain⟨v,q,s⟩:=Xo (β:=β) (h:=h) hh n
  obtain⟨vc,u,z⟩:=YP s
  exact⟨v,vc,q,by simp[Instr.loadAt,Instr.sureAddr,u],z⟩
 ·rename_i b off
  obtain⟨x,C,hh⟩:=ub hh
  obtain⟨D,F⟩:=Dg B C
  obtain⟨kk,o,cs,ty,fr,I,rfl,G,_,_,n,_⟩:=zV S D F e
  obtain⟨v,q,s⟩:=n.reads hh
  have A:lL P J β h w t (fun j=>w.cell? ((⟨kk,o+off,none⟩:Addr).add j)) v:=by
   simpa only[Addr.add_mid,Pf G] using s
  obtain⟨vc,u,z⟩:=YP A
  exact⟨v,vc,q,by simp[Instr.loadAt,Instr.sureAddr,u],z⟩
 ·simp at hh
theorem Cm {t:TypeId} {n:Nat} (hs:Bi P t=some n) (w:World):(Go.sizeOf t).run P w=.ok n w:=by
 unfold Bi at hs
 cases hq:P.info? t with
 | none=>simp[hq] at hs
 | some i=>simp[hq] at hs;simp[Go.sizeOf,typeInfo,hq,hs]
theorem U5 {i:Int} {n:Nat} (hi:Ae i n=true):0≤i∧i<(n:Int):=by simpa[Ae] using hi
theorem dt {J:Nat→Prop} {c:LA} {a:Addr} (k:RepCs J w c (fun j=>w.cell? (a.add j)) 0) (n:Nat):RepCs J w (c.drop n) (fun j=>w.cell? ((a.add n).add j)) 0:=by
 have e:∀ j,(a.add n).add j=a.add (n+j):=fun j=>by
  unfold Addr.add
  by_cases q:n=0<;>by_cases s:j=0<;>simp[q,s,A1x]
 simpa[e] using k.drop n
theorem At7 {b off n:Nat} {v:Value} (m:Nat) (hr:Rep J β h w (.own b off n) v) (hn:n≠0) :
  ∃ k o cap,v=.slice (some ⟨k,o,none⟩) n cap∧Rep J β h w (.optr b (off+m)) (.pointer (some ⟨k,o+m,none⟩)):=by
 rw[Rep] at hr
 obtain⟨x,A,cap,e,rfl,j,hr⟩:=hr
 rcases hr with hr | ⟨k,o,rfl,hr⟩
 ·omega
 ·refine⟨k,o+off,cap,rfl,?_⟩
  rw[Rep];exact⟨x,k,o,e,by rw[A1x],hr.imp id (·.1)⟩
theorem YQ {t e:TypeId} {j:IntKind} {i:Int} {len cap sz:Nat} {a:Addr} (k:P.underlying t=some (.slice e)) (hs:Bi P e=some sz) (n:Ae i len=true) :
  (Instr.indexAt t (.slice (some a) len cap) (.int j i)).run P w=.ok (.pointer (some (a.add (i.toNat*sz)))) w:=by
 obtain⟨q,s⟩:=U5 n
 simp[Instr.indexAt,asIntOf,run_underlying k,q,s,Cm hs]
theorem YR {t e:TypeId} {j:IntKind} {i:Int} {len sz:Nat} {a:Addr} (k:P.underlying t=some (.array len e)) (hs:Bi P e=some sz) (n:Ae i len=true) :
  (Instr.indexAt t (.pointer (some a)) (.int j i)).run P w=.ok (.pointer (some (a.add (i.toNat*sz)))) w:=by
 obtain⟨q,s⟩:=U5 n
 simp[Instr.indexAt,asIntOf,run_underlying k,q,s,Cm hs,Instr.sureAddr]
theorem jH {t:TypeId} {x i:AV} {vx vi:Value} {k:AV→O R} (hh:Uw P t x i k=some r) (j:Rep J β h w x vx) (hi:Rep J β h w i vi) :
  ∃ v vc,k v=some r∧(Instr.indexAt t vx vi).run P w=.ok vc w∧Rep J β h w v vc:=by
 unfold Uw at hh
 split at hh
 ·rename_i u c len sz tight org z i n
  obtain⟨B,hs,q⟩:=ub hh
  obtain⟨I,T⟩:=uc q
  obtain⟨e,s⟩:=uc T
  have C:B=sz:=by simp at I;exact I.symm
  subst C
  rw[Rep] at hi;subst hi
  rw[Rep,RepC] at j
  obtain⟨L,A,cap,rfl,S,_,hA⟩:=j
  rcases hA with hA | ⟨a,rfl,D,F⟩
  ·have:=U5 e;omega
  refine⟨_,_,s,YQ n hs e,?_⟩
  rw[Rep,RepC]
  exact⟨_,rfl,by rw[U4];exact D,dt F _⟩
 ·rename_i u b off len z i n
  obtain⟨sz,hs,q⟩:=ub hh
  obtain⟨e,s⟩:=uc q
  rw[Rep] at hi;subst hi
  obtain⟨kk,o,cap,rfl,G⟩:=At7 (i.toNat*sz) j (by have:=U5 e;omega)
  exact⟨_,_,s,YQ n hs e,by rw[Addr.add_mid];exact G⟩
 ·rename_i len u c org z i n
  obtain⟨sz,hs,q⟩:=ub hh
  obtain⟨e,s⟩:=uc q
  rw[Rep] at hi;subst hi
  rw[Rep,RepC] at j
  obtain⟨a,rfl,D,F⟩:=j
  refine⟨_,_,s,YR n hs e,?_⟩
  rw[Rep,RepC]
  exact⟨_,rfl,by rw[U4];exact D,dt F _⟩
 ·rename_i len u b off z i n
  obtain⟨sz,hs,q⟩:=ub hh
  obtain⟨e,s⟩:=uc q
  rw[Rep] at hi;subst hi
  rw[Rep] at j
  obtain⟨y,kk,o,U,rfl,G⟩:=j
  refine⟨_,_,s,YR n hs e,?_⟩
  rw[Rep,Addr.add_mid]
  exact⟨y,kk,o,U,by rw[A1x],G⟩
 ·simp at hh
theorem du {t:TypeId} {f:Nat} {p:Nat×TypeId} (e:pg P t f=some p):∃ fs fd,P.underlying t=some (.struct fs)∧fs[f]?=some fd∧fd.offset=p.1∧fd.type=p.2:=by
 unfold pg at e
 split at e
 ·rename_i fs j
  cases hq:fs[f]? with
  | none=>simp[hq] at e
  | some fd=>simp[hq] at e;subst e;exact⟨fs,fd,j,hq,rfl,rfl⟩
 ·simp at e
theorem jI {t:TypeId} {x:AV} {f:Nat} {vx:Value} {k:AV→O R} (hh:Ux P t x f k=some r) (j:Rep J β h w x vx) :
  ∃ v vc,k v=some r∧(Instr.fieldAt t vx f).run P w=.ok vc w∧Rep J β h w v vc:=by
 unfold Ux at hh
 obtain⟨p,u,z⟩:=ub hh
 obtain⟨n,hn,A⟩:=ub z
 obtain⟨B,q⟩:=Aib A
 obtain⟨fs,fd,C,D,F,G⟩:=du u
 have s:n≠0:=by intro e;subst e;simp at B
 have run:∀ a:Addr,(Instr.fieldAt t (.pointer (some a)) f).run P w=.ok (.pointer (some (a.add p.1))) w:=fun a=>by
  simp[Instr.fieldAt,run_underlying C,D,Instr.sureAddr,fieldPlace,G,Cm hn,s,F]
 split at q
 ·rw[Rep,RepC] at j
  obtain⟨a,rfl,I,L⟩:=j
  refine⟨_,_,q,run a,?_⟩
  rw[Rep,RepC]
  exact⟨_,rfl,by rw[U4];exact I,dt L _⟩
 ·rw[Rep] at j
  obtain⟨y,kk,o,S,rfl,T⟩:=j
  refine⟨_,_,q,run _,?_⟩
  rw[Rep,Addr.add_mid]
  exact⟨y,kk,o,S,by rw[A1x],T⟩
 ·simp at q
theorem zW {t:TypeId} {x:AV} {f:Nat} {vx:Value} {k:AV→O R} (hh:ik P t x f k=some r) (n:Rep J β h w x vx) :
  ∃ v vc,k v=some r∧(Instr.field t vx f).run P w=.ok vc w∧Rep J β h w v vc:=by
 unfold ik at hh
 obtain⟨p,I,q⟩:=ub hh
 obtain⟨fs,fd,C,D,F,G⟩:=du I
 split at q
 ·rename_i c org
  rw[Rep] at n
  obtain⟨cs,rfl,L,e⟩:=n
  obtain⟨v,s,u⟩:=Xo (β:=β) (h:=h) q (e.drop p.1)
  obtain⟨vc,z,A⟩:=We u
  exact⟨v,vc,s,by simp[Instr.field,run_underlying C,D,asAgg,G,F,z],A⟩
 ·rename_i c
  rw[Rep] at n
  obtain⟨cs,rfl,e⟩:=n
  rw[Ce] at e
  obtain⟨v,s,u⟩:=RP (J:=J) (β:=β) (h:=h) (w:=w) (rd:=fun j=>cs[p.1+j]?) q (fun j y B=>by
   rw[A1t] at B
   have:p.1+j<cs.length:=by
    rw[e.1];exact(A0p.1 B).1
   exact⟨cs[p.1+j],Az6 this,e.2 _ _ _ B (Az6 this)⟩)
  obtain⟨vc,z,A⟩:=We u
  exact⟨v,vc,s,by simp[Instr.field,run_underlying C,D,asAgg,G,F,z],A⟩
 ·simp at q
theorem zX {t:TypeId} {x i:AV} {vx vi:Value} {k:AV→O R} (hh:ip P t x i k=some r) (e:Rep J β h w x vx) (hi:Rep J β h w i vi) :
  ∃ v vc,k v=some r∧(Instr.index t vx vi).run P w=.ok vc w∧Rep J β h w v vc:=by
 unfold ip at hh
 split at hh
 ·rename_i s T i n
  obtain⟨q,u⟩:=uc hh
  obtain⟨z,C⟩:=U5 q
  rw[Rep] at hi;rw[Rep] at e;subst hi e
  have A:i.toNat<s.length:=by omega
  refine⟨_,.int .u8 ((s.getD i.toNat 0).toNat:Int),u,?_,by rw[Rep]⟩
  have U:(⟨⟨s⟩⟩:ByteArray)[i.toNat]?=some s[i.toNat]:=by
   have:i.toNat<(⟨⟨s⟩⟩:ByteArray).size:=A
   rw[getElem?_pos (⟨⟨s⟩⟩:ByteArray) i.toNat this];rfl
  simp only[Instr.index,asIntOf,Sem.run_bind,Sem.run_pure,Result.andThen_ok,run_underlying n,z,if_true,U,A0e,Az6 A,Option.getD_some]
 ·rename_i len V c org T i n
  obtain⟨sz,hs,u⟩:=ub hh
  obtain⟨q,C⟩:=uc u
  obtain⟨z,D⟩:=U5 q
  rw[Rep] at hi;rw[Rep] at e;subst hi
  obtain⟨cs,rfl,X,B⟩:=e
  obtain⟨v,F,G⟩:=Xo (β:=β) (h:=h) C (B.drop (i.toNat*sz))
  obtain⟨vc,I,L⟩:=We G
  exact⟨v,vc,F,by simp[Instr.index,asIntOf,run_underlying n,z,D,Cm hs,I],L⟩
 ·rename_i len V c T i n
  obtain⟨sz,hs,u⟩:=ub hh
  obtain⟨q,C⟩:=uc u
  obtain⟨z,D⟩:=U5 q
  rw[Rep] at hi;rw[Rep] at e;subst hi
  obtain⟨cs,rfl,B⟩:=e
  rw[Ce] at B
  obtain⟨v,F,G⟩:=RP (J:=J) (β:=β) (h:=h) (w:=w) (rd:=fun j=>cs[i.toNat*sz+j]?) (dq C) (fun j y S=>by
   rw[A1t] at S
   have:i.toNat*sz+j<cs.length:=by
    rw[B.1];exact(A0p.1 S).1
   exact⟨cs[i.toNat*sz+j],Az6 this,B.2 _ _ _ S (Az6 this)⟩)
  obtain⟨vc,I,L⟩:=We G
  exact⟨v,vc,F,by simp[Instr.index,asIntOf,run_underlying n,z,D,Cm hs,I],L⟩
 ·simp at hh
def Yo (J:Bool→Nat→Prop) (β:Cd) (h:Az) (w:World):Option AV→Option Value→Prop
 | none,none=>True
 | some x,some v=>Rep J β h w x v
 | _,_=>False
theorem RQ {o:Option AV} {vo:Option Value} {d:Nat} {i:Int} (e:d7 o d=some i) (n:Yo J β h w o vo) :
  (o=none∧vo=none∧i=d)∨∃ k,vo=some (.int k i):=by
 unfold d7 at e
 split at e
 ·simp at e;subst e
  cases vo with
  | none=>exact .inl ⟨rfl,rfl,rfl⟩
  | some v=>simp[Yo] at n
 ·rename_i k j
  simp at e;subst e
  cases vo with
  | none=>simp[Yo] at n
  | some v=>rw[Yo,Rep] at n;subst n;exact .inr ⟨k,rfl⟩
 ·simp at e
theorem Wf {lo hi mx:Option AV} {vlo vhi vmx:Option Value} {n cap:Nat} {k:Nat→Nat→O R} {isSlice:Bool} (hh:Zr lo hi mx n k=some r)
  (v:Yo J β h w lo vlo)
  (s:Yo J β h w hi vhi)
  (t:Yo J β h w mx vmx) (A:n≤cap) :
  ∃ l j m,k l j=some r∧l≤j∧j≤n∧j≤m∧m≤cap∧(mx=none→m=cap)∧(∀ q i,vmx=some (.int q i)→(m:Int)=i)∧(∀ q i,vhi=some (.int q i)→(j:Int)=i)∧(hi=none→j=n) ∧
   (Instr.sliceBounds isSlice n cap vlo vhi vmx).run P w=.ok (l,j,m) w:=by
 unfold Zr at hh
 obtain⟨l,F,G⟩:=ub hh
 obtain⟨e,I,L⟩:=ub G
 obtain⟨m,S,z⟩:=ub L
 obtain⟨B,z⟩:=Aib z
 obtain⟨C,D⟩:=uc z
 simp at C B
 obtain⟨c1,T,U,V⟩:=C
 have run:∀ (q:IntKind) (i:Int) (y:Nat) (code:BoundsCode),0≤i→i≤(y:Int)→(Instr.sliceBound (.int q i) y code).run P w=.ok i.toNat w:=fun q i y code a b=>by
  simp[Instr.sliceBound,asIntOf,a,b]
 have bl:=RQ (J:=J) (β:=β) (h:=h) (w:=w) F v
 have bh:=RQ (J:=J) (β:=β) (h:=h) (w:=w) I s
 have bm:=RQ (J:=J) (β:=β) (h:=h) (w:=w) S t
 rcases bm with⟨rfl,rfl,rfl⟩ | ⟨km,rfl⟩
 ·refine⟨l.toNat,e.toNat,cap,D,by omega,by omega,by omega,by omega,fun _=>rfl,by simp,?_,?_,?_⟩
  ·intro q i u
   rcases bh with⟨_,rfl,_⟩ | ⟨kh,rfl⟩
   ·simp at u
   ·simp at u;omega
  ·intro hn
   rcases bh with⟨_,_,rfl⟩ | ⟨kh,rfl⟩
   ·simp
   ·subst hn;simp[Yo] at s
  ·rcases bh with⟨_,rfl,rfl⟩ | ⟨kh,rfl⟩<;>rcases bl with⟨_,rfl,rfl⟩ | ⟨kl,rfl⟩
   ·simp[Instr.sliceBounds]
   ·simp[Instr.sliceBounds,run _ l n _ c1 (by omega)]
   ·simp[Instr.sliceBounds,run _ e cap _ (by omega) (by omega)]
   ·simp[Instr.sliceBounds,run _ e cap _ (by omega) (by omega),run _ l e.toNat _ c1 (by omega)]
 ·rcases bh with⟨rfl,rfl,rfl⟩ | ⟨kh,rfl⟩
  ·have:mx.isSome=true:=by
    cases mx with
    | none=>simp[Yo] at t
    | some _=>rfl
   have:=B this;simp at this
  ·refine⟨l.toNat,e.toNat,m.toNat,D,by omega,by omega,by omega,by omega,?_,?_,?_,?_,?_⟩
   ·intro hn;subst hn;simp[Yo] at t
   ·intro q i u;simp at u;omega
   ·intro q i u;simp at u;omega
   ·intro hn;subst hn;simp[Yo] at s
   ·rcases bl with⟨_,rfl,rfl⟩ | ⟨kl,rfl⟩
    ·simp[Instr.sliceBounds,run _ m cap _ (by omega) (by omega),run _ e m.toNat _ (by omega) (by omega)]
    ·simp[Instr.sliceBounds,run _ m cap _ (by omega) (by omega),run _ e m.toNat _ (by omega) (by omega),run _ l e.toNat _ c1 (by omega)]
theorem zY {t:TypeId} {x:AV} {lo hi mx:Option AV} {vx:Value} {vlo vhi vmx:Option Value} {k:AV→O R} (S:SimH J β h w) (hl:Looks g h) (hh:iq P g t x lo hi mx k=some r)
  (C:Rep J β h w x vx) (D:Yo J β h w lo vlo) (j:Yo J β h w hi vhi) (u:Yo J β h w mx vmx) :
  ∃ v vc,k v=some r∧(Instr.sliceAt t vx vlo vhi vmx).run P w=.ok vc w∧Rep J β h w v vc:=by
 unfold iq at hh
 split at hh
 ·rename_i s F
  obtain⟨hm,U⟩:=Aib hh
  have hmn:mx=none:=by cases mx<;>simp_all
  subst hmn
  have hv:vmx=none:=by cases vmx<;>simp_all[Yo]
  subst hv
  rw[Rep] at C;subst C
  obtain⟨l,e,m,G,V,h4,_,_,h5,_,_,_,h6⟩:=Wf (P:=P) (isSlice:=false) U D j (vmx:=none) (by simp[Yo]) (Az3 _)
  refine⟨_,_,G,?_,by rw[Rep]⟩
  have hs:(⟨⟨s⟩⟩:ByteArray).size=s.length:=rfl
  have I:(⟨⟨s⟩⟩:ByteArray).extract l e=⟨⟨(s.drop l).take (e - l)⟩⟩:=by
   apply ByteArray.ext
   rw[ByteArray.data_extract]
   simp
  simp[Instr.sliceAt,Instr.slice,run_underlying F,hs,h6,I]
 ·rename_i el F
  rw[Rep] at C;subst C
  obtain⟨sz,hs,hh⟩:=ub hh
  obtain⟨l,e,m,G,V,h4,h5,h6,_,_,_,_,h7⟩:=Wf (P:=P) (isSlice:=true) hh D j u (Az3 _)
  have:l=0:=by omega
  have:e=0:=by omega
  have:m=0:=by omega
  subst l;subst e;subst m
  refine⟨_,.slice none 0 0,G,?_,by rw[Rep]⟩
  simp[Instr.sliceAt,Instr.slice,run_underlying F,h7,Cm hs]
 ·rename_i el c n sz tight org F
  obtain⟨X,hs,U⟩:=ub hh
  obtain⟨I,G⟩:=uc U
  have L:X=sz:=by simp at I;exact I.symm
  subst L
  rw[Rep,RepC] at C
  obtain⟨hlen,A,cap,rfl,z,ht,hA⟩:=C
  obtain⟨l,e,m,V,h4,h5,h6,h7,h8,h9,h10,h11,h12⟩:=Wf (P:=P) (isSlice:=true) G D j u z
  refine⟨_,.slice (if m=l then A else A.map (·.add (l*X))) (e - l) (m - l),V,?_,?_⟩
  ·simp[Instr.sliceAt,Instr.slice,run_underlying F,h12,Cm hs]
  ·rw[Rep,RepC]
   refine⟨?_,_,_,rfl,by omega,?_,?_⟩
   ·simp;rw[hlen,←Nat.sub_mul]
    exact A0x (Az9 _ (by omega))
   ·intro B
    unfold Alu at B
    split at B
    ·have:=ht B
     have:=h8 rfl
     have:=h11 rfl
     omega
    ·rename_i ka a kb b
     cases vhi with
     | none=>simp[Yo] at j
     | some u1=>cases vmx with
      | none=>simp[Yo] at u
      | some u2 =>
       rw[Yo,Rep] at j u;subst j u
       have e1:=h10 _ _ rfl
       have e2:=h9 _ _ rfl
       simp at B
       omega
    ·simp at B
   ·by_cases hz:e - l=0
    ·exact .inl hz
    ·right
     rcases hA with hA | ⟨a,rfl,hj,hc⟩
     ·omega
     ·refine⟨a.add (l*X),by rw[if_neg (by omega)];rfl,by rw[U4];exact hj,(dt hc _).take _⟩
 ·rename_i el b off n F
  obtain⟨sz,hs,U⟩:=ub hh
  obtain⟨y,hy,G⟩:=ub U
  obtain⟨I,V⟩:=uc G
  obtain⟨hb,hd⟩:=Dg hl hy
  have L:sz=y.sz:=by simpa using I
  rw[Rep] at C
  obtain⟨x,A,cap,⟨q,T⟩,rfl,z,hr⟩:=C
  rw[hb] at q;simp at q;subst q
  obtain⟨l,e,m,h4,h5,h6,h7,h8,_,_,_,_,h9⟩:=Wf (P:=P) (isSlice:=true) V D j u z
  refine⟨_,.slice (if m=l then A else A.map (·.add (l*sz))) (e - l) (m - l),h4,?_,?_⟩
  ·simp[Instr.sliceAt,Instr.slice,run_underlying F,h9,Cm hs]
  ·rw[Rep]
   refine⟨y,_,_,⟨hb,T⟩,rfl,by omega,?_⟩
   by_cases hz:m - l=0
   ·exact .inl hz
   ·right
    rcases hr with hr | ⟨kk,o,rfl,hr⟩
    ·omega
    ·refine⟨kk,o,by rw[if_neg (by omega)];simp[Addr.add_mid,A1x],?_⟩
     rcases hr with hr | ⟨r1,r2,r3⟩
     ·simp[hd] at hr
     ·refine .inr ⟨r1,?_,?_⟩
      ·have:l*sz+(m - l)*y.sz≤cap*y.sz:=by
        rw[L,←A0m];exact Az9 _ (by omega)
       omega
      ·have:l*sz+(e - l)*y.sz≤n*y.sz:=by
        rw[L,←A0m];exact Az9 _ (by omega)
       omega
 ·rename_i n el b off F
  obtain⟨sz,hs,U⟩:=ub hh
  obtain⟨y,hy,G⟩:=ub U
  obtain⟨I,V⟩:=uc G
  simp at I
  obtain⟨e1,e2,e3,e4,e5⟩:=I
  subst e3;subst e4;subst e5
  obtain⟨hb,hd⟩:=Dg hl hy
  have nlo:vlo=none:=by cases vlo<;>simp_all[Yo]
  have nhi:vhi=none:=by cases vhi<;>simp_all[Yo]
  have nmx:vmx=none:=by cases vmx<;>simp_all[Yo]
  subst nlo;subst nhi;subst nmx
  rw[Rep] at C
  obtain⟨x,kk,o,⟨q,T⟩,rfl,hr⟩:=C
  rw[hb] at q;simp at q;subst q
  refine⟨_,.slice (some ⟨kk,o+off,none⟩) n n,V,?_,?_⟩
  ·have e1:(Addr.add ⟨kk,o+off,none⟩ 0)=⟨kk,o+off,none⟩:=rfl
   simp[Instr.sliceAt,Instr.sureAddr,run_underlying F,Instr.sliceBounds,Cm hs,e1]
  ·rw[Rep]
   refine⟨y,_,_,⟨hb,T⟩,rfl,Az3 _,.inr ⟨kk,o,rfl,?_⟩⟩
   rcases hr with hr | hr
   ·exact .inl hr
   ·rcases S.blk b y hb hd T with⟨hn',_⟩ | ⟨k',o',cs,ty',fr,Y,g1,g2,g3,_⟩
    ·rw[hr] at hn';simp at hn'
    ·rw[hr] at Y;simp at Y;obtain⟨rfl,rfl⟩:=Y
     refine .inr ⟨hr,?_,?_⟩
     ·rw[e1,show A3 w kk=cs.size by simp[A3,g1]];omega
     ·rw[e1];omega
 ·simp at hh
theorem Aic {t:TypeId} {x v:AV} {vx:Value} {ty:TypeId} (hh:Av7 P t x=some v) (j:Rep J β h w x vx) :
  ∃ vc,(Builtin.len_ #[t] ty #[vx]).run P w=.ok vc w∧Rep J β h w v vc:=by
 unfold Av7 at hh
 split at hh
 ·rename_i e
  simp at hh;subst hh;rw[Rep] at j;subst j
  exact⟨.int .i64 0,by simp[Builtin.len_,run_underlying e,goInt],by rw[Rep]⟩
 ·rename_i n _ _ _ e
  simp at hh;subst hh;rw[Rep,RepC] at j
  obtain⟨_,A,cap,rfl,_⟩:=j
  exact⟨.int .i64 n,by simp[Builtin.len_,run_underlying e,goInt],by rw[Rep]⟩
 ·rename_i n e
  simp at hh;subst hh;rw[Rep] at j
  obtain⟨_,A,cap,_,rfl,_⟩:=j
  exact⟨.int .i64 n,by simp[Builtin.len_,run_underlying e,goInt],by rw[Rep]⟩
 ·rename_i s e
  simp at hh;subst hh;rw[Rep] at j;subst j
  refine⟨.int .i64 s.length,?_,by rw[Rep]⟩
  have hs:(⟨⟨s⟩⟩:ByteArray).size=s.length:=rfl
  simp[Builtin.len_,run_underlying e,goInt,hs]
 ·rename_i n _ e
  simp at hh;subst hh
  exact⟨.int .i64 n,by simp[Builtin.len_,run_underlying e,goInt],by rw[Rep]⟩
 ·simp at hh
theorem dv {J:Nat→Prop}:∀ {x:AV} {u:Value},RepC J w x u→u.oneCell'=true
 | .int ..,_,hr=>by rw[RepC] at hr;subst hr;rfl
 | .bool _,_,hr=>by rw[RepC] at hr;subst hr;rfl
 | .str _,_,hr=>by rw[RepC] at hr;subst hr;rfl
 | .nsl,_,hr=>by rw[RepC] at hr;subst hr;rfl
 | .imm ..,_,hr=>by rw[RepC] at hr;obtain⟨_,A,cap,rfl,_⟩:=hr;rfl
 | .iptr ..,_,hr=>by rw[RepC] at hr;obtain⟨a,rfl,_⟩:=hr;rfl
 | .nilptr,_,hr=>by rw[RepC] at hr;subst hr;rfl
 | .nilfn,_,hr=>by rw[RepC] at hr;subst hr;rfl
 | .fn _ [],_,hr=>by rw[RepC] at hr;subst hr;rfl
 | .fn _ (_::_),_,hr=>by simp[RepC] at hr
 | .pagg ..,_,hr=>by simp[RepC] at hr
 | .agg _,_,hr=>by simp[RepC] at hr
 | .tup _,_,hr=>by simp[RepC] at hr
 | .own ..,_,hr=>by simp[RepC] at hr
 | .optr ..,_,hr=>by simp[RepC] at hr
 | .undef,_,hr=>by simp[RepC] at hr
 | .omap _,_,hr=>by simp[RepC] at hr
theorem RepCs.one {J:Nat→Prop} {c:LA} {us:List Value} (n:RepCs J w c (fun j=>us[j]?) 0) (t:us.length=c.length):∀ u ∈ us,u.oneCell'=true:=by
 intro u q
 obtain⟨j,s,rfl⟩:=A1p q
 have k:j<c.length:=by omega
 obtain⟨v,e,hr⟩:=n.at (Az6 k)
 simp[Az6 s] at e
 rw[e];exact dv hr
structure Yield (P:Program) (w:World) (sz:Nat) (vx:Value) (n:Nat) (us:List Value):Prop where
 len:∀ w':World,(Builtin.lenOf vx).run P w'=.ok n w'
 cells:∀ (w':World) (m:Nat),(∀ a,w'.cell? a=w.cell? a)→m≤n→(Builtin.firstCells sz m vx).run P w'=.ok (us.take (m*sz)).toArray w'
 length:us.length=n*sz
theorem lO {sz:Nat} {x:AV} {vx:Value} {q:LA×Nat×Bool} (S:SimH J β h w) (hl:Looks g h) (hh:xR g sz x=some q) (z:Rep J β h w x vx) :
  ∃ us:List Value,Yield P w sz vx q.2.1 us∧q.1.length=us.length∧RepCs (J q.2.2) w q.1 (fun j=>us[j]?) 0:=by
 have ofSlice:∀ (a:Addr) (n cap:Nat) (us:List Value),us.length=n*sz→(∀ j u,us[j]?=some u→w.cell? (a.add j)=some u)→Yield P w sz (.slice (some a) n cap) n us:=fun a n cap us e hu =>
  ⟨fun _=>rfl,fun w' m t U=>by
   have hle:m*sz≤n*sz:=Az9 _ U
   refine run_firstCells_some (P:=P) w' sz m a n cap (us.take (m*sz)) (by simp;omega) (fun j v G=>?_)
   rw[t]
   rw[A2b] at G
   split at G
   ·exact hu j v G
   ·simp at G,e⟩
 have ofEmpty:∀ (A:Option Addr) (cap:Nat),Yield P w sz (.slice A 0 cap) 0 []:=fun A cap =>
  ⟨fun _=>rfl,fun w' m t U=>by
   have:m=0:=by omega
   subst this
   cases A with
   | none=>simp[run_firstCells_none]
   | some a=>have:=run_firstCells_some (P:=P) w' sz 0 a 0 cap [] (by simp) (fun j v G=>by simp at G);simpa using this,by simp⟩
 unfold xR at hh
 split at hh
 ·simp at hh;subst hh;rw[Rep] at z;subst z
  exact⟨[],ofEmpty _ _,rfl,by simp[RepCs]⟩
 ·rename_i c n V tight org
  obtain⟨t,C⟩:=uc hh
  have X:V=sz:=by simp at t;exact t.symm
  subst X
  simp at C;subst C
  rw[Rep,RepC] at z
  obtain⟨e,A,cap,rfl,I,ht,hA⟩:=z
  rcases hA with rfl | ⟨a,rfl,L,hc⟩
  ·have:c=[]:=by simpa using e
   subst this
   exact⟨[],ofEmpty _ _,rfl,by simp[RepCs]⟩
  ·obtain⟨us,B,Y,h4⟩:=hc.list
   exact⟨us,ofSlice a n cap us (by rw[B,e]) Y,B.symm,h4⟩
 ·rename_i b off n
  obtain⟨y,hy,C⟩:=ub hh
  obtain⟨t,B⟩:=uc C
  obtain⟨T,hd⟩:=Dg hl hy
  simp at t B
  obtain⟨hp,t⟩:=t
  subst B;subst t
  rw[Rep] at z
  obtain⟨x,A,cap,⟨D,hmp⟩,rfl,I,hr⟩:=z
  rw[T] at D;simp at D;subst D
  rcases hr with hr | ⟨kk,o,rfl,hr⟩
  ·have:n=0:=by omega
   subst this
   exact⟨[],ofEmpty _ _,by simp,by simp[RepCs]⟩
  ·rcases hr with hr | ⟨r1,r2,r3⟩
   ·simp[hd] at hr
   ·rcases S.blk b y T hd hmp with⟨hn,_⟩ | ⟨k',o',cs,ty,fr,F,g1,g2,g3,g4,g5,g6⟩
    ·rw[r1] at hn;simp at hn
    ·rw[r1] at F;simp at F;obtain⟨rfl,rfl⟩:=F
     obtain⟨us,B,Y,h4⟩:=(((g4.1 hp).drop off).take (n*y.sz)).list
     have e:us.length=n*y.sz:=by rw[B];simp;omega
     refine⟨us,ofSlice _ n cap us e (fun j u L=>?_),B.symm,h4⟩
     have:=Y j u L
     rw[Addr.add_mid,Pf g1,A1x];exact this
 ·rename_i s
  obtain⟨t,C⟩:=uc hh
  simp at t C
  subst t;subst C
  rw[Rep] at z;subst z
  refine⟨s.map fun b=>.int .u8 (b.toNat:Int),⟨fun _=>rfl,fun w' m _ U=>?_,by simp⟩,by simp,?_⟩
  ·simp[Builtin.firstCells]
  ·rw[Bv]
   intro j x L
   simp at L
   obtain⟨b,T,rfl⟩:=L
   exact⟨_,by simp[T];rfl,by rw[RepC]⟩
 ·simp at hh
theorem LP {s:TypeId} {sz:Nat} {x:AV} {vx:Value} {k:LA×Nat×Bool→O R} (S:SimH J β h w) (t:Looks g h) (hh:a_ P s g sz x k=some r) (u:Rep J β h w x vx) :
  ∃ (q:LA×Nat×Bool) (us:List Value),k q=some r∧Yield P w sz vx q.2.1 us∧q.1.length=us.length∧RepCs (J q.2.2) w q.1 (fun j=>us[j]?) 0:=by
 unfold a_ at hh
 obtain⟨q,hq,v⟩:=ub hh
 obtain⟨us,Y,e,n⟩:=lO (P:=P) S t hq u
 obtain⟨o,z,A⟩:=YO v n
 exact⟨_,us,z,Y,e,A⟩
end
end Gx
namespace Gx
open Go
theorem Q_ {a b:Nat} (h:a≠b):beq a b=false:=by
 cases e:beq a b with
 | false=>rfl
 | true=>exact absurd (A0j e) h
theorem Y9 {a b:Nat} (h:beq a b=false):a≠b:=fun e=>by subst e;rw[Nat.beq_refl] at h;cases h
theorem Aj:∀ (h:Az) (b:Nat) (y:Blk) (c:Nat),An (Ff h b y) c=if c=b then some y else An h c
 | [],b,y,c=>by
  by_cases e:c=b
  ·subst e;simp[Ff,An]
  ·have:beq b c=false:=Q_ (fun k=>e k.symm)
   simp[Ff,An,e,this]
 | (i,x)::r,b,y,c=>by
  rw[Ff]
  cases q:beq i b with
  | true =>
   have j:i=b:=by simpa using q
   subst j
   by_cases e:c=i
   ·subst e;simp[An]
   ·have:beq i c=false:=Q_ (fun k=>e k.symm)
    simp[An,e,this]
  | false =>
   have j:i≠b:=Y9 q
   cases t:Nat.blt b i with
   | true =>
    by_cases e:c=b
    ·subst e;simp[An]
    ·have:beq b c=false:=Q_ (fun k=>e k.symm)
     simp[An,e,this]
   | false =>
    simp only[cond_false]
    rw[An]
    cases s:beq i c with
    | true =>
     have n:i=c:=by simpa using s
     subst n
     simp[An,j]
    | false=>simp[An,s,Aj r b y c]
theorem N3:∀ (h:Gp) (b:Nat) (y:AV) (c:Nat),F4 (a8 h b y) c=if c=b then y else F4 h c
 | [],b,y,c=>by
  by_cases e:c=b
  ·subst e;simp[a8,F4]
  ·have:beq b c=false:=Q_ (fun k=>e k.symm)
   simp[a8,F4,e,this]
 | (i,x)::r,b,y,c=>by
  rw[a8]
  cases q:beq i b with
  | true =>
   have j:i=b:=by simpa using q
   subst j
   by_cases e:c=i
   ·subst e;simp[F4]
   ·have:beq i c=false:=Q_ (fun k=>e k.symm)
    simp[F4,e,this]
  | false =>
   have j:i≠b:=Y9 q
   cases t:Nat.blt b i with
   | true =>
    by_cases e:c=b
    ·subst e;simp[F4]
    ·have:beq b c=false:=Q_ (fun k=>e k.symm)
     simp[F4,e,this]
   | false =>
    simp only[cond_false]
    rw[F4]
    cases s:beq i c with
    | true =>
     have n:i=c:=by simpa using s
     subst n
     simp[F4,j]
    | false=>simp[F4,s,N3 r b y c]
def Adi (β:Cd) (h:Az) (k:Nat):Prop:=∃ b x o,An h b=some x∧x.dead=false∧x.sealed=false∧β b=some (k,o)
structure Step (J:Bool→Nat→Prop) (β:Cd) (h:Az) (w:World) (J':Bool→Nat→Prop) (β':Cd) (h':Az) (w':World):Prop where
 ext:Ext J β h w J' β' h' w'
 sim:SimH J' β' h' w'
 os:w'.os=w.os
 tape:w'.tape=w.tape
 output:w'.output=w.output
 size:w.heap.size≤w'.heap.size
 frame:∀ k,k<w.heap.size→¬ Adi β h k→w'.heap[k]?=w.heap[k]?
 wr:∀ k,Adi β' h' k→k<w.heap.size→Adi β h k
 jup:∀ o k,J' o k→J o k∨Adi β h k∨w.heap.size≤k
section
variable {J J' J'':Bool→Nat→Prop} {β β' β'':Cd} {h h' h'':Az} {w w' w'':World}
theorem Ext.refl:Ext J β h w J β h w:=⟨fun _ _ e=>e,fun _ _ _=>rfl,fun b x j=>⟨x,⟨j,rfl⟩,by cases k:x.dead<;>simp⟩,fun _ _ _ _=>Az3 _⟩
theorem Ext.trans (A:Ext J β h w J' β' h' w') (B:Ext J' β' h' w' J'' β'' h'' w'') (hs:∀ b k o,β b=some (k,o)→A3 w k≤A3 w'' k):Ext J β h w J'' β'' h'' w'' where
 jsub o k j:=B.jsub o k (A.jsub o k j)
 keep o k j:=(B.keep o k (A.jsub o k j)).trans (A.keep o k j)
 blk b x s:=by
  obtain⟨x',⟨t,m1⟩,n⟩:=A.blk b x s
  obtain⟨x'',⟨u,m3⟩,e⟩:=B.blk b x' t
  refine⟨x'',⟨u,m3.trans m1⟩,?_⟩
  rcases e with e | ⟨e,v,z,C⟩
  ·exact .inl e
  ·rcases n with n | ⟨D,F,G,I⟩
   ·simp[e] at n
   ·exact .inr ⟨D,v.trans F,z.trans G,fun q=>(C (m1.trans q)).trans (I q)⟩
 size:=hs
theorem Step.refl (S:SimH J β h w):Step J β h w J β h w:=⟨Ext.refl,S,rfl,rfl,rfl,Az3 _,fun _ _ _=>rfl,fun _ e _=>e,fun _ _ j=>.inl j⟩
theorem Step.trans (A:Step J β h w J' β' h' w') (B:Step J' β' h' w' J'' β'' h'' w'') (hs:∀ b k o,β b=some (k,o)→A3 w k≤A3 w'' k):Step J β h w J'' β'' h'' w'' where
 ext:=A.ext.trans B.ext hs
 sim:=B.sim
 os:=B.os.trans A.os
 tape:=B.tape.trans A.tape
 output:=B.output.trans A.output
 size:=A1c A.size B.size
 frame k e n:=(B.frame k (A1g e A.size) (fun q=>n (A.wr k q e))).trans (A.frame k e n)
 wr k n e:=A.wr k (B.wr k n (A1g e A.size)) e
 jup o k s:=by
  rcases B.jup o k s with j | j | j
  ·exact A.jup o k j
  ·by_cases e:k<w.heap.size
   ·exact .inr (.inl (A.wr k j e))
   ·exact .inr (.inr (by omega))
  ·exact .inr (.inr (A1c A.size j))
theorem CellsRep.ext (E:Ext J β h w J' β' h' w') {x:Blk} {rd:Nat→Option Value} (k:CellsRep J β h w x rd):CellsRep J' β' h' w' x rd :=
 ⟨fun e=>RepCs.keep (E.jsub _) (E.keep _) (fun _=>rfl) (k.1 e),fun e j c n=>by
  obtain⟨u,q,s,t⟩:=k.2 e j c n
  exact⟨u,q,Rep.ext E s,t⟩⟩
theorem Ea {k:Nat} {cs:Array Value} {ty:TypeId} {fr:Nat×Nat} (e:w.heap[k]?=some (.cells cs ty fr)):A3 w k=cs.size:=by simp[A3,e]
theorem LQ {k:Nat} {o:Obj} (n:w.heap[k]?=some o):k<w.heap.size:=by
 rcases A3q k w.heap.size with e | j
 ·exact e
 ·rw[A11 j] at n;cases n
theorem MapRep.keep {b:Nat} {x:Blk} (M:MapRep J β w b x) (j:β' b=β b) (n:∀ k o,β b=some (k,o)→w'.heap[k]?=w.heap[k]?) (q:∀ g k o,β b=some (k,o)→J' g k→J g k):MapRep J' β' w' b x:=by
 obtain⟨s,t,k,ob,e,u,v,z⟩:=M
 exact⟨s,t,k,ob,by rw[j];exact e,by rw[n k 0 e];exact u,v,fun g A=>z g (q g k 0 e A)⟩
theorem Step.drew (S:SimH J β h w):Step J β h w J β h w.drew where
 ext:=⟨fun _ _ e=>e,fun _ _ _=>rfl,fun b x j=>⟨x,⟨j,rfl⟩,by cases n:x.dead<;>simp⟩,fun _ _ _ _=>Az3 _⟩
 sim:=by
  have E:Ext J β h w J β h w.drew:=⟨fun _ _ e=>e,fun _ _ _=>rfl,fun b x j=>⟨x,⟨j,rfl⟩,by cases n:x.dead<;>simp⟩,fun _ _ _ _=>Az3 _⟩
  refine⟨S.jlt,S.jft,S.gl.ext E,fun b x j n q=>?_,fun b x j n q=>(S.mblk b x j n q).keep rfl (fun _ _ _=>rfl) (fun _ _ _ _ e=>e),S.sep⟩
  rcases S.blk b x j n q with s | ⟨k,o,cs,ty,fr,s,t,u,v,z,A⟩
  ·exact .inl s
  ·exact .inr ⟨k,o,cs,ty,fr,s,t,u,v,z.ext E,A⟩
 os:=rfl
 tape:=rfl
 output:=rfl
 size:=Az3 _
 frame _ _ _:=rfl
 wr _ q _:=q
 jup _ _ e:=.inl e
theorem C4 (w:World) (o:Obj) {k:Nat} (e:k<w.heap.size):(w.alloc o).heap[k]?=w.heap[k]?:=by
 show(w.heap.push o)[k]?=_
 rw[Array.getElem?_push,if_neg (by omega)]
theorem Yp (S:SimH J β h w) {b:Nat} {x:Blk} {k o:Nat} (q:An h b=some x) (s:x.dead=false) (j:β b=some (k,o)):k<w.heap.size:=by
 cases t:x.mp with
 | false =>
  rcases S.blk b x q s t with⟨hn,_⟩ | ⟨u,o',cs,ty,fr,e,n,_⟩
  ·rw[j] at hn;simp at hn
  ·rw[j] at e;simp at e;obtain⟨rfl,rfl⟩:=e;exact LQ n
 | true =>
  obtain⟨_,_,u,ob,e,n,_⟩:=S.mblk b x q s t
  rw[j] at e;simp at e;obtain⟨rfl,_⟩:=e;exact LQ n
theorem Step.new (S:SimH J β h w) {d:Nat} {x:Blk} {cs:Array Value} {ty:TypeId} {fr:Nat×Nat} (hn:An h d=none) (hxd:x.dead=false) (G:x.sealed=false)
  (I:FrTy x.ty ty 0 cs.size fr) (X:x.cells.length≤cs.size) (hc:CellsRep J β h w x (fun j=>cs[j]?)) (L:x.mp=false:=by rfl) :
  Step J β h w J (fun b=>if b=d then some (w.heap.size,0) else β b) (Ff h d x) (w.alloc (.cells cs ty fr)):=by
 have ne:∀ {b y},An h b=some y→b≠d:=fun n e=>by subst e;rw[hn] at n;cases n
 have E:Ext J β h w J (fun b=>if b=d then some (w.heap.size,0) else β b) (Ff h d x) (w.alloc (.cells cs ty fr)):=by
  refine⟨fun _ _ s=>s,fun o k s=>C4 w _ (S.jlt o k s),fun b y n=>⟨y,⟨by rw[Aj,if_neg (ne n)];exact n,rfl⟩,?_⟩,fun b k o q=>?_⟩
  ·cases v:y.dead
   ·exact .inr ⟨rfl,by simp[ne n],rfl,fun _=>rfl⟩
   ·exact .inl rfl
  ·by_cases A:k<w.heap.size
   ·simp[A3,C4 w _ A]
   ·simp[A3,A11 (A2n A)]
 have B:(w.alloc (.cells cs ty fr)).heap[w.heap.size]?=some (.cells cs ty fr):=by
  show(w.heap.push _)[_]?=_;simp
 have hsz:(w.alloc (.cells cs ty fr)).heap.size=w.heap.size+1:=by show(w.heap.push _).size=_;simp
 refine⟨E,⟨fun o k s=>by have:=S.jlt o k s;omega,S.jft,S.gl.ext E,fun b y n v D=>?_,fun b y n v D=>by
   rw[Aj] at n
   by_cases e:b=d
   ·rw[if_pos e] at n;simp at n;subst n;simp[L] at D
   ·rw[if_neg e] at n
    exact(S.mblk b y n v D).keep (by simp[e]) (fun k o q=>C4 w _ (Yp S n v q)) (fun _ _ _ _ s=>s),?_⟩,rfl,rfl,rfl,by omega,fun k A _=>C4 w _ A,?_,fun _ _ s=>.inl s⟩
 ·rw[Aj] at n
  by_cases e:b=d
  ·subst e;simp at n;subst n
   exact .inr ⟨w.heap.size,0,cs,ty,fr,by simp,B,I,by omega,by simpa using hc.ext E,fun _ g s=>by have:=S.jlt g _ s;omega,fun hs=>by simp[G] at hs⟩
  ·rw[if_neg e] at n
   rcases S.blk b y n v D with F | ⟨k,o,T,U,V,F,Y,h3,h4,h5,h6⟩
   ·exact .inl ⟨by simp[e,F.1],F.2⟩
   ·exact .inr ⟨k,o,T,U,V,by simp[e,F],by rw[C4 w _ (LQ Y)];exact Y,h3,h4,h5.ext E,h6⟩
 ·intro b b' y y' k o o' n t v C hs q u
  rw[Aj] at n t
  by_cases e:b=d<;>by_cases z:b'=d
  ·rw[e,z]
  ·rw[if_neg z] at t
   simp[e] at q;simp[z] at u
   have:=Yp S t C u;omega
  ·rw[if_neg e] at n
   simp[z] at u;simp[e] at q
   have:=Yp S n v q;omega
  ·rw[if_neg e] at n;rw[if_neg z] at t
   simp[e] at q;simp[z] at u
   exact S.sep b b' y y' k o o' n t v C hs q u
 ·rintro k ⟨b,y,o,n,v,hs,q⟩ A
  rw[Aj] at n
  by_cases e:b=d
  ·simp[e] at q;omega
  ·rw[if_neg e] at n;simp[e] at q
   exact⟨b,y,o,n,v,hs,q⟩
theorem Step.newNone (S:SimH J β h w) {d:Nat} {x:Blk} (hn:An h d=none) (L:x.cells=[]) (A:x.mp=false:=by rfl) :
  Step J β h w J (fun b=>if b=d then none else β b) (Ff h d x) w:=by
 have ne:∀ {b y},An h b=some y→b≠d:=fun j e=>by subst e;rw[hn] at j;cases j
 have E:Ext J β h w J (fun b=>if b=d then none else β b) (Ff h d x) w:=by
  refine⟨fun _ _ u=>u,fun o k u=>rfl,fun b y j=>⟨y,⟨by rw[Aj,if_neg (ne j)];exact j,rfl⟩,?_⟩,fun b k o n=>Az3 _⟩
  cases q:y.dead
  ·exact .inr ⟨rfl,by simp[ne j],rfl,fun _=>rfl⟩
  ·exact .inl rfl
 refine⟨E,⟨S.jlt,S.jft,S.gl.ext E,fun b y j q v=>?_,fun b y j q v=>by
   rw[Aj] at j
   by_cases e:b=d
   ·rw[if_pos e] at j;simp at j;subst j;simp[A] at v
   ·rw[if_neg e] at j
    exact(S.mblk b y j q v).keep (by simp[e]) (fun k o n=>rfl) (fun _ _ _ _ u=>u),?_⟩,rfl,rfl,rfl,Az3 _,fun k T _=>rfl,?_,fun _ _ u=>.inl u⟩
 ·rw[Aj] at j
  by_cases e:b=d
  ·subst e;simp at j;subst j
   exact .inl ⟨by simp,L⟩
  ·rw[if_neg e] at j
   rcases S.blk b y j q v with z | ⟨k,o,B,C,D,z,U,V,X,Y,h6⟩
   ·exact .inl ⟨by simp[e,z.1],z.2⟩
   ·exact .inr ⟨k,o,B,C,D,by simp[e,z],U,V,X,Y.ext E,h6⟩
 ·intro b I y y' k o o' j s q F hs n t
  rw[Aj] at j s
  by_cases e:b=d
  ·simp[e] at n
  ·by_cases G:I=d
   ·simp[G] at t
   ·rw[if_neg e] at j;rw[if_neg G] at s
    simp[e] at n;simp[G] at t
    exact S.sep b I y y' k o o' j s q F hs n t
 ·rintro k ⟨b,y,o,j,q,hs,n⟩ T
  rw[Aj] at j
  by_cases e:b=d
  ·simp[e] at n
  ·rw[if_neg e] at j;simp[e] at n
   exact⟨b,y,o,j,q,hs,n⟩
theorem Step.newObj (S:SimH J β h w) {d:Nat} {x:Blk} {ob:Obj} (hn:An h d=none) (hxd:x.dead=false) (F:x.sealed=false) (G:x.pure=true) (I:ObjIs x ob) (L:x.mp=true) :
  Step J β h w J (fun b=>if b=d then some (w.heap.size,0) else β b) (Ff h d x) (w.alloc ob):=by
 have ne:∀ {b y},An h b=some y→b≠d:=fun j e=>by subst e;rw[hn] at j;cases j
 have E:Ext J β h w J (fun b=>if b=d then some (w.heap.size,0) else β b) (Ff h d x) (w.alloc ob):=by
  refine⟨fun _ _ q=>q,fun o k q=>C4 w _ (S.jlt o k q),fun b y j=>⟨y,⟨by rw[Aj,if_neg (ne j)];exact j,rfl⟩,?_⟩,fun b k o n=>?_⟩
  ·cases u:y.dead
   ·exact .inr ⟨rfl,by simp[ne j],rfl,fun _=>rfl⟩
   ·exact .inl rfl
  ·by_cases z:k<w.heap.size
   ·simp[A3,C4 w _ z]
   ·simp[A3,A11 (A2n z)]
 have A:(w.alloc ob).heap[w.heap.size]?=some ob:=by
  show(w.heap.push _)[_]?=_;simp
 have hsz:(w.alloc ob).heap.size=w.heap.size+1:=by show(w.heap.push _).size=_;simp
 refine⟨E,⟨fun o k q=>by have:=S.jlt o k q;omega,S.jft,S.gl.ext E,fun b y j u C=>?_,fun b y j u C=>?_,?_⟩,rfl,rfl,rfl,by omega,fun k z _=>C4 w _ z,?_,fun _ _ q=>.inl q⟩
 ·rw[Aj] at j
  by_cases e:b=d
  ·rw[if_pos e] at j;simp at j;subst j;simp[L] at C
  ·rw[if_neg e] at j
   rcases S.blk b y j u C with D | ⟨k,o,T,U,V,D,X,h3,h4,h5,h6⟩
   ·exact .inl ⟨by simp[e,D.1],D.2⟩
   ·exact .inr ⟨k,o,T,U,V,by simp[e,D],by rw[C4 w _ (LQ X)];exact X,h3,h4,h5.ext E,h6⟩
 ·rw[Aj] at j
  by_cases e:b=d
  ·rw[if_pos e] at j;simp at j;subst j
   exact⟨G,F,w.heap.size,ob,by simp[e],A,I,fun g q=>by have:=S.jlt g _ q;omega⟩
  ·rw[if_neg e] at j
   exact(S.mblk b y j u C).keep (by simp[e]) (fun k o n=>C4 w _ (Yp S j u n)) (fun _ _ _ _ q=>q)
 ·intro b Y y y' k o o' j s u B hs n t
  rw[Aj] at j s
  by_cases e:b=d<;>by_cases v:Y=d
  ·rw[e,v]
  ·rw[if_neg v] at s
   simp[e] at n;simp[v] at t
   have:=Yp S s B t;omega
  ·rw[if_neg e] at j
   simp[v] at t;simp[e] at n
   have:=Yp S j u n;omega
  ·rw[if_neg e] at j;rw[if_neg v] at s
   simp[e] at n;simp[v] at t
   exact S.sep b Y y y' k o o' j s u B hs n t
 ·rintro k ⟨b,y,o,j,u,hs,n⟩ z
  rw[Aj] at j
  by_cases e:b=d
  ·simp[e] at n;omega
  ·rw[if_neg e] at j;simp[e] at n
   exact⟨b,y,o,j,u,hs,n⟩
theorem Step.kill (S:SimH J β h w) {d:Nat} {x y:Blk} (U:An h d=some x) (s:y.dead=true) (A:y.mp=x.mp:=by rfl):Step J β h w J β (Ff h d y) w:=by
 have E:Ext J β h w J β (Ff h d y) w:=by
  refine⟨fun _ _ t=>t,fun o k t=>rfl,fun b z j=>?_,fun b k o u=>Az3 _⟩
  by_cases e:b=d
  ·subst e;rw[U] at j;simp at j;subst j;exact⟨y,⟨by rw[Aj,if_pos rfl],A⟩,.inl s⟩
  ·refine⟨z,⟨by rw[Aj,if_neg e];exact j,rfl⟩,?_⟩
   cases q:z.dead
   ·exact .inr ⟨rfl,rfl,rfl,fun _=>rfl⟩
   ·exact .inl rfl
 refine⟨E,⟨S.jlt,S.jft,S.gl.ext E,fun b z j q B=>?_,fun b z j q B=>by
   rw[Aj] at j
   by_cases e:b=d
   ·rw[if_pos e] at j;simp at j;subst j;simp[s] at q
   ·rw[if_neg e] at j
    exact(S.mblk b z j q B).keep rfl (fun k o u=>rfl) (fun _ _ _ _ t=>t),?_⟩,rfl,rfl,rfl,Az3 _,fun k V _=>rfl,?_,fun _ _ t=>.inl t⟩
 ·rw[Aj] at j
  by_cases e:b=d
  ·rw[if_pos e] at j;simp at j;subst j;simp[s] at q
  ·rw[if_neg e] at j
   rcases S.blk b z j q B with C | ⟨k,o,D,F,G,C,X,Y,h4,h5,h6⟩
   ·exact .inl C
   ·exact .inr ⟨k,o,D,F,G,C,X,Y,h4,h5.ext E,h6⟩
 ·intro b L z z' k o o' j n q v hs u I
  rw[Aj] at j n
  by_cases e:b=d
  ·rw[if_pos e] at j;simp at j;subst j;simp[s] at q
  ·by_cases T:L=d
   ·rw[if_pos T] at n;simp at n;subst n;simp[s] at v
   ·rw[if_neg e] at j;rw[if_neg T] at n
    exact S.sep b L z z' k o o' j n q v hs u I
 ·rintro k ⟨b,z,o,j,q,hs,u⟩ V
  rw[Aj] at j
  by_cases e:b=d
  ·rw[if_pos e] at j;simp at j;subst j;simp[s] at q
  ·rw[if_neg e] at j
   exact⟨b,z,o,j,q,hs,u⟩
theorem Step.giveUp (S:SimH J β h w) {d k o:Nat} {x y:Blk} (G:An h d=some x) (I:x.dead=false) (hs:x.sealed=false) (L:β d=some (k,o)) (T:x.mp=false) (hy:y.dead=true)
  (other:∀ j,j≠k→w'.heap[j]?=w.heap[j]?) (size:w'.heap.size=w.heap.size) (os:w'.os=w.os) (tape:w'.tape=w.tape) (output:w'.output=w.output) (U:A3 w k≤A3 w' k) (V:y.mp=x.mp:=by rfl) :
  Step J β h w J β (Ff h d y) w':=by
 have nj:∀ g j,J g j→j≠k:=fun g j t e=>by
  subst e
  rcases S.blk d x G I T with⟨u,_⟩ | ⟨k',o',cs0,ty0,fr0,v,h2,B,h4,h5,h6,h7⟩
  ·rw[L] at u;simp at u
  ·rw[L] at v;simp at v;obtain⟨rfl,rfl⟩:=v
   exact h6 hs g t
 have E:Ext J β h w J β (Ff h d y) w':=by
  refine⟨fun _ _ t=>t,fun o j t=>other j (nj o j t),fun b z n=>?_,fun b j oo n=>?_⟩
  ·by_cases e:b=d
   ·subst e;rw[G] at n;simp at n;subst n;exact⟨y,⟨by rw[Aj,if_pos rfl],V⟩,.inl hy⟩
   ·refine⟨z,⟨by rw[Aj,if_neg e];exact n,rfl⟩,?_⟩
    cases I:z.dead
    ·exact .inr ⟨rfl,rfl,rfl,fun _=>rfl⟩
    ·exact .inl rfl
  ·by_cases e:j=k
   ·subst e;exact U
   ·simp[A3,other j e]
 have live:∀ {b z},An (Ff h d y) b=some z→z.dead=false→b≠d∧An h b=some z:=fun {b z} n q=>by
  rw[Aj] at n
  by_cases e:b=d
  ·rw[if_pos e] at n;simp at n;subst n;simp[hy] at q
  ·rw[if_neg e] at n;exact⟨e,n⟩
 have apart:∀ {b z j oo},b≠d→An h b=some z→z.dead=false→β b=some (j,oo)→j≠k:=fun {b z j oo} e n q s ej=>by
  subst ej;exact e (S.sep d b x z j o oo G n I q hs L s).symm
 refine⟨E,⟨fun g j t=>by rw[size];exact S.jlt g j t,S.jft,S.gl.ext E,fun b z n q C=>?_,fun b z n q C=>by
   obtain⟨e,n⟩:=live n q
   exact(S.mblk b z n q C).keep rfl (fun j oo s=>other j (apart e n q s)) (fun _ _ _ _ t=>t),fun b b' z z' j oo X n Y q D A s F=>?_⟩,os,tape,output,by rw[size];exact Az3 _,fun j t C=>other j (fun e=>by subst e;exact C ⟨d,x,o,G,I,hs,L⟩),?_,fun _ _ t=>.inl t⟩
 ·obtain⟨e,n⟩:=live n q
  rcases S.blk b z n q C with u | ⟨j,oo,cs,ty,fr,u,h2,B⟩
  ·exact .inl u
  ·exact .inr ⟨j,oo,cs,ty,fr,u,by rw[other j (apart e n q u)];exact h2,B.1,B.2.1,B.2.2.1.ext E,B.2.2.2⟩
 ·exact S.sep b b' z z' j oo X (live n q).2 (live Y D).2 q D A s F
 ·rintro j ⟨b,z,oo,n,q,A,s⟩ _
  exact⟨b,z,oo,(live n q).2,q,A,s⟩
end
end Gx
namespace Gx
open Go
section
variable {J J' J'':Bool→Nat→Prop} {β β' β'':Cd} {h h' h'':Az} {w w' w'':World}
theorem Step.shutB (S:SimH J β h w) {d:Nat} {x:Blk} (C:An h d=some x) (u:x.dead=false) (D:x.mp=false) :
  Step J β h w (fun o k=>J o k∨∃ o',β d=some (k,o')∧(x.taint=true→o=true)) β (Ff h d { x with sealed:=true }) w:=by
 have E:Ext J β h w (fun o k=>J o k∨∃ o',β d=some (k,o')∧(x.taint=true→o=true)) β (Ff h d { x with sealed:=true }) w:=by
  refine⟨fun _ _ q=>.inl q,fun o k q=>rfl,fun b z j=>?_,fun b k o n=>Az3 _⟩
  by_cases e:b=d
  ·subst e;rw[C] at j;simp at j;subst j
   exact⟨{ x with sealed:=true },⟨by rw[Aj,if_pos rfl],rfl⟩,.inr ⟨u,rfl,rfl,fun _=>rfl⟩⟩
  ·refine⟨z,⟨by rw[Aj,if_neg e];exact j,rfl⟩,?_⟩
   cases u:z.dead
   ·exact .inr ⟨rfl,rfl,rfl,fun _=>rfl⟩
   ·exact .inl rfl
 refine⟨E,⟨?_,?_,S.gl.ext E,fun b z j t L=>?_,fun b z j t L=>by
   rw[Aj] at j
   by_cases e:b=d
   ·rw[if_pos e] at j;simp at j;subst j;simp[D] at L
   ·rw[if_neg e] at j
    have M:=S.mblk b z j t L
    refine M.keep rfl (fun k o n=>rfl) (fun g k o n q=>?_)
    rcases q with q | ⟨o',F,_⟩
    ·exact q
    ·exact absurd (S.sep b d z x k o o' j C t u M.2.1 n F) e,?_⟩,rfl,rfl,rfl,Az3 _,fun k hk _=>rfl,?_,?_⟩
 ·rintro o k (q | ⟨o',n,_⟩)
  ·exact S.jlt o k q
  ·exact Yp S C u n
 ·rintro k (q | ⟨o',n,ht⟩)
  ·exact .inl (S.jft k q)
  ·exact .inr ⟨o',n,fun _=>rfl⟩
 ·rw[Aj] at j
  by_cases e:b=d
  ·rw[if_pos e] at j;simp at j;subst j;subst e
   rcases S.blk b x C u D with s | ⟨k,o,v,A,B,s,T,U,V,X,h6,Y⟩
   ·exact .inl s
   ·exact .inr ⟨k,o,v,A,B,s,T,U,V,X.ext E,fun hs=>by simp at hs,fun _=>.inr ⟨o,s,id⟩⟩
  ·rw[if_neg e] at j
   rcases S.blk b z j t L with s | ⟨k,o,v,A,B,s,T,U,V,X,h6,Y⟩
   ·exact .inl s
   ·refine .inr ⟨k,o,v,A,B,s,T,U,V,X.ext E,fun hs g q=>?_,fun hs=>.inl (Y hs)⟩
    rcases q with q | ⟨o',n,_⟩
    ·exact h6 hs g q
    ·exact e (S.sep b d z x k o o' j C t u hs s n)
 ·intro b b' z z' k o o' j hb' hd1 hd2 hs n F
  have get:∀ {c y},An (Ff h d { x with sealed:=true }) c=some y→y.dead=false→∃ y',An h c=some y'∧y'.dead=false∧(y.sealed=false→y'.sealed=false):=by
   intro c y I hyd
   rw[Aj] at I
   by_cases e:c=d
   ·subst e;exact⟨x,C,u,fun hs=>by simp at I;subst I;simp at hs⟩
   ·rw[if_neg e] at I;exact⟨y,I,hyd,id⟩
  obtain⟨y1,g1,g2,g3⟩:=get j hd1
  obtain⟨y2,g4,g5,g6⟩:=get hb' hd2
  exact S.sep b b' y1 y2 k o o' g1 g4 g2 g5 (g3 hs) n F
 ·rintro k ⟨b,z,o,j,t,hs,n⟩ hk
  rw[Aj] at j
  by_cases e:b=d
  ·rw[if_pos e] at j;simp at j;subst j;simp at hs
  ·rw[if_neg e] at j
   exact⟨b,z,o,j,t,hs,n⟩
 ·rintro o k (q | ⟨o',n,ht⟩)
  ·exact .inl q
  ·cases hs:x.sealed with
   | false=>exact .inr (.inl ⟨d,x,o',C,u,hs,n⟩)
   | true =>
    left
    rcases S.blk d x C u D with⟨s,_⟩ | ⟨k',o1,v,A,B,s,T,U,V,X,h6,Y⟩
    ·rw[n] at s;simp at s
    ·rw[n] at s;simp at s;obtain⟨rfl,rfl⟩:=s
     have:=Y hs
     cases G:x.taint with
     | true=>rw[G] at this;rw[ht G];exact this
     | false =>
      rw[G] at this
      cases o
      ·exact this
      ·exact S.jft _ this
structure OnlyBlk (w w':World) (k:Nat) (cs cs':Array Value) (ty:TypeId) (fr:Nat×Nat):Prop where
 old:w.heap[k]?=some (.cells cs ty fr)
 new:w'.heap[k]?=some (.cells cs' ty fr)
 sz:cs'.size=cs.size
 other:∀ j,j≠k→w'.heap[j]?=w.heap[j]?
 size:w'.heap.size=w.heap.size
 os:w'.os=w.os
 tape:w'.tape=w.tape
 output:w'.output=w.output
theorem OnlyBlk.setCell {k i:Nat} {cs:Array Value} {ty:TypeId} {fr:Nat×Nat} (n:w.heap[k]?=some (.cells cs ty fr)) (u:Value) :
  OnlyBlk w (w.setCell ⟨k,i,none⟩ u) k cs (cs.setIfInBounds i u) ty fr:=by
 refine⟨n,?_,by simp,fun j q=>?_,by simp[World.setCell],rfl,rfl,rfl⟩
 ·simp[World.setCell,A2i,n]
 ·simp only[World.setCell,A2i];rw[if_neg (fun e=>q e.symm)]
theorem OnlyBlk.setCells {k:Nat} {ty:TypeId} {fr:Nat×Nat}:∀ (us:List Value) (i:Nat) (w:World) (cs:Array Value),w.heap[k]?=some (.cells cs ty fr) →
  ∃ e,OnlyBlk w (w.setCells k i us) k cs e ty fr∧∀ j,e[j]?=if i≤j∧j<i+us.length∧j<cs.size then us[j - i]? else cs[j]?
 | [],i,w,cs,n=>⟨cs,⟨n,n,rfl,fun _ _=>rfl,rfl,rfl,rfl,rfl⟩,fun j=>by rw[if_neg (by simp;omega)]⟩
 | u::us,i,w,cs,n=>by
  have A:=OnlyBlk.setCell (i:=i) n u
  obtain⟨e,B,hB⟩:=OnlyBlk.setCells us (i+1) (w.setCell ⟨k,i,none⟩ u) _ A.new
  refine⟨e,⟨n,B.new,B.sz.trans A.sz,fun j q=>(B.other j q).trans (A.other j q),B.size.trans A.size,B.os.trans A.os,B.tape.trans A.tape,B.output.trans A.output⟩,fun j=>?_⟩
  rw[hB j]
  simp only[A48,Az5]
  by_cases q:j=i
  ·subst q
   rw[if_neg (by omega)]
   by_cases hs:j<cs.size
   ·rw[if_pos (by omega)];simp[hs]
   ·rw[if_neg (by omega)];simp[hs]
  ·by_cases s:i+1≤j∧j<i+1+us.length∧j<cs.size
   ·rw[if_pos s,if_pos (by omega),show j - i=(j - (i+1))+1 by omega];simp
   ·rw[if_neg s,if_neg (by omega),A4d (by omega)]
theorem Step.set (S:SimH J β h w) {d k o:Nat} {x x':Blk} {cs v:Array Value} {ty:TypeId} {fr:Nat×Nat} (A:An h d=some x) (t:x.dead=false) (hs:x.sealed=false) (F:β d=some (k,o))
  (O:OnlyBlk w w' k cs v ty fr) (hd':x'.dead=false) (Y:x'.sealed=false) (hz:x'.sz=x.sz) (hl:x'.cells.length=x.cells.length) (L:CellsRep J β h w x' (fun j=>v[o+j]?)) (T:x.mp=false) (u:x'.mp=x.mp:=by rfl) (hty:x'.ty=x.ty:=by rfl) :
  Step J β h w J β (Ff h d x') w':=by
 obtain⟨U,o',cs0,ty0,fr0,B,h2,h3,h4,h5,h6,h7⟩:∃ U o' cs0 ty0 fr0,β d=some (U,o')∧w.heap[U]?=some (.cells cs0 ty0 fr0) ∧
   FrTy x.ty ty0 o' cs0.size fr0∧o'+x.cells.length≤cs0.size∧CellsRep J β h w x (fun j=>cs0[o'+j]?)∧(x.sealed=false→∀ g,¬ J g U)∧(x.sealed=true→J x.taint U):=by
  rcases S.blk d x A t T with⟨X,_⟩ | X
  ·rw[F] at X;simp at X
  ·exact X
 rw[F] at B;simp at B;obtain⟨rfl,rfl⟩:=B
 rw[O.old] at h2;simp at h2;obtain⟨rfl,rfl,rfl⟩:=h2
 have nj:∀ g j,J g j→j≠k:=fun g j s e=>by subst e;exact h6 hs g s
 have E:Ext J β h w J β (Ff h d x') w':=by
  refine⟨fun _ _ s=>s,fun o j s=>O.other j (nj o j s),fun b z n=>?_,fun b j oo n=>?_⟩
  ·by_cases e:b=d
   ·subst e;rw[A] at n;simp at n;subst n
    exact⟨_,⟨by rw[Aj,if_pos rfl],u⟩,.inr ⟨t,rfl,hz,fun _=>hl⟩⟩
   ·refine⟨z,⟨by rw[Aj,if_neg e];exact n,rfl⟩,?_⟩
    cases t:z.dead
    ·exact .inr ⟨rfl,rfl,rfl,fun _=>rfl⟩
    ·exact .inl rfl
  ·by_cases e:j=k
   ·subst e;rw[Ea O.old,Ea O.new,O.sz];exact Az3 _
   ·simp[A3,O.other j e]
 refine⟨E,⟨fun g j s=>by rw[O.size];exact S.jlt g j s,S.jft,S.gl.ext E,fun b z n q G=>?_,fun b z n q G=>by
   rw[Aj] at n
   by_cases e:b=d
   ·rw[if_pos e] at n;simp at n;subst n;simp[u,T] at G
   ·rw[if_neg e] at n
    exact(S.mblk b z n q G).keep rfl (fun C o2 D=>O.other C (fun e2=>by subst e2;exact e (S.sep d b x z C o o2 A n t q hs F D).symm)) (fun _ _ _ _ s=>s),?_⟩,O.os,O.tape,O.output,by rw[O.size];exact Az3 _,fun j s G=>?_,?_,fun _ _ s=>.inl s⟩
 ·rw[Aj] at n
  by_cases e:b=d
  ·rw[if_pos e] at n;simp at n;subst n;subst e
   refine .inr ⟨k,o,v,ty,fr,F,O.new,?_,by rw[hl,O.sz];exact h4,L.ext E,fun _=>h6 hs,fun hh=>by simp[Y] at hh⟩
   rw[O.sz,hty];exact h3
  ·rw[if_neg e] at n
   rcases S.blk b z n q G with I | ⟨C,o2,cs2,ty2,fr2,I,g2,g3,g4,g5,g6,g7⟩
   ·exact .inl I
   ·have hne:C≠k:=fun e2=>by
     subst e2;exact e (S.sep d b x z C o o2 A n t q hs F I).symm
    exact .inr ⟨C,o2,cs2,ty2,fr2,I,by rw[O.other C hne];exact g2,g3,g4,g5.ext E,g6,g7⟩
 ·intro b b' z z' kk oo oo' n hb' hd1 hd2 hs1 hβ1 D
  have get:∀ {c y},An (Ff h d x') c=some y→y.dead=false→∃ y',An h c=some y'∧y'.dead=false∧(y.sealed=false→y'.sealed=false):=by
   intro c y L hyd
   rw[Aj] at L
   by_cases e:c=d
   ·subst e;exact⟨x,A,t,fun _=>hs⟩
   ·rw[if_neg e] at L;exact⟨y,L,hyd,id⟩
  obtain⟨y1,I,g2,g3⟩:=get n hd1
  obtain⟨y2,g4,g5,g6⟩:=get hb' hd2
  exact S.sep b b' y1 y2 kk oo oo' I g4 g2 g5 (g3 hs1) hβ1 D
 ·exact O.other j (fun e=>G (by subst e;exact⟨d,x,o,A,t,hs,F⟩))
 ·rintro j ⟨b,z,oo,n,q,hsz,V⟩ s
  rw[Aj] at n
  by_cases e:b=d
  ·subst e;exact⟨b,x,oo,A,t,hs,V⟩
  ·rw[if_neg e] at n
   exact⟨b,z,oo,n,q,hsz,V⟩
theorem Step.setObj (S:SimH J β h w) {d k:Nat} {x x':Blk} {ob C:Obj} (G:An h d=some x) (D:x.dead=false) (U:x.mp=true) (I:β d=some (k,0))
  (old:w.heap[k]?=some ob) (new:w'.heap[k]?=some C) (other:∀ j,j≠k→w'.heap[j]?=w.heap[j]?) (size:w'.heap.size=w.heap.size) (os:w'.os=w.os) (tape:w'.tape=w.tape) (output:w'.output=w.output)
  (V:ObjIs x' C) (hx'd:x'.dead=false) (X:x'.sealed=false) (Y:x'.pure=true) (hx'z:x'.sz=x.sz) (B:x'.mp=true):Step J β h w J β (Ff h d x') w':=by
 have M:=S.mblk d x G D U
 have nJ:∀ g,¬ J g k:=by
  obtain⟨_,_,k',_,u,_,_,v⟩:=M
  rw[I] at u;simp at u;subst u;exact v
 have nj:∀ g j,J g j→j≠k:=fun g j q e=>by subst e;exact nJ g q
 have E:Ext J β h w J β (Ff h d x') w':=by
  refine⟨fun _ _ q=>q,fun o j q=>other j (nj o j q),fun b z n=>?_,fun b j oo n=>?_⟩
  ·by_cases e:b=d
   ·subst e;rw[G] at n;simp at n;subst n
    exact⟨_,⟨by rw[Aj,if_pos rfl],by rw[B,U]⟩,.inr ⟨D,rfl,hx'z,fun h=>by simp[U] at h⟩⟩
   ·refine⟨z,⟨by rw[Aj,if_neg e];exact n,rfl⟩,?_⟩
    cases D:z.dead
    ·exact .inr ⟨rfl,rfl,rfl,fun _=>rfl⟩
    ·exact .inl rfl
  ·by_cases e:j=k
   ·subst e
    have r0:∀ cs ty fr,ob≠.cells cs ty fr:=by
     obtain⟨_,_,k',ob0,u,v,h3,_⟩:=M
     rw[I] at u;simp at u;subst u
     rw[old] at v;simp at v;subst v
     exact fun _ _ _=>h3.row
    have z0:A3 w j=0:=by
     unfold A3;rw[old]
     split
     ·rename_i e;simp at e;exact absurd e (r0 _ _ _)
     ·rfl
    rw[z0];exact A4l _
   ·simp[A3,other j e]
 refine⟨E,⟨fun g j q=>by rw[size];exact S.jlt g j q,S.jft,S.gl.ext E,fun b z n t A=>?_,fun b z n t A=>?_,?_⟩,os,tape,output,by rw[size];exact Az3 _,fun j q U=>?_,?_,fun _ _ q=>.inl q⟩
 ·rw[Aj] at n
  by_cases e:b=d
  ·rw[if_pos e] at n;simp at n;subst n;simp[B] at A
  ·rw[if_neg e] at n
   rcases S.blk b z n t A with g1 | ⟨L,o2,cs2,ty2,fr2,g1,T,g3,g4,g5,g6,g7⟩
   ·exact .inl g1
   ·have hne:L≠k:=fun e2=>by
     subst e2;rw[old] at T;simp at T
     obtain⟨_,_,k',ob0,u,v,h3,_⟩:=M
     rw[I] at u;simp at u;subst u
     rw[old] at v;simp at v;subst v
     exact absurd T h3.row
    exact .inr ⟨L,o2,cs2,ty2,fr2,g1,by rw[other L hne];exact T,g3,g4,g5.ext E,g6,g7⟩
 ·rw[Aj] at n
  by_cases e:b=d
  ·rw[if_pos e] at n;simp at n;subst n;subst e
   exact⟨Y,X,k,C,I,new,V,nJ⟩
  ·rw[if_neg e] at n
   exact(S.mblk b z n t A).keep rfl (fun L o2 F=>other L (fun e2=>by subst e2;exact e (S.sep d b x z L 0 o2 G n D t M.2.1 I F).symm)) (fun _ _ _ _ q=>q)
 ·intro b b' z z' kk oo oo' n hb' hd1 hd2 hs1 hβ1 F
  have get:∀ {c y},An (Ff h d x') c=some y→y.dead=false→∃ y',An h c=some y'∧y'.dead=false∧(y.sealed=false→y'.sealed=false):=by
   intro c y V hyd
   rw[Aj] at V
   by_cases e:c=d
   ·subst e;exact⟨x,G,D,fun _=>M.2.1⟩
   ·rw[if_neg e] at V;exact⟨y,V,hyd,id⟩
  obtain⟨y1,g1,T,g3⟩:=get n hd1
  obtain⟨y2,g4,g5,g6⟩:=get hb' hd2
  exact S.sep b b' y1 y2 kk oo oo' g1 g4 T g5 (g3 hs1) hβ1 F
 ·exact other j (fun e=>U (by subst e;exact⟨d,x,0,G,D,M.2.1,I⟩))
 ·rintro j ⟨b,z,oo,n,t,hsz,hβz⟩ q
  rw[Aj] at n
  by_cases e:b=d
  ·subst e;exact⟨b,x,oo,G,D,M.2.1,hβz⟩
  ·rw[if_neg e] at n
   exact⟨b,z,oo,n,t,hsz,hβz⟩
theorem Step.mark (S:SimH J β h w) {d k o:Nat} {x:Blk} {cs:Array Value} {ty:TypeId} {fr u:Nat×Nat} (C:An h d=some x) (D:x.dead=false) (hs:x.sealed=false) (F:β d=some (k,o))
  (old:w.heap[k]?=some (.cells cs ty fr)) (new:w'.heap[k]?=some (.cells cs ty u)) (hf:FrOk cs.size u) (other:∀ j,j≠k→w'.heap[j]?=w.heap[j]?) (size:w'.heap.size=w.heap.size) (os:w'.os=w.os) (tape:w'.tape=w.tape) (output:w'.output=w.output) (B:x.mp=false) :
  Step J β h w J β h w':=by
 have nj:∀ g j,J g j→j≠k:=fun g j n e=>by
  subst e
  rcases S.blk d x C D B with⟨T,_⟩ | ⟨k',o',cs0,ty0,fr0,v,h2,h3,h4,h5,h6,h7⟩
  ·rw[F] at T;simp at T
  ·rw[F] at v;simp at v;obtain⟨rfl,rfl⟩:=v
   exact h6 hs g n
 have E:Ext J β h w J β h w':=by
  refine⟨fun _ _ n=>n,fun o j n=>other j (nj o j n),fun b z q=>⟨z,⟨q,rfl⟩,?_⟩,fun b j oo q=>?_⟩
  ·cases D:z.dead
   ·exact .inr ⟨rfl,rfl,rfl,fun _=>rfl⟩
   ·exact .inl rfl
  ·by_cases e:j=k
   ·subst e;rw[Ea old,Ea new];exact Az3 _
   ·simp[A3,other j e]
 refine⟨E,⟨fun g j n=>by rw[size];exact S.jlt g j n,S.jft,S.gl.ext E,fun b z q s t=>?_,fun b z q s t=>by
   refine(S.mblk b z q s t).keep rfl (fun A o2 L=>other A (fun e2=>?_)) (fun _ _ _ _ n=>n)
   subst e2
   have:=(S.sep d b x z A o o2 C q D s hs F L)
   subst this
   rw[C] at q;simp at q;subst q;simp[B] at t,S.sep⟩,os,tape,output,by rw[size];exact Az3 _,fun j n t=>?_,fun _ t _=>t,fun _ _ n=>.inl n⟩
 ·rcases S.blk b z q s t with G | ⟨A,o2,cs2,ty2,fr2,G,I,U,V,X,Y,g7⟩
  ·exact .inl G
  ·by_cases e:A=k
   ·subst e
    rw[old] at I;simp at I;obtain⟨rfl,rfl,rfl⟩:=I
    exact .inr ⟨A,o2,cs,ty,u,G,new,⟨hf,U.2⟩,V,X.ext E,Y,g7⟩
   ·exact .inr ⟨A,o2,cs2,ty2,fr2,G,by rw[other A e];exact I,U,V,X.ext E,Y,g7⟩
 ·exact other j (fun e=>t (by subst e;exact⟨d,x,o,C,D,hs,F⟩))
theorem Step.move (S:SimH J β h w) {d d' k o o':Nat} {x x' y:Blk} {cs G:Array Value} {ty:TypeId} {fr:Nat×Nat} (v:An h d=some x) (C:x.dead=false) (hs:x.sealed=false) (D:β d=some (k,o))
  (hn:An h d'=none) (hy:y.dead=true)
  (O:OnlyBlk w w' k cs G ty fr) (hd':x'.dead=false) (hs':x'.sealed=false) (hl:o'+x'.cells.length≤cs.size) (hc:CellsRep J β h w x' (fun j=>G[o'+j]?)) (hxm:x.mp=false) (hym:y.mp=x.mp:=by rfl) (X:x'.mp=false:=by rfl) (hty:TyOk x'.ty ty o' cs.size:=by exact TyOk.none) :
  Step J β h w J (fun b=>if b=d' then some (k,o') else β b) (Ff (Ff h d y) d' x') w':=by
 obtain⟨Y,o1,cs0,ty0,fr0,I,h2,h3,h4,h5,h6,h7⟩:∃ Y o' cs0 ty0 fr0,β d=some (Y,o')∧w.heap[Y]?=some (.cells cs0 ty0 fr0) ∧
   FrTy x.ty ty0 o' cs0.size fr0∧o'+x.cells.length≤cs0.size∧CellsRep J β h w x (fun j=>cs0[o'+j]?)∧(x.sealed=false→∀ g,¬ J g Y)∧(x.sealed=true→J x.taint Y):=by
  rcases S.blk d x v C hxm with⟨h1,_⟩ | h1
  ·rw[D] at h1;simp at h1
  ·exact h1
 rw[D] at I;simp at I;obtain⟨rfl,rfl⟩:=I
 rw[O.old] at h2;simp at h2;obtain⟨rfl,rfl,rfl⟩:=h2
 have nj:∀ g j,J g j→j≠k:=fun g j t e=>by subst e;exact h6 hs g t
 have ndd:d≠d':=fun e=>by subst e;rw[hn] at v;cases v
 have ne:∀ {b z},An h b=some z→b≠d':=fun n e=>by subst e;rw[hn] at n;cases n
 have get:∀ b,An (Ff (Ff h d y) d' x') b=if b=d' then some x' else if b=d then some y else An h b:=fun b=>by rw[Aj,Aj]
 have E:Ext J β h w J (fun b=>if b=d' then some (k,o') else β b) (Ff (Ff h d y) d' x') w':=by
  refine⟨fun _ _ t=>t,fun o j t=>O.other j (nj o j t),fun b z n=>?_,fun b j oo n=>?_⟩
  ·by_cases e:b=d
   ·have hb0:=n;subst e;rw[v] at n;simp at n;subst n;exact⟨y,⟨by rw[get,if_neg (ne hb0),if_pos rfl],hym⟩,.inl hy⟩
   ·refine⟨z,⟨by rw[get,if_neg (ne n),if_neg e];exact n,rfl⟩,?_⟩
    cases C:z.dead
    ·exact .inr ⟨rfl,by simp[ne n],rfl,fun _=>rfl⟩
    ·exact .inl rfl
  ·by_cases e:j=k
   ·subst e;rw[Ea O.old,Ea O.new,O.sz];exact Az3 _
   ·simp[A3,O.other j e]
 have live:∀ {b z},An (Ff (Ff h d y) d' x') b=some z→z.dead=false→(b=d'∧z=x')∨(b≠d'∧b≠d∧An h b=some z):=by
  intro b z n hz
  rw[get] at n
  by_cases e:b=d'
  ·rw[if_pos e] at n;simp at n;exact .inl ⟨e,n.symm⟩
  ·rw[if_neg e] at n
   by_cases A:b=d
   ·rw[if_pos A] at n;simp at n;subst n;simp[hy] at hz
   ·rw[if_neg A] at n;exact .inr ⟨e,A,n⟩
 refine⟨E,⟨fun g j t=>by rw[O.size];exact S.jlt g j t,S.jft,S.gl.ext E,fun b z n q V=>?_,fun b z n q V=>by
   rcases live n q with⟨rfl,rfl⟩ | ⟨e1,A,n⟩
   ·simp[X] at V
   ·exact(S.mblk b z n q V).keep (by simp[e1]) (fun L o2 s=>O.other L (fun e=>by subst e;exact A (S.sep d b x z L o o2 v n C q hs D s).symm)) (fun _ _ _ _ t=>t),?_⟩,O.os,O.tape,O.output,by rw[O.size];exact Az3 _,fun j t V=>?_,?_,fun _ _ t=>.inl t⟩
 ·rcases live n q with⟨rfl,rfl⟩ | ⟨e1,A,n⟩
  ·refine .inr ⟨k,o',G,ty,fr,by simp,O.new,?_,by rw[O.sz];exact hl,hc.ext E,fun _=>h6 hs,fun hh=>by simp[hs'] at hh⟩
   rw[O.sz];exact⟨h3.1,hty⟩
  ·rcases S.blk b z n q V with g1 | ⟨L,o2,cs2,ty2,fr2,g1,g2,g3,g4,g5,g6,g7⟩
   ·exact .inl ⟨by simp[e1,g1.1],g1.2⟩
   ·have hne:L≠k:=fun e=>by
     subst e;exact A (S.sep d b x z L o o2 v n C q hs D g1).symm
    exact .inr ⟨L,o2,cs2,ty2,fr2,by simp[e1,g1],by rw[O.other L hne];exact g2,g3,g4,g5.ext E,g6,g7⟩
 ·intro b b' z z' kk oo oo' n hb' T U hs1 u s
  rcases live n T with⟨e0,_⟩ | ⟨e1,A,hbb⟩<;>rcases live hb' U with⟨e0',_⟩ | ⟨e3,e4,F⟩
  ·rw[e0,e0']
  ·simp[e0] at u;simp[e3] at s
   obtain⟨rfl,rfl⟩:=u
   exact absurd (S.sep d b' x z' k o oo' v F C U hs D s).symm e4
  ·simp[e0'] at s;simp[e1] at u
   obtain⟨rfl,rfl⟩:=s
   exact absurd (S.sep d b x z k o oo v hbb C T hs D u).symm A
  ·simp[e1] at u;simp[e3] at s
   exact S.sep b b' z z' kk oo oo' hbb F T U hs1 u s
 ·exact O.other j (fun e=>V (by subst e;exact⟨d,x,o,v,C,hs,D⟩))
 ·rintro j ⟨b,z,oo,n,q,hsz,B⟩ t
  rcases live n q with⟨rfl,rfl⟩ | ⟨e1,A,n⟩
  ·simp at B;obtain⟨rfl,rfl⟩:=B
   exact⟨d,x,o,v,C,hs,D⟩
  ·simp[e1] at B;exact⟨b,z,oo,n,q,hsz,B⟩
end
end Gx
namespace Gx
open Go
theorem Cj:∀ (a b:Eo) (h:Az),Am (a++b) h=Am b (Am a h)
 | [],_,_=>rfl
 | (_,some _)::r,b,h=>by simp only[A0u,Am];exact Cj r b _
 | (_,none)::r,b,h=>by simp only[A0u,Am];exact Cj r b _
def LooksS (g:A7) (h:Az):Prop:=∀ b x,g b=some x→∃ y,An h b=some y∧{ y with sealed:=true }={ x with sealed:=true }
theorem Looks.s {g:A7} {h:Az} (e:Looks g h):LooksS g h:=fun b x j=>⟨x,e b x j,rfl⟩
section
variable {R:Type} {r:R} {P:Program} {J J':Bool→Nat→Prop} {β:Cd} {h:Az} {w:World} {g:A7}
theorem LooksS.shutB (k:LooksS g h) {b:Nat} {x:Blk} (n:g b=some x):LooksS g (Ff h b { x with sealed:=true }):=by
 intro c y j
 rw[Aj]
 by_cases e:c=b
 ·subst e;rw[n] at j;simp at j;subst j
  exact⟨{ x with sealed:=true },by simp,rfl⟩
 ·rw[if_neg e];exact k c y j
theorem Al1 (S:SimH J β h w) {b off n:Nat} {y:Blk} {v:Value} (I:An h b=some y) (L:y.dead=false) (T:y.pure=true) (hr:Rep J β h w (.own b off n) v)
  (hJ:∀ k o,β b=some (k,o)→J' y.taint k) (u:∀ o k,J o k→J' o k) (t o:Bool):RepC (J' y.taint) w (.imm ((y.cells.drop off).take (n*y.sz)) n y.sz t o) v↔(t=true→∃ A cap,v=.slice A n cap∧cap=n):=by
 rw[Rep] at hr
 obtain⟨x,A,cap,⟨q,B⟩,rfl,e,hr⟩:=hr
 rw[I] at q;simp at q;subst q
 rw[RepC]
 constructor
 ·rintro⟨_,A',cap',C,_,D,_⟩ F
  exact⟨A',cap',C,D F⟩
 ·intro D
  have z:t=true→cap=n:=fun F=>by
   obtain⟨A',cap',C,Y⟩:=D F
   simp at C;omega
  rcases hr with hr | ⟨kk,oo,rfl,hr⟩
  ·have:n=0:=by omega
   subst this
   exact⟨by simp,A,cap,rfl,e,z,.inl rfl⟩
  ·rcases hr with hr | ⟨G,r2,r3⟩
   ·simp[L] at hr
   ·rcases S.blk b y I L B with⟨hn,_⟩ | ⟨k',o',cs,ty,fr,s,U,g2,g3,V,g5,g6⟩
    ·rw[G] at hn;simp at hn
    ·rw[G] at s;simp at s;obtain⟨rfl,rfl⟩:=s
     refine⟨by simp;omega,_,cap,rfl,e,z,.inr ⟨_,rfl,hJ _ _ G,?_⟩⟩
     have:=((V.1 T).drop off).take (n*y.sz)
     refine RepCs.keep (fun k X=>u _ k X) (fun _ _=>rfl) (fun j=>?_) this
     rw[Addr.add_mid,Pf U,A1x]
theorem Arc {b off n:Nat} {y:Blk} {v:Value} (k:An h b=some y) (hr:Rep J β h w (.own b off n) v):y.mp=false:=by
 rw[Rep] at hr
 obtain⟨x,A,cap,⟨e,j⟩,_⟩:=hr
 rw[k] at e;simp at e;subst e;exact j
theorem At8 {b off:Nat} {y:Blk} {v:Value} (n:An h b=some y) (hr:Rep J β h w (.optr b off) v):y.mp=false:=by
 rw[Rep] at hr
 obtain⟨x,k,o,⟨e,j⟩,_⟩:=hr
 rw[n] at e;simp at e;subst e;exact j
theorem RR {v v':AV} {ups:Eo} {org:Bool} {vc:Value} (S:SimH J β h w) (t:LooksS g h) (hh:YM g v=some (v',ups,org)) (q:Rep J β h w v vc) :
    ∃ J',Step J β h w J' β (Am ups h) w∧RepC (J' org) w v' vc∧LooksS g (Am ups h):=by
  unfold YM at hh
  split at hh
  · rename_i b off n
    obtain⟨x,j,C⟩:=ub hh
    obtain⟨D,z⟩:=uc C
    simp at z
    obtain⟨rfl,rfl,rfl⟩:=z
    unfold Fy at j
    obtain⟨x0,s,j⟩:=ub j
    obtain⟨B,j⟩:=Aib j
    simp at j;subst j
    obtain⟨y,u,e⟩:=t b _ s
    have e1:y.cells=x0.cells:=by have:=congrArg Blk.cells e;simpa using this
    have F:y.sz=x0.sz:=by have:=congrArg Blk.sz e;simpa using this
    have e3:y.taint=x0.taint:=by have:=congrArg Blk.taint e;simpa using this
    have e4:y.dead=x0.dead:=by have:=congrArg Blk.dead e;simpa using this
    have G:y.pure=x0.pure:=by have:=congrArg Blk.pure e;simpa using this
    have A:=Step.shutB S u (by rw[e4];exact B) (Arc u q)
    refine⟨_,by simp only[Am];rw[←e];exact A,?_,by simp only[Am];exact t.shutB s⟩
    have:=(Al1 (J':=fun o k=>J o k∨∃ o',β b=some (k,o')∧(y.taint=true→o=true)) S u (by rw[e4];exact B) (by rw[G];exact D) q (fun k o I=>.inr ⟨o,I,id⟩) (fun o k L=>.inl L) false x0.taint).2 (by simp)
    rw[e1,F,e3] at this
    rw[e3]
    exact this
  all_goals first
    | (simp at hh;done)
    | (simp at hh; obtain ⟨rfl, rfl, rfl⟩ := hh
       refine⟨J,Step.refl S,?_,t⟩
       first
         | (rw[Rep] at q;exact q)
         | skip)
  · cases v
    case imm=>rename_i hi _ _;exact absurd rfl (hi _ _ _ _ _)
    case iptr=>rename_i hi _;exact absurd rfl (hi _ _)
    case pagg=>rename_i hi;exact absurd rfl (hi _ _)
    all_goals first | (rw[Rep] at q;rw[RepC];exact q) | simp_all
theorem Se:∀ {c c':LA} {ups:Eo} {org:Bool} {cs:List Value} {J:Bool→Nat→Prop} {h:Az},SimH J β h w→LooksS g h→BQ g c=some (c',ups,org)→Reps J β h w c cs →
  ∃ J',Step J β h w J' β (Am ups h) w∧RepCs (J' org) w c' (fun j=>cs[j]?) 0∧c'.length=cs.length∧LooksS g (Am ups h)
 | [],c',ups,org,cs,J,h,S,s,hh,n=>by
  simp[BQ] at hh;obtain⟨rfl,rfl,rfl⟩:=hh
  rw[Reps] at n;subst n
  exact⟨J,Step.refl S,by simp[RepCs],rfl,s⟩
 | v::r,c',ups,org,cs,J,h,S,s,hh,n=>by
  rw[BQ] at hh
  obtain⟨⟨v1,u1,o1⟩,I,L⟩:=ub hh
  obtain⟨⟨U,u2,o2⟩,hq,F⟩:=ub L
  simp at F
  obtain⟨rfl,rfl,rfl⟩:=F
  rw[Reps] at n
  obtain⟨u,us,rfl,t,z⟩:=n
  obtain⟨J1,A,hA,C⟩:=RR S s I t
  obtain⟨J2,B,hB,q,D⟩:=Se A.sim C hq (Reps.ext A.ext z)
  refine⟨J2,by rw[Cj];exact A.trans B (fun _ _ _ _=>Az3 _),?_,by simp[q],by rw[Cj];exact D⟩
  have mono:∀ {a b:Bool} (k:Nat),J2 a k→J2 (a||b) k:=fun {a b} k e=>by
   cases a
   ·cases b
    ·exact e
    ·exact B.sim.jft k e
   ·exact e
  have mono':∀ {a b:Bool} (k:Nat),J2 b k→J2 (a||b) k:=fun {a b} k e=>by rw[A5j];exact mono k e
  rw[RepCs]
  refine⟨⟨u,by simp,?_⟩,?_⟩
  ·exact RepC.keep (J:=J1 o1) (fun k e=>mono k (B.ext.jsub _ k e)) (fun _ _=>rfl) hA
  ·have:=RepCs.keep (J':=J2 (o1||o2)) (w':=w) (fun k e=>mono' k e) (fun _ _=>rfl) (rd':=fun j=>us[j]?) (fun _=>rfl) hB
   rw[Bv] at this ⊢
   intro j x T
   have G:=this j x T
   simp only[A0g] at G
   rw[show 1+j=j+1 by omega]
   simpa using G
theorem PE {v:AV} {c':LA} {ups:Eo} {org:Bool} {vc:Value} (S:SimH J β h w) (q:LooksS g h) (hh:AY g v=some (c',ups,org)) (k:Rep J β h w v vc) :
  ∃ J',Step J β h w J' β (Am ups h) w∧RepCs (J' org) w c' (fun j=>vc.cells.toList[j]?) 0∧c'.length=vc.cells.toList.length∧LooksS g (Am ups h):=by
 unfold AY at hh
 split at hh
 ·rename_i c org'
  simp at hh;obtain⟨rfl,rfl,rfl⟩:=hh
  rw[Rep] at k
  obtain⟨cs,rfl,z,n⟩:=k
  exact⟨J,Step.refl S,n,by simp[Value.cells,z],q⟩
 ·rename_i c
  rw[Rep] at k
  obtain⟨cs,rfl,n⟩:=k
  exact Se S q hh n
 ·rename_i v z n
  obtain⟨J',A,hA,e,s⟩:=Se (cs:=[vc]) S q hh (by rw[Reps];exact⟨vc,[],rfl,k,by rw[Reps]⟩)
  have F:vc.oneCell'=true:=by
   have t:c'.length=1:=e
   cases B:c' with
   | nil=>simp[B] at t
   | cons x r =>
    obtain⟨u,C,hr⟩:=hA.at (j:=0) (x:=x) (by simp[B])
    simp at C;subst C
    exact dv hr
  have D:vc.cells=#[vc]:=by cases vc<;>simp_all[Value.cells,Value.oneCell']
  rw[D]
  exact⟨J',A,hA,e,s⟩
end
end Gx
namespace Gx
open Go
theorem Ck:∀ (ups:Eo) (h:Az) (b:Nat),A4 ups b=false→An (Am ups h) b=An h b
 | [],_,_,_=>rfl
 | (i,some x)::r,h,b,hi=>by
  rw[A4] at hi
  cases j:beq i b with
  | true=>rw[j] at hi;simp at hi
  | false =>
   rw[j] at hi
   rw[Am,Ck r _ b hi,Aj,if_neg (fun e=>Y9 j e.symm)]
 | (i,none)::r,h,b,hi=>by
  rw[A4] at hi
  cases j:beq i b with
  | true=>rw[j] at hi;simp at hi
  | false =>
   rw[j] at hi
   rw[Am,Ck r _ b hi]
   split
   ·rw[Aj,if_neg (fun e=>Y9 j e.symm)]
   ·rfl
theorem BW {c vs:LA} {off:Nat} (n:off+vs.length≤c.length) (j:Nat):(D9 c off vs)[j]?=if off≤j∧j<off+vs.length then vs[j - off]? else c[j]?:=by
 unfold D9
 rw[A10,A1k]
 simp only[A0o,A0x (show off≤c.length by omega)]
 by_cases e:j<off
 ·rw[if_pos e,if_neg (by omega),A2b,if_pos e]
 ·rw[if_neg e,A1k]
  by_cases k:j - off<vs.length
  ·rw[if_pos k,if_pos (by omega)]
  ·rw[if_neg k,if_neg (by omega),A1t];congr 1;omega
theorem Pg {c vs:LA} {off:Nat} (e:off+vs.length≤c.length):(D9 c off vs).length=c.length:=by
 unfold D9;simp;omega
theorem LR {c vs:LA} {off:Nat} (k:off+vs.length≤c.length) (j:Nat):(setCells c off vs)[j]?=if off≤j∧j<off+vs.length then vs[j - off]? else c[j]?:=by
 unfold setCells
 split
 ·rename_i y
  simp at k
  rw[List.getElem?_set]
  by_cases e:off=j
  ·subst e;simp;omega
  ·rw[if_neg e,if_neg (by simp;omega)]
 ·exact BW k j
theorem P4 {c vs:LA} {off:Nat} (e:off+vs.length≤c.length):(setCells c off vs).length=c.length:=by
 unfold setCells
 split
 ·simp
 ·exact Pg e
section
variable {R:Type} {r:R} {P:Program} {J J':Bool→Nat→Prop} {β:Cd} {h:Az} {w w':World} {g:A7}
theorem N4 {v:AV} {vc:Value} (hs:HU g v=true) (e:Rep J β h w v vc):vc.oneCell'=true:=by
 cases v<;>simp[HU] at hs
 case own=>rw[Rep] at e;obtain⟨x,A,cap,_,rfl,_⟩:=e;rfl
 case optr=>rw[Rep] at e;obtain⟨x,k,o,_,rfl,_⟩:=e;rfl
 case fn=>rw[Rep] at e;obtain⟨cs,rfl,_⟩:=e;rfl
 case imm=>rw[Rep,RepC] at e;obtain⟨_,A,cap,rfl,_⟩:=e;rfl
 case iptr=>rw[Rep,RepC] at e;obtain⟨a,rfl,_⟩:=e;rfl
 all_goals (rw[Rep] at e;subst e;rfl)
theorem Zt:∀ {c:LA},N1 g c=true→∀ (j:Nat) (x:AV),c[j]?=some x→HU g x=true
 | [],_,j,x,e=>by simp at e
 | v::r,hs,j,x,e=>by
  rw[N1] at hs;simp at hs
  cases j with
  | zero=>simp at e;subst e;exact hs.1
  | succ j=>exact Zt hs.2 j x (by simpa using e)
theorem Aid {k:Nat} {cs n:Array Value} {ty:TypeId} {fr:Nat×Nat} (O:OnlyBlk w w' k cs n ty fr):∀ j,A3 w j≤A3 w' j:=fun j=>by
 by_cases e:j=k
 ·subst e;rw[Ea O.old,Ea O.new,O.sz];exact Az3 _
 ·simp[A3,O.other j e]
theorem RS {t:TypeId} {k o:Nat} {vc:Value} {cs:Array Value} {ty:TypeId} {fr:Nat×Nat} (q:w.heap[k]?=some (.cells cs ty fr)) (s:FrOk cs.size fr)
  (hs:Bi P t=some vc.cells.toList.length) (v:o+vc.cells.toList.length≤cs.size) (z:∀ u ∈ vc.cells.toList,u.oneCell'=true) :
  (Instr.storeAt t (.pointer (some ⟨k,o,none⟩)) vc).run P w=.ok () (w.setCells k o vc.cells.toList):=by
 have e:=run_storeCells_cells (P:=P) k o vc.cells.toList 0 w (fun j A=>by
   rw[A1i,Pf q];simp;omega)
  (fun j A=>by
   rw[A1i];simp only[World.frozen?,q]
   have:=s.at (o+j) (by omega)
   cases fr;simp at this ⊢;omega) z
 simp only[A1i] at e
 have n:=Cm hs w
 simp only[A3i] at n
 simp[Instr.storeAt,Instr.sureAddr,storeVar,n,e]
theorem zZ {t:TypeId} {p v:AV} {vp vv:Value} {k:AV→Eo→O R} (S:SimH J β h w) (hl:Looks g h) (hh:iw P g t p v k=some r) (hp:Rep J β h w p vp) (hv:Rep J β h w v vv) :
  ∃ val ups,k val ups=some r∧∃ J' β' w',(Instr.storeAt t vp vv).run P w=.ok () w'∧Step J β h w J' β' (Am ups h) w'∧val=.undef:=by
 unfold iw at hh
 split at hh
 ·rename_i b off
  obtain⟨x,hx,h1⟩:=ub hh
  obtain⟨n,hn,h2⟩:=ub h1
  obtain⟨hs,h3⟩:=Aib h2
  obtain⟨hb,hd⟩:=Dg hl hx
  have G:=At8 hb hp
  cases X:x.pure with
  | true =>
   rw[X] at h3
   obtain⟨⟨c',u1,org⟩,hq,h4⟩:=ub h3
   obtain⟨C,h5⟩:=uc h4
   simp at C
   obtain⟨I,L,Y⟩:=C
   obtain⟨J1,A,hA,D,_⟩:=PE S hl.s hq hv
   have hb1:An (Am u1 h) b=some x:=by rw[Ck _ _ _ Y];exact hb
   obtain⟨kk,o,cs,ty,fr,hβ,rfl,z,hf,hle,hcr,_,_⟩:=zV A.sim hb1 hd (Rep.ext A.ext hp)
   obtain⟨T,O,hO⟩:=OnlyBlk.setCells (k:=kk) vv.cells.toList (o+off) w cs z
   have U:off+c'.length≤x.cells.length:=by omega
   have hone:=RepCs.one hA D.symm
   have B:=Step.set (x':={ x with pure:=true,cells:=setCells x.cells off c',taint:=x.taint||org }) A.sim hb1 hd hs hβ O hd hs rfl (P4 U) (by
    refine⟨fun _=>?_,fun hh=>by simp at hh⟩
    have hold:=hcr.1 X
    rw[Bv]
    intro j y e
    simp only[LR U] at e
    simp only[A0g]
    have mono:∀ {a b:Bool} (k:Nat),J1 a k→J1 (a||b) k:=fun {a b} k z=>by
     cases a
     ·cases b
      ·exact z
      ·exact A.sim.jft k z
     ·exact z
    split at e
    ·rename_i hj'
     obtain⟨u,V,hr⟩:=hA.at e
     refine⟨u,?_,RepC.keep (J:=J1 org) (fun k z=>by rw[A5j];exact mono k z) (fun _ _=>rfl) hr⟩
     rw[hO,if_pos (by omega),←V];congr 1;omega
    ·rename_i hj'
     obtain⟨u,V,hr⟩:=hold.at e
     refine⟨u,?_,RepC.keep (J:=J1 x.taint) (fun k z=>mono k z) (fun _ _=>rfl) hr⟩
     rw[hO,if_neg (by omega)];exact V)
   refine⟨_,_,h5,J1,β,_,RS z hf.1 (by rw[←D,I];exact hn) (by omega) hone,?_,rfl⟩
   rw[Cj]
   exact A.trans (B G) (fun _ k _ _=>Aid O k)
  | false =>
   rw[X] at h3
   obtain⟨kk,o,cs,ty,fr,hβ,rfl,z,hf,hle,hcr,_,_⟩:=zV S hb hd hp
   have go:∀ (c:LA) (cells':LA),(∀ (j:Nat) (y:AV),c[j]?=some y→∃ u,vv.cells.toList[j]?=some u∧Rep J β h w y u∧u.oneCell'=true)→c.length=vv.cells.toList.length→c.length=n→off+c.length≤x.cells.length →
     cells'.length=x.cells.length→(∀ j:Nat,cells'[j]?=if off≤j∧j<off+c.length then c[j - off]? else x.cells[j]?) →
     ∃ J' β' w',(Instr.storeAt t (.pointer (some ⟨kk,o+off,none⟩)) vv).run P w=.ok () w'∧Step J β h w J' β' (Am [(b,some { x with pure:=false,cells:=cells' })] h) w':=by
    intro c cells' C D hcn hoff hcl hget'
    obtain⟨T,O,hO⟩:=OnlyBlk.setCells (k:=kk) vv.cells.toList (o+off) w cs z
    have B:=Step.set (x':={ x with pure:=false,cells:=cells' }) S hb hd hs hβ O hd hs rfl hcl (by
     refine⟨fun hh=>by simp at hh,fun _ j y e=>?_⟩
     simp only[hget'] at e
     split at e
     ·rename_i hj'
      obtain⟨u,V,hr,ho⟩:=C _ _ e
      refine⟨u,?_,hr,ho⟩
      show T[o+j]?=some u
      rw[hO,if_pos (by omega),←V];congr 1;omega
     ·rename_i hj'
      obtain⟨u,V,hr⟩:=hcr.2 X j y e
      refine⟨u,?_,hr⟩
      show T[o+j]?=some u
      rw[hO,if_neg (by omega)];exact V)
    refine⟨J,β,_,RS z hf.1 (by rw[hn,←hcn,D]) (by omega) (fun u V=>?_),B G⟩
    obtain⟨j,e,rfl⟩:=A1p V
    obtain⟨u',hu',_,ho⟩:=C j c[j] (Az6 (by omega))
    rw[Az6 e] at hu';simp only[A2z] at hu';rw[hu'];exact ho
   simp only[cond_false] at h3
   split at h3
   ·rename_i c
    obtain⟨C,h5⟩:=uc h3
    simp at C
    obtain⟨I,L,Y⟩:=C
    rw[Rep] at hv
    obtain⟨us,rfl,q⟩:=hv
    rw[Ce] at q
    obtain⟨J',β',w',g1,g2⟩:=go c (D9 x.cells off c) (fun j y e=>by
      have hlt:j<us.length:=by rw[q.1];exact(A0p.1 e).1
      refine⟨us[j],by simp[Value.cells,Az6 hlt],q.2 j y _ e (Az6 hlt),N4 (Zt I j y e) (q.2 j y _ e (Az6 hlt))⟩)
     (by simp[Value.cells,q.1]) L (by omega) (Pg (by omega)) (BW (by omega))
    exact⟨_,_,h5,J',β',w',g1,g2,rfl⟩
   ·rename_i c org
    obtain⟨C,h5⟩:=uc h3
    simp at C
    obtain⟨rfl,L,Y⟩:=C
    rw[Rep] at hv
    obtain⟨us,rfl,q,hrc⟩:=hv
    obtain⟨T,O,hO⟩:=OnlyBlk.setCells (k:=kk) us (o+0) w cs z
    have B:=Step.set (x':={ x with pure:=true,taint:=org,cells:=c }) S hb hd hs hβ O hd hs rfl (by simp;omega) (by
     refine⟨fun _=>?_,fun hh=>by simp at hh⟩
     rw[Bv]
     intro j y e
     obtain⟨u,V,hr⟩:=hrc.at e
     have hlt:j<us.length:=by rw[q];exact(A0p.1 e).1
     refine⟨u,?_,hr⟩
     show T[o+(0+j)]?=some u
     rw[hO,if_pos (by omega),←V];congr 1;omega)
    exact⟨_,_,h5,J,β,_,RS (vc:=.agg ⟨us⟩) z hf.1 (by simp[Value.cells];rw[q,L];exact hn) (by simp[Value.cells];omega) (by simpa[Value.cells] using RepCs.one hrc q),B G,rfl⟩
   ·rename_i hna
    obtain⟨C,h5⟩:=uc h3
    simp at C
    obtain⟨I,L,Y⟩:=C
    have ho:=N4 I hv
    have F:vv.cells=#[vv]:=by cases vv<;>simp_all[Value.cells,Value.oneCell']
    obtain⟨J',β',w',g1,g2⟩:=go [v] (x.cells.set off v) (fun j y e=>by
      cases j with
      | zero=>simp at e;subst e;exact⟨vv,by simp[F],hv,ho⟩
      | succ j=>simp at e) (by simp[F]) (by simp;omega) (by simp;omega) (by simp) (fun j=>by
      have:=LR (c:=x.cells) (vs:=[v]) (off:=off) (by simp;omega) j
      simpa[setCells] using this)
    exact⟨_,_,h5,J',β',w',g1,g2,rfl⟩
 ·simp at hh
end
end Gx
namespace Gx
open Go
section
variable {R:Type} {r:R} {P:Program} {J J':Bool→Nat→Prop} {β:Cd} {h:Az} {w w':World} {g:A7}
theorem xc {v v':AV} {ups:Eo} {org:Bool} (hh:YM g v=some (v',ups,org)) (b:Nat) (q:A4 ups b=true):∃ x,g b=some x:=by
 unfold YM at hh
 split at hh
 ·rename_i s off n
  obtain⟨x,j,u⟩:=ub hh
  obtain⟨z,t⟩:=uc u
  simp at t
  obtain⟨rfl,rfl,rfl⟩:=t
  unfold Fy at j
  obtain⟨x0,k,j⟩:=ub j
  have:s=b:=by
   cases e:beq s b with
   | true=>exact A0j e
   | false=>simp[A4,e] at q
  subst this;exact⟨x0,k⟩
 all_goals first
  | (simp at hh;done)
  | (simp at hh;obtain⟨rfl,rfl,rfl⟩:=hh;simp[A4] at q)
theorem Hw:∀ (a b:Eo) (c:Nat),A4 (a++b) c=(A4 a c||A4 b c)
 | [],_,_=>by simp[A4]
 | (i,_)::r,b,c=>by
  rw[A0u,A4,A4,Hw r b c]
  cases beq i c<;>simp
theorem BX:∀ {c c':LA} {ups:Eo} {org:Bool},BQ g c=some (c',ups,org)→∀ b,A4 ups b=true→∃ x,g b=some x
 | [],c',ups,org,hh,b,e=>by simp[BQ] at hh;obtain⟨rfl,rfl,rfl⟩:=hh;simp[A4] at e
 | v::r,c',ups,org,hh,b,e=>by
  rw[BQ] at hh
  obtain⟨⟨v1,u1,o1⟩,n,q⟩:=ub hh
  obtain⟨⟨s,u2,o2⟩,hq,j⟩:=ub q
  simp at j
  obtain⟨rfl,rfl,rfl⟩:=j
  rw[Hw] at e
  cases k:A4 u1 b with
  | true=>exact xc n b k
  | false=>rw[k] at e;exact BX hq b (by simpa using e)
theorem vT {v:AV} {c':LA} {ups:Eo} {org:Bool} (hh:AY g v=some (c',ups,org)) (b:Nat) (e:A4 ups b=true):∃ x,g b=some x:=by
 unfold AY at hh
 split at hh
 ·simp at hh;obtain⟨rfl,rfl,rfl⟩:=hh;simp[A4] at e
 ·exact BX hh b e
 ·exact BX hh b e
theorem Al2 {ups:Eo} {d:Nat} (e:Looks g h) (j:∀ b,A4 ups b=true→∃ x,g b=some x) (hn:An h (nid d)=none):An (Am ups h) (nid d)=none:=by
 rw[Ck]
 ·exact hn
 ·cases k:A4 ups (nid d) with
  | false=>rfl
  | true =>
   obtain⟨x,n⟩:=j _ k
   rw[e _ _ n] at hn;cases hn
def OpDone (J:Bool→Nat→Prop) (β:Cd) (h:Az) (w:World) (ups:Eo) (val:AV) (vc:Value) (w':World):Prop :=
 ∃ J' β',Step J β h w J' β' (Am ups h) w'∧Rep J' β' (Am ups h) w' val vc
def UpsFree (d:Nat) (h:Az) (ups:Eo):Prop:=∀ b,A4 ups b=true→HY d b=true→An h b=none
theorem UpsFree.nid {d:Nat} {h:Az} {ups:Eo} (e:UpsFree d h ups) (hi:A4 ups (nid d)=true):An h (nid d)=none:=e _ hi (by
 have j:ble (Gx.nid d) (Gx.nid d)=true:=by simp
 have k:Nat.blt (Gx.nid d) (Gx.nid d+16)=true:=by simp
 rw[HY,j,k];rfl)
theorem WB {d:Nat} {x:Blk} {cs:Array Value} {ty:TypeId} (S:SimH J β h w) (hn:An h (nid d)=none) (n:x.dead=false) (hs:x.sealed=false) (e:x.cells.length≤cs.size) (q:CellsRep J β h w x (fun j=>cs[j]?)) (k:x.mp=false:=by rfl) (hty:TyOk x.ty ty 0 cs.size:=by exact TyOk.none) :
  OpDone J β h w [(nid d,some x)] (.optr (nid d) 0) (.pointer (some ⟨w.heap.size,0,none⟩)) (w.alloc (.cells cs ty)):=by
 have A:=Step.new (ty:=ty) (fr:=(0,0)) S hn n hs ⟨.inl rfl,hty⟩ e q k
 refine⟨_,_,A,?_⟩
 rw[Rep]
 exact⟨x,w.heap.size,0,⟨by simp[Am,Aj],k⟩,rfl,.inr (by simp)⟩
theorem OpDone.after {ups ups':Eo} {val:AV} {vc:Value} {J1:Bool→Nat→Prop} {β1:Cd} {e:World} (A:Step J β h w J1 β1 (Am ups h) e) (B:OpDone J1 β1 (Am ups h) e ups' val vc w')
  (hs:∀ k,A3 w k≤A3 w' k):OpDone J β h w (ups++ups') val vc w':=by
 obtain⟨J2,β2,B1,B2⟩:=B
 exact⟨J2,β2,by rw[Cj];exact A.trans B1 (fun _ k _ _=>hs k),by rw[Cj];exact B2⟩
theorem Qw (w:World) (o:Obj):∀ k,A3 w k≤A3 (w.alloc o) k:=fun k=>by
 by_cases e:k<w.heap.size
 ·simp[A3,C4 w _ e]
 ·simp[A3,A11 (A2n e)]
theorem LT {t:TypeId} {vc:Value}:(Instr.box t vc).run P w=.ok (.pointer (some ⟨w.heap.size,0,none⟩)) (w.alloc (.cells vc.cells t)):=by
 simp[Instr.box,newVar,newRow]
theorem lP {c:LA} {org:Bool} {cs:List Value} (B:RepCs (J org) w c (fun j=>cs[j]?) 0):∀ {L:List (Nat×TypeId)} {e:LA} {k:LA→O R},d9 P c org L e k=some r →
  (∀ (j:Nat) x,e[j]?=some x→∃ u,cs[j]?=some u∧Rep J β h w x u)→∃ l:LA,k l=some r∧∀ (j:Nat) x,l[j]?=some x→∃ u,cs[j]?=some u∧Rep J β h w x u
 | [],e,k,hh,q=>⟨e,hh,q⟩
 | (off,t)::L,e,k,hh,q=>by
  rw[d9] at hh
  obtain⟨s,F⟩:=uc hh
  simp at s
  obtain⟨v,G,I⟩:=Xo (β:=β) (h:=h) F (B.drop off)
  refine lP B G (fun j x n=>?_)
  rw[A1k] at n
  split at n
  ·exact q j x n
  ·have z:j=e.length:=by
    have:=(A0p.1 n).1
    simp at this;omega
   subst z
   simp at n;subst n
   rcases I with⟨d,C,S,u,D,T⟩ | ⟨d,C,S,_⟩
   ·refine⟨u,?_,T⟩
    rw[s.1] at D;simpa using D
   ·exfalso
    have A:=s.2
    unfold Aq5 at A
    rw[C] at A
    split at A<;>simp_all[TypeDesc.isRow]
theorem z6 {co:Bool} {t:TypeId} {v:AV} {vv:Value} {k:AV→O R} (hh:iy P co t v k=some r) (n:Rep J β h w v vv):∃ v',k v'=some r∧Rep J β h w v' vv:=by
 unfold iy at hh
 split at hh
 ·rename_i c org
  rw[Rep] at n
  obtain⟨cs,rfl,G,q⟩:=n
  obtain⟨l,s,z⟩:=lP (β:=β) (h:=h) q hh (fun j x A=>by simp at A)
  obtain⟨B,C⟩:=uc s
  simp at B
  refine⟨_,C,?_⟩
  rw[Rep]
  refine⟨cs,rfl,Ce.2 ⟨by omega,fun j x u D F=>?_⟩⟩
  obtain⟨I,e,hr⟩:=z j x D
  rw[F] at e;simp at e;subst e;exact hr
 ·exact⟨_,hh,n⟩
theorem Ant {t q m:Nat} (h:zK P t=some (q,m)):t=q∧Bi P t=some m:=by
 have key:∀ {o:Option Nat},o=Bi P t→(o.map fun n=>(t,n))=some (q,m)→t=q∧Bi P t=some m:=by
  intro o e h
  cases o with
  | none=>simp at h
  | some n=>simp at h;exact⟨h.1,by rw[←e,h.2]⟩
 unfold zK at h
 split at h
 ·obtain⟨f,_,h⟩:=ub h
  split at h
  ·obtain⟨_,h⟩:=uc h;exact key rfl h
  ·obtain⟨g,_,h⟩:=ub h
   split at h
   ·obtain⟨_,h⟩:=uc h;exact key rfl h
   ·cases h
  ·cases h
 ·cases h
theorem qU {d:Nat} {t:TypeId} {v:AV} {vv:Value} {k:AV→Eo→O R} (S:SimH J β h w) (L:Looks g h) (hh:Adc P g d t v k=some r) (C:Rep J β h w v vv) :
  ∃ val ups,k val ups=some r∧(UpsFree d h ups→∃ vc w',(Instr.box t vv).run P w=.ok vc w'∧OpDone J β h w ups val vc w'):=by
 unfold Adc at hh
 split at hh
 ·rename_i c org
  refine⟨_,_,hh,fun hn=>⟨_,_,LT,?_⟩⟩
  replace hn:=hn.nid (by simp[Sa,A4])
  rw[Rep] at C
  obtain⟨cs,rfl,I,u⟩:=C
  exact WB S hn rfl rfl (by simp[Value.cells,I]) ⟨fun _=>by simpa[Value.cells] using u,fun z=>by simp at z⟩
 ·rename_i c
  cases z:Alt P t with
  | true =>
   rw[z] at hh
   obtain⟨n,hh⟩:=uc hh
   simp only[A0a] at n
   obtain⟨n,B⟩:=n
   have B:=A0j B
   refine⟨_,_,hh,fun hn=>⟨_,_,LT,?_⟩⟩
   replace hn:=hn.nid (by simp[A4])
   rw[Rep] at C
   obtain⟨cs,rfl,u⟩:=C
   rw[Ce] at u
   have hty:TyOk (zK P t) t 0 (Value.agg ⟨cs⟩).cells.size:=fun q m hq=>by
    obtain⟨e1,T⟩:=Ant hq
    refine⟨e1,rfl,.inr ?_⟩
    rw[T] at B
    simp[Value.cells,u.1];simpa using B
   refine WB S hn rfl rfl (by simp[Value.cells,u.1]) ⟨fun z=>by simp at z,fun _ j y D=>?_⟩ rfl hty
   have F:j<cs.length:=by rw[u.1];exact(A0p.1 D).1
   exact⟨cs[j],by simp[Value.cells,F],u.2 j y _ D (Az6 F),N4 (Zt n j y D) (u.2 j y _ D (Az6 F))⟩
  | false =>
   rw[z] at hh
   obtain⟨⟨c',u1,o1⟩,hq,I⟩:=ub hh
   refine⟨_,_,I,fun hn=>⟨_,_,LT,?_⟩⟩
   replace hn:=hn.nid (by simp[Hw,Sa,A4])
   rw[Rep] at C
   obtain⟨cs,rfl,u⟩:=C
   obtain⟨J1,A,hA,G,_⟩:=Se S L.s hq u
   refine OpDone.after A (WB A.sim (Al2 L (BX hq) hn) rfl rfl (by simp[Value.cells,G]) ⟨fun _=>?_,fun z=>by simp at z⟩) (Qw _ _)
   simpa[Value.cells] using hA
 ·rename_i v I u
  obtain⟨n,hh⟩:=uc hh
  refine⟨_,_,hh,fun hn=>⟨_,_,LT,?_⟩⟩
  replace hn:=hn.nid (by simp[Sa,A4])
  have U:=N4 n C
  have e:vv.cells=#[vv]:=by cases vv<;>simp_all[Value.cells,Value.oneCell']
  refine WB S hn rfl rfl (by simp[e]) ⟨fun z=>by simp at z,fun _ j y D=>?_⟩
  cases j with
  | zero=>simp at D;subst D;exact⟨vv,by simp[e],C,U⟩
  | succ j=>simp at D
end
end Gx
namespace Gx
open Go
theorem z7 (z:LA):∀ (l j:Nat),j<l*z.length→(Ey l z)[j]?=z[j%z.length]?:=by
 have flat:∀ (l j:Nat),j<l*z.length→((replicate l z).flatten)[j]?=z[j%z.length]?:=by
  intro l
  induction l with
  | zero=>intro j e;simp at e
  | succ l n =>
   intro j e
   rw[A3j,List.flatten_cons,A1k]
   by_cases k:j<z.length
   ·rw[if_pos k,A07 k]
   ·rw[if_neg k,n _ (by rw[A5i] at e;omega)]
    rw[Nat.mod_eq_sub_mod (a:=j) (by omega)]
 intro l j e
 unfold Ey
 split
 ·rename_i v
  simp at e
  simp[e,Nat.mod_one]
 ·exact flat l j e
theorem Fz (l:Nat) (z:LA):(Ey l z).length=l*z.length:=by
 unfold Ey
 split
 ·simp
 ·simp
section
variable {R:Type} {r:R} {P:Program} {J J':Bool→Nat→Prop} {β:Cd} {h:Az} {w w':World} {g:A7}
theorem bF {J:Nat→Prop}:∀ {cs:List Value},A6 (L9 cs)=true→∀ (j:Nat) (u:Value),cs[j]?=some u→∃ x,(L9 cs)[j]?=some x∧RepC J w x u
 | [],_,j,u,e=>by simp at e
 | v::r,k,j,u,e=>by
  have key:∃ x,ii v=x∧A6 (L9 r)=true∧RepC J w x v:=by
   rw[L9] at k
   have hr:=LO (J:=fun _=>J) (β:=fun _=>none) (h:=[]) (w:=w) v
   cases n:ii v<;>rw[n] at k hr<;>simp[A6] at k<;>refine⟨_,rfl,k,?_⟩<;>(rw[Rep] at hr;rw[RepC];exact hr)
  obtain⟨x,n,q,hr⟩:=key
  cases j with
  | zero=>simp at e;subst e;exact⟨x,by simp[L9,n],hr⟩
  | succ j =>
   obtain⟨y,s,t⟩:=bF (J:=J) (cs:=r) q j u (by simpa using e)
   exact⟨y,by simpa[L9] using s,t⟩
theorem EJ:∀ cs:List Value,(L9 cs).length=cs.length
 | []=>rfl
 | v::r=>by simp[L9,EJ r]
theorem U6 {t:TypeId} {z:LA} (j:d6 P t=some z):∃ i v,P.info? t=some i∧i.zero=some v∧z=L9 v.cells.toList∧A6 z=true∧v.cells.size=i.size∧z.length=i.size:=by
 unfold d6 at j
 obtain⟨i,hi,n⟩:=ub j
 obtain⟨v,q,s⟩:=ub n
 obtain⟨e,k⟩:=uc s
 simp at k e
 subst k
 exact⟨i,v,hi,q,rfl,e.1,by simpa using e.2,by rw[EJ];simpa using e.2⟩
theorem LU {J:Nat→Prop} {v:Value} (A:A6 (L9 v.cells.toList)=true) (l n:Nat) (C:l*v.cells.size≤n) :
  RepCs J w (Ey l (L9 v.cells.toList)) (fun j=>(madeCells v.cells n)[j]?) 0:=by
 rw[Bv]
 intro j x s
 have k:(L9 v.cells.toList).length=v.cells.size:=by rw[EJ];simp
 have e:j<l*(L9 v.cells.toList).length:=by
  have:=(A0p.1 s).1
  rwa [Fz] at this
 rw[z7 _ _ _ e] at s
 rw[k] at s e
 have q:0<v.cells.size:=by
  rcases A0q v.cells.size with t | t
  ·rw[t] at e;simp at e
  ·exact t
 have z:j%v.cells.size<v.cells.size:=A1j _ q
 obtain⟨y,u,B⟩:=bF (w:=w) (J:=J) A (j%v.cells.size) v.cells[j%v.cells.size] (by simp[z])
 rw[s] at u;simp at u;subst u
 refine⟨_,?_,B⟩
 have:j<n:=by omega
 simp[madeCells,this,getElem!_pos,z]
theorem dw {d n cap sz:Nat} {x:Blk} {cs:Array Value} {ty:TypeId} {fr:Nat×Nat} (S:SimH J β h w) (hn:An h (nid d)=none) (z:x.dead=false) (hs:x.sealed=false) (u:x.sz=sz)
  (t:FrTy x.ty ty 0 cs.size fr) (e:x.cells.length=n*sz) (v:cap*sz≤cs.size) (k:n≤cap) (B:CellsRep J β h w x (fun j=>cs[j]?)) (q:x.mp=false:=by rfl) :
  OpDone J β h w [(nid d,some x)] (.own (nid d) 0 n) (.slice (some ⟨w.heap.size,0,none⟩) n cap) (w.alloc (.cells cs ty fr)):=by
 have C:n*sz≤cap*sz:=Az9 _ k
 have A:=Step.new (ty:=ty) (fr:=fr) S hn z hs t (by omega) B q
 refine⟨_,_,A,?_⟩
 rw[Rep]
 refine⟨x,_,cap,⟨by simp[Am,Aj],q⟩,rfl,k,.inr ⟨w.heap.size,0,rfl,.inr ⟨by simp,?_,by rw[u,e];omega⟩⟩⟩
 have s:(w.alloc (.cells cs ty fr)).heap[w.heap.size]?=some (.cells cs ty fr):=by show(w.heap.push _)[_]?=_;simp
 rw[Ea s,u];omega
theorem Adj {d:Nat} {t:TypeId} {l c:AV} {vl vc:Value} {k:AV→Eo→O R} (S:SimH J β h w) (hh:xT P d t l c k=some r) (s:Rep J β h w l vl) (A:Rep J β h w c vc) :
  ∃ val ups,k val ups=some r∧(UpsFree d h ups→∃ u w',(Instr.makeSlice t vl vc).run P w=.ok u w'∧OpDone J β h w ups val u w'):=by
 unfold xT at hh
 split at hh
 ·rename_i C l c D
  obtain⟨sz,hs,F⟩:=ub hh
  obtain⟨by_,B,G⟩:=ub F
  obtain⟨z,I,L⟩:=ub G
  obtain⟨hq,T⟩:=uc L
  simp at hq
  obtain⟨U,V,q3,q4⟩:=hq
  rw[Rep] at s A;subst s A
  obtain⟨i,v,hi,X,rfl,j,e1,Y⟩:=U6 I
  have e:i.size=sz:=by simp[Bi,hi] at hs;exact hs
  have n:i.bytes=by_:=by simp[zH,hi] at B;exact B
  have q:A4 (Sa d true false sz (Ey l.toNat (L9 v.cells.toList))) (nid d)=true:=by simp[Sa,A4]
  refine⟨_,_,T,fun hn=>⟨_,_,run_make w t C i v D hi X _ _ l c U V (by rw[n,Int.mul_comm];omega) (by omega),?_⟩⟩
  refine dw (sz:=sz) S (hn.nid q) rfl rfl rfl FrTy.un0 ?_ (by rw[size_madeCells,e];exact Az3 _) (by omega) ⟨fun _=>?_,fun j=>by simp at j⟩
  ·show(Ey l.toNat (L9 v.cells.toList)).length=_
   rw[Fz,Y,e]
  ·exact LU j _ _ (by rw[e1];exact Az9 _ (by omega))
 ·simp at hh
theorem Yield.src {sz n:Nat} {tx:TypeId} {vx:Value} {us:List Value} (Y:Yield P w sz vx n us) (j:zO P tx=true) (q:∀ u ∈ us,u.oneCell'=true):Src P sz tx vx n us w:=by
 refine⟨?_,Y.len,?_,?_,Y.length,q⟩
 ·unfold zO at j
  split at j
  ·rename_i e k;exact .inl ⟨e,k⟩
  ·rename_i k;exact .inr k
  ·simp at j
 ·have:=Y.cells w n (fun _=>rfl) (Az3 _)
  rwa [←Y.length,A06] at this
 ·have:=Y.cells w.drew n (fun _=>rfl) (Az3 _)
  rwa [←Y.length,A06] at this
theorem z8 {J:Nat→Prop} {a b:LA} {us vs:List Value} (q:RepCs J w a (fun j=>us[j]?) 0) (s:RepCs J w b (fun j=>vs[j]?) 0) (t:a.length=us.length) (tail:List Value) :
  RepCs J w (a++b) (fun j=>(us++vs++tail)[j]?) 0:=by
 rw[Bv]
 intro j x e
 rw[A1k] at e
 simp only[A0g]
 by_cases n:j<a.length
 ·rw[if_pos n] at e
  obtain⟨u,k,hr⟩:=q.at e
  refine⟨u,?_,hr⟩
  rw[A10,A1k,if_pos (by omega)];exact k
 ·rw[if_neg n] at e
  obtain⟨u,k,hr⟩:=s.at e
  refine⟨u,?_,hr⟩
  have v:j - a.length<vs.length:=(A0p.1 k).1
  rw[A10,A1k,if_neg (by omega),A1k,if_pos (by omega),←t];exact k
theorem LV (w:World) (k:Nat):A3 w.drew k=A3 w k:=rfl
theorem qV {d sz n1 n2 cap0:Nat} {t tx ty e:TypeId} {i:TypeInfo} {z vx:Value} {A:Option Addr} {olds news:List Value} {c1 s:LA} {o:Bool} (S:SimH J β h w) (hn:An h (nid d)=none)
  (U:P.underlying t=some (.slice e)) (hi:P.info? e=some i) (V:i.zero=some z) (F:i.size=sz) (G:z.cells.size=sz)
  (v:∀ w':World,(∀ a,w'.cell? a=w.cell? a)→(Builtin.firstCells sz n1 (.slice A n1 cap0)).run P w'=.ok olds.toArray w') (B:olds.length=n1*sz)
  (Y:Yield P w sz vx n2 news) (ht:zO P tx=true) (ho:∀ u ∈ news,u.oneCell'=true)
  (h1:RepCs (J o) w c1 (fun j=>olds[j]?) 0) (C:c1.length=olds.length) (h2:RepCs (J o) w s (fun j=>news[j]?) 0) (I:s.length=news.length)
  (T:cap0<n1+n2) (hb1:n1+n2≤140737488355328) (L:(n1+n2)*i.bytes≤140737488355328) {X:Option (Nat×Nat)} (hX:∀ q,X=some q→q=(e,0)) :
  ∃ u w',(Builtin.append_ #[t,tx] ty #[.slice A n1 cap0,vx]).run P w=.ok u w' ∧
   OpDone J β h w [(nid d,some { dead:=false,sealed:=false,pure:=true,taint:=o,sz:=sz,cells:=c1++s,ty:=X })] (.own (nid d) 0 (n1+n2)) u w'∧(∀ k,A3 w k≤A3 w' k):=by
 subst F
 have run:=run_append_grow_src (P:=P) w t tx ty e i z U hi V A n1 cap0 olds (v w.drew (fun _=>rfl)) vx n2 news (Y.src ht ho) T (by omega) (growslice_fits T L)
 have D:n1+n2≤grownCap w (n1+n2) cap0 e:=by
  unfold grownCap;simp[Question.cut]
 refine⟨_,_,run,?_,?_⟩
 ·obtain⟨J',β',B1,B2⟩:=dw (d:=d) (n:=n1+n2) (cap:=grownCap w (n1+n2) cap0 e) (sz:=i.size) (ty:=e) (fr:=(0,0)) (x:={ dead:=false,sealed:=false,pure:=true,taint:=o,sz:=i.size,cells:=c1++s,ty:=X })
   (cs:=(olds++news).toArray++Builtin.zeroCells z.cells (grownCap w (n1+n2) cap0 e - (n1+n2))) (Step.drew S).sim hn rfl rfl rfl ⟨.inl rfl,fun t m hm=>by have:=hX _ hm;simp at this;exact⟨this.1.symm,rfl,.inl this.2⟩⟩
   (by simp[C,I,B,Y.length,A0m]) (by
    simp[Builtin.zeroCells,B,Y.length,G]
    rw[←A0m,←A0m];exact Az9 _ (by omega)) D
   ⟨fun _=>by
    have:=z8 h1 h2 C (Builtin.zeroCells z.cells (grownCap w (n1+n2) cap0 e - (n1+n2))).toList
    show RepCs (J o) w.drew (c1++s) _ 0
    refine RepCs.keep (J:=J o) (w:=w) (w':=w.drew) (fun _ hj=>hj) (fun _ _=>rfl) (fun j=>?_) this
    rw[←A5s]
    simp,fun hp=>by simp at hp⟩
  exact⟨J',β',(Step.drew S).trans B1 (fun _ k _ _=>by rw[←LV];exact Qw _ _ k),B2⟩
 ·intro k;rw[←LV];exact Qw _ _ k
theorem WC {J:Bool→Nat→Prop} (j:∀ k,J false k→J true k) (a b:Bool) (k:Nat) (e:J a k):J (a||b) k:=by
 cases a
 ·cases b
  ·exact e
  ·exact j k e
 ·exact e
theorem qW {J:Bool→Nat→Prop} (e:∀ k,J false k→J true k) (a b:Bool) (k:Nat) (j:J b k):J (a||b) k:=by rw[A5j];exact WC e b a k j
theorem Adk {d sz:Nat} {x:Blk} {A:Option Addr} (S:SimH J β h w) (hn:An h (nid d)=none) (j:x.cells=[]) (e:x.mp=false:=by rfl) :
  OpDone J β h w [(nid d,some x)] (.own (nid d) 0 0) (.slice A 0 0) w:=by
 refine⟨_,_,Step.newNone S hn j e,?_⟩
 rw[Rep]
 exact⟨x,A,0,⟨by simp[Am,Aj],e⟩,rfl,Az3 _,.inl rfl⟩
theorem Adl {g:A7} {e tx:TypeId} {s:AV} {q:Nat×Nat} (h:lI P g e tx s=some q):q=(e,0):=by
 unfold lI at h
 split at h
 ·split at h
  ·simp at h;exact h.symm
  ·cases h
 ·obtain⟨x,_,h⟩:=ub h
  obtain⟨y,_,h⟩:=ub h
  obtain⟨_,h⟩:=uc h
  simp at h;exact h.symm
 ·cases h
theorem Ard {g:A7} {s tx b off n o m:Nat} {ty:TypeId} {y:Blk} (u:Fy g b=some y) (v:TyOk y.ty ty o m):TyOk (lI P g s tx (.own b off n)) ty (o+off) m:=by
 intro t k h
 have e:=Adl h
 simp at e;obtain⟨rfl,rfl⟩:=e
 unfold lI at h
 simp only[u,A1q] at h
 obtain⟨q,hq,h⟩:=ub h
 obtain⟨j,_⟩:=uc h
 simp only[A0a] at j
 have c1:=A0j j.1
 have A:=A0j j.2.1
 have B:=A0j j.2.2
 obtain⟨z,C,_⟩:=v q.1 q.2 hq
 exact⟨by rw[z,c1],by omega,.inl rfl⟩
theorem vU {d:Nat} {t tx ty:TypeId} {s x:AV} {vs vx:Value} {k:AV→Eo→O R} (S:SimH J β h w) (hl:Looks g h) (hh:VX P g d t tx s x k=some r) (hs:Rep J β h w s vs) (hx:Rep J β h w x vx) :
  ∃ val ups,k val ups=some r∧(UpsFree d h ups→∃ u w',(Builtin.append_ #[t,tx] ty #[vs,vx]).run P w=.ok u w'∧OpDone J β h w ups val u w'):=by
 unfold VX at hh
 split at hh
 ·rename_i el hu
  obtain⟨ht,X⟩:=uc hh
  obtain⟨sz,hsz,h1⟩:=ub X
  obtain⟨by_,hby,h2⟩:=ub h1
  obtain⟨zz,hz,h3⟩:=ub h2
  obtain⟨old,D,h4⟩:=ub h3
  obtain⟨new,us,h5,Y,G,hur⟩:=LP (P:=P) S hl h4 hx
  obtain⟨hq,h6⟩:=uc h5
  simp at hq
  obtain⟨q1,q2⟩:=hq
  obtain⟨i,z,hi,hiz,rfl,hp,e1,e2⟩:=U6 hz
  have C:i.size=sz:=by simp[Bi,hi] at hsz;exact hsz
  have hb':i.bytes=by_:=by simp[zH,hi] at hby;exact hby
  have F:=RepCs.one hur G.symm
  have U:RepCs (J (old.2.2.1||new.2.2)) w new.1 (fun j=>us[j]?) 0:=RepCs.keep (J:=J new.2.2) (w:=w) (qW S.jft _ _) (fun _ _=>rfl) (fun _=>rfl) hur
  refine⟨_,_,h6,fun hn=>?_⟩
  replace hn:=hn.nid (by simp[Hw,A4])
  have hX:∀ q,lI P g el tx s=some q→q=(el,0):=fun q=>Adl
  have empty:∀ (A:Option Addr),vs=.slice A 0 0→old.1=[]→old.2.1=0→old.2.2.2=[] →
    ∃ u w',(Builtin.append_ #[t,tx] ty #[vs,vx]).run P w=.ok u w'∧OpDone J β h w (old.2.2.2++[(nid d,some { dead:=false,sealed:=false,pure:=true,taint:=old.2.2.1||new.2.2,sz,cells:=old.1++new.1,ty:=lI P g el tx s })]) (.own (nid d) 0 (old.2.1+new.2.1)) u w':=by
   intro A hA o1 o2 o3
   subst hA
   rw[o1,o2,o3]
   rcases A0q new.2.1 with X | X
   ·have hus:us=[]:=by have:=Y.length;rw[X] at this;simpa using this
    subst hus
    have I:=Y.src ht F
    rw[X] at I
    refine⟨_,_,run_append_nothing (P:=P) w t tx ty el i hu hi A 0 0 (Az3 _) vx (by rw[C];exact I),?_⟩
    rw[X]
    have hnc:new.1=[]:=by simpa using G
    exact Adk (sz:=sz) S hn (by simp[hnc])
   ·obtain⟨u,w',g1,g2,_⟩:=qV (ty:=ty) (c1:=[]) (olds:=[]) (n1:=0) (cap0:=0) (A:=A) S hn hu hi hiz C (by rw[e1,C]) (fun w' _=>by
      cases A with
      | none=>exact run_firstCells_none (P:=P) w' sz 0 0 0
      | some a=>exact run_firstCells_some (P:=P) w' sz 0 a 0 0 [] (by simp) (fun j v V=>by simp at V)) (by simp) Y ht F (by simp[RepCs]) rfl U G (by omega) (by rw[o2] at q1;omega) (by rw[o2,←hb'] at q2;exact q2) hX
    exact⟨u,w',g1,g2⟩
  unfold Alw at D
  split at D
  ·simp at D;subst D
   rw[Rep] at hs
   exact empty none hs rfl rfl rfl
  ·rename_i c n sz' org
   obtain⟨hz0,h7⟩:=uc D
   simp at hz0 h7;subst hz0;subst h7
   rw[Rep,RepC] at hs
   obtain⟨_,A,cap,V,_,hcap,_⟩:=hs
   have:=hcap rfl;subst this
   exact empty A V rfl rfl rfl
  ·rename_i b off n
   obtain⟨y,hy,h7⟩:=ub D
   obtain⟨hc,h8⟩:=uc h7
   simp at hc h8
   obtain⟨c1,c2,c3⟩:=hc
   subst h8;subst c3
   obtain⟨hb,hd⟩:=Dg hl hy
   simp only at *
   rw[Rep] at hs
   obtain⟨y',A,cap,⟨hy1,hmp⟩,rfl,hcap,hr⟩:=hs
   rw[hb] at hy1;simp at hy1;subst hy1
   have kill:=Step.kill (y:={ y with dead:=true,pure:=true,cells:=[] }) S hb rfl
   have hkn:An (Ff h b { y with dead:=true,pure:=true,cells:=[] }) (nid d)=none:=by
    rw[Aj,if_neg (fun e=>by rw[←e,hn] at hb;cases hb)];exact hn
   have L:Am [(b,none)] h=Ff h b { y with dead:=true,pure:=true,cells:=[] }:=by simp[Am,hb]
   by_cases hc0:cap=0
   ·have hn0:n=0:=by omega
    subst hc0;subst hn0
    have S':=kill.sim
    rcases A0q new.2.1 with X | X
    ·have hus:us=[]:=by have:=Y.length;rw[X] at this;simpa using this
     subst hus
     have I:=Y.src ht F
     rw[X] at I
     refine⟨_,_,run_append_nothing (P:=P) w t tx ty el i hu hi A 0 0 (Az3 _) vx (by rw[C];exact I),?_⟩
     rw[X]
     have hnc:new.1=[]:=by simpa using G
     refine OpDone.after (ups:=[(b,none)]) (by rw[L];exact kill) ?_ (fun _=>Az3 _)
     rw[L]
     exact Adk (sz:=y.sz) S' hkn (by simp[hnc])
    ·obtain⟨u,w',g1,g2,g3⟩:=qV (ty:=ty) (c1:=[]) (olds:=[]) (n1:=0) (cap0:=0) (A:=A) S' hkn hu hi hiz C (by rw[e1,C]) (fun w' _=>by
       cases A with
       | none=>exact run_firstCells_none (P:=P) w' y.sz 0 0 0
       | some a=>exact run_firstCells_some (P:=P) w' y.sz 0 a 0 0 [] (by simp) (fun j v V=>by simp at V)) (by simp) Y ht F (by simp[RepCs]) rfl U G (by omega) (by omega) (by rw[←hb'] at q2;exact q2) hX
     refine⟨u,w',g1,OpDone.after (ups:=[(b,none)]) (by rw[L];exact kill) ?_ g3⟩
     rw[L];simpa[Sa] using g2
   ·rcases hr with hr | ⟨kk,o,rfl,hr⟩
    ·exact absurd hr hc0
    ·rcases hr with hr | ⟨r1,r2,r3⟩
     ·simp[hd] at hr
     ·rcases S.blk b y hb hd hmp with⟨hn',_⟩ | ⟨k',o',cs,ty',fr,hβ',g1,g2,g3,g4,g5,g6⟩
      ·rw[r1] at hn';simp at hn'
      ·rw[r1] at hβ';simp at hβ';obtain⟨rfl,rfl⟩:=hβ'
       have hbs:=Ea g1
       have hpure:=((g4.1 c1).drop off).take (n*y.sz)
       have hpl:((y.cells.drop off).take (n*y.sz)).length=n*y.sz:=by simp;omega
       by_cases T:n+new.2.1≤cap
       ·
        have hle:(n+new.2.1)*y.sz≤cap*y.sz:=Az9 _ T
        rw[A0m] at hle
        have run:=run_append_room_src (P:=P) w t tx ty el i hu hi kk (o+off) n cap vx new.2.1 us (by rw[C];exact Y.src ht F) T (fun j hj=>by
          rw[C,Pf g1];have:=Y.length;simp;omega) (fun j hj=>by
          rw[C];simp only[World.frozen?,g1]
          have h9:=Y.length
          have:=g2.1.at (o+off+n*y.sz+j) (by omega)
          cases fr;simp at this ⊢;omega)
        rw[C] at run
        obtain⟨cs',O,hO⟩:=OnlyBlk.setCells (k:=kk) us (o+off+n*y.sz) w cs g1
        have h9:=Y.length
        have B:=Step.move (y:={ y with dead:=true,pure:=true,cells:=[] }) (o':=o+off) (x':={ dead:=false,sealed:=false,pure:=true,taint:=y.taint||new.2.2,sz:=y.sz,cells:=(y.cells.drop off).take (n*y.sz)++new.1,ty:=lI P g el tx (.own b off n) }) S hb hd c2 r1 hn rfl O rfl rfl
         (by rw[Az2,hpl,G];omega) ⟨fun _=>by
          show RepCs (J (y.taint||new.2.2)) w ((y.cells.drop off).take (n*y.sz)++new.1) _ 0
          rw[Bv]
          intro j q hj
          rw[A1k,hpl] at hj
          simp only[A0g]
          by_cases hjn:j<n*y.sz
          ·rw[if_pos hjn] at hj
           obtain⟨v,V,hvr⟩:=hpure.at hj
           refine⟨v,?_,RepC.keep (J:=J y.taint) (w:=w) (WC S.jft _ _) (fun _ _=>rfl) hvr⟩
           rw[hO,if_neg (by omega),A1x];exact V
          ·rw[if_neg hjn] at hj
           obtain⟨v,V,hvr⟩:=U.at hj
           refine⟨v,?_,hvr⟩
           have:j - n*y.sz<us.length:=(A0p.1 V).1
           rw[hO,if_pos (by omega),←V];congr 1;omega,fun hp=>by simp at hp⟩ hmp (hty:=Ard (P:=P) (tx:=tx) (n:=n) hy g2.2)
        refine⟨_,_,run,J,(fun b=>if b=nid d then some (kk,o+off) else β b),?_,?_⟩
        ·rw[Cj,L];exact B
        ·rw[Cj,L,Rep]
         refine⟨_,_,cap,⟨by simp[Sa,Am,Aj];rfl,rfl⟩,rfl,T,.inr ⟨kk,o+off,rfl,.inr ⟨by simp,?_,?_⟩⟩⟩
         ·rw[Ea O.new,O.sz];simp;omega
         ·simp only[Az2,hpl,G,h9,A0g];rw[A0m];exact Az3 _
       ·
        obtain⟨olds,l1,l2,l3⟩:=hpure.list
        obtain⟨u,w',g1',g2',g3'⟩:=qV (ty:=ty) (c1:=(y.cells.drop off).take (n*y.sz)) (olds:=olds) (n1:=n) (cap0:=cap) (A:=some ⟨kk,o+off,none⟩) kill.sim hkn hu hi hiz C (by rw[e1,C]) (fun w' he =>
          run_firstCells_some (P:=P) w' y.sz n _ n cap olds (by rw[l1,hpl]) (fun j v V=>by
           rw[he,Addr.add_mid,Pf g1,A1x];exact l2 j v V)) (by rw[l1,hpl]) Y ht F
          (RepCs.keep (J:=J y.taint) (w:=w) (WC S.jft _ _) (fun _ _=>rfl) (fun _=>rfl) l3) l1.symm U G (by omega) (by omega) (by rw[←hb'] at q2;exact q2) hX
        refine⟨u,w',g1',OpDone.after (ups:=[(b,none)]) (by rw[L];exact kill) ?_ g3'⟩
        rw[L];exact g2'
  ·simp at D
 ·simp at hh
end
end Gx
namespace Gx
open Go
section
variable {R:Type} {r:R} {P:Program} {J J':Bool→Nat→Prop} {β:Cd} {h:Az} {w w':World} {g:A7}
theorem Step.retaint (S:SimH J β h w) {d:Nat} {x:Blk} (F:An h d=some x) (C:x.dead=false) (hs:x.sealed=false) (hp:x.pure=true) (D:x.mp=false) (o:Bool) :
  Step J β h w J β (Ff h d { x with taint:=x.taint||o }) w:=by
 have E:Ext J β h w J β (Ff h d { x with taint:=x.taint||o }) w:=by
  refine⟨fun _ _ A=>A,fun o k A=>rfl,fun b z j=>?_,fun b k o B=>Az3 _⟩
  by_cases e:b=d
  ·subst e;rw[F] at j;simp at j;subst j
   exact⟨{ x with taint:=x.taint||o },⟨by rw[Aj,if_pos rfl],rfl⟩,.inr ⟨C,rfl,rfl,fun _=>rfl⟩⟩
  ·refine⟨z,⟨by rw[Aj,if_neg e];exact j,rfl⟩,?_⟩
   cases C:z.dead
   ·exact .inr ⟨rfl,rfl,rfl,fun _=>rfl⟩
   ·exact .inl rfl
 refine⟨E,⟨S.jlt,S.jft,S.gl.ext E,fun b z j n G=>?_,fun b z j n G=>by
   rw[Aj] at j
   by_cases e:b=d
   ·rw[if_pos e] at j;simp at j;subst j;simp[D] at G
   ·rw[if_neg e] at j
    exact(S.mblk b z j n G).keep rfl (fun k o B=>rfl) (fun _ _ _ _ A=>A),?_⟩,rfl,rfl,rfl,Az3 _,fun k hk _=>rfl,?_,fun _ _ A=>.inl A⟩
 ·rw[Aj] at j
  by_cases e:b=d
  ·rw[if_pos e] at j;simp at j;subst j;subst e
   rcases S.blk b x F C D with q | ⟨k,o',s,t,u,q,I,L,T,U,V,h7⟩
   ·exact .inl q
   ·refine .inr ⟨k,o',s,t,u,q,I,L,T,CellsRep.ext E ⟨fun _=>?_,fun hh=>?_⟩,fun _=>V hs,fun hh=>by simp[hs] at hh⟩
    ·exact RepCs.keep (J:=J x.taint) (w:=w) (WC S.jft _ _) (fun _ _=>rfl) (fun _=>rfl) (U.1 hp)
    ·simp[hp] at hh
  ·rw[if_neg e] at j
   rcases S.blk b z j n G with q | ⟨k,o,s,t,u,q,I,L,T,U,V,h7⟩
   ·exact .inl q
   ·exact .inr ⟨k,o,s,t,u,q,I,L,T,U.ext E,V,h7⟩
 ·intro b b' z z' k oo X j Y hd1 hd2 v B hβ'
  have get:∀ {c y},An (Ff h d { x with taint:=x.taint||o }) c=some y→y.dead=false→∃ y',An h c=some y'∧y'.dead=false∧(y.sealed=false→y'.sealed=false):=by
   intro c y hc hyd
   rw[Aj] at hc
   by_cases e:c=d
   ·subst e;exact⟨x,F,C,fun _=>hs⟩
   ·rw[if_neg e] at hc;exact⟨y,hc,hyd,id⟩
  obtain⟨y1,g1,g2,g3⟩:=get j hd1
  obtain⟨y2,g4,g5,g6⟩:=get Y hd2
  exact S.sep b b' y1 y2 k oo X g1 g4 g2 g5 (g3 v) B hβ'
 ·rintro k ⟨b,z,o,j,n,v,B⟩ hk
  rw[Aj] at j
  by_cases e:b=d
  ·subst e;exact⟨b,x,o,F,C,hs,B⟩
  ·rw[if_neg e] at j
   exact⟨b,z,o,j,n,v,B⟩
theorem qX (c:LA) (off:Nat):D9 c off []=c:=by simp[D9]
theorem lR {q:IntKind}:∀ (n:Nat) (c:LA) (k:LA→O R),bB q n c k=some r→∃ vs,k vs=some r∧vs.length=n∧∀ (j:Nat) (v:AV),vs[j]?=some v→(∃ i,v=.int q i)∧c[j]?=some v
 | 0,_,k,h=>⟨[],h,rfl,by simp⟩
 | n+1,c,k,h=>by
  rw[bB] at h
  obtain⟨x,u,h⟩:=ub h
  obtain⟨i,hi,h⟩:=ub h
  obtain⟨vs,z,A,B⟩:=lR n _ _ h
  refine⟨_,z,by simp[A],fun j v e=>?_⟩
  cases j with
  | zero =>
   simp at e;subst e
   refine⟨⟨_,rfl⟩,?_⟩
   rw[←A1a,u]
   unfold YL at hi
   split at hi
   ·obtain⟨s,hn⟩:=uc hi
    simp[Qv] at s hn;subst s;subst hn;rfl
   ·cases hi
  | succ j =>
   simp at e
   obtain⟨C,t⟩:=B j v e
   refine⟨C,?_⟩
   rw[A1t] at t
   rw[←t,A2v]
theorem z_ {t tx ty X sz b off n:TypeId} {y:Blk} {q:LA×Nat×Bool} {us:List Value} {vs vx:Value} {k:AV→Eo→O R} (S:SimH J β h w) (hu:P.underlying t=some (.slice X)) (hsz:Bi P X=some sz) (hb:An h b=some y) (V:y.dead=false)
  (hh:iz P X sz b off n y q k=some r) (hs:Rep J β h w (.own b off n) vs) (Y:Yield P w sz vx q.2.1 us) (hul:q.1.length=us.length) (F:RepCs (J q.2.2) w q.1 (fun j=>us[j]?) 0) :
  ∃ val ups,k val ups=some r∧∃ u w',(Builtin.copy_ #[t,tx] ty #[vs,vx]).run P w=.ok u w'∧OpDone J β h w ups val u w':=by
 unfold iz at hh
 split at hh
 ·rename_i kd hk
  obtain⟨hc,h1⟩:=uc hh
  simp at hc
  obtain⟨c0,c1,c2,c3,c4,c5,c6⟩:=hc
  subst c0
  obtain⟨ws,h2,hw,hws⟩:=lR _ _ _ h1
  have G:=RepCs.one F hul.symm
  refine⟨_,_,h2,?_⟩
  rw[Rep] at hs
  obtain⟨y',A,cap,⟨s,I⟩,rfl,hcap,hr⟩:=hs
  rw[hb] at s;simp at s;subst s
  have hm:Nat.min q.2.1 n=n:=Nat.min_eq_right c5
  have e:=Y.cells w n (fun _=>rfl) c5
  have L:=Y.len w
  rcases hr with hr | ⟨kk,o,rfl,hr⟩
  ·omega
  ·rcases hr with hr | ⟨r1,r2,r3⟩
   ·simp[V] at hr
   ·rcases S.blk b y hb V I with⟨T,_⟩ | ⟨k',o',cs,ty',fr,v,g1,g2,g3,g4,g5,g6⟩
    ·rw[r1] at T;simp at T
    ·rw[r1] at v;simp at v;obtain⟨rfl,rfl⟩:=v
     have hul':=Y.length
     have htl:(us.take (n*1)).length=n:=by rw[A0o];omega
     obtain⟨U,O,hO⟩:=OnlyBlk.setCells (k:=kk) (us.take (n*1)) (o+off) w cs g1
     have z:=run_storeCells_cells (P:=P) kk (o+off) (us.take (n*1)) 0 w (fun j D=>by
       rw[A1i,Pf g1];simp;omega)
      (fun j D=>by
       rw[A1i];simp only[World.frozen?,g1]
       have:=g2.1.at (o+off+j) (by omega)
       cases fr;simp at this ⊢;omega) (fun u hu=>G u (A3b hu))
     simp only[A1i] at z
     have B:=Step.set (x':={ y with cells:=D9 y.cells off ws }) S hb V c3 r1 O V c3 rfl (Pg (by omega)) ⟨fun hp=>by simp[c4] at hp,fun _=>by
      intro j x D
      rw[BW (by omega),hw] at D
      split at D
      ·obtain⟨⟨i,rfl⟩,h5⟩:=hws _ _ D
       obtain⟨u,C,hr⟩:=F.at h5
       refine⟨u,?_,?_,?_⟩
       ·show U[o+j]?=some u
        rw[hO,if_pos (by omega),A2b,if_pos (by omega),←C];congr 1;omega
       ·rw[RepC] at hr;rw[Rep];exact hr
       ·rw[RepC] at hr;rw[hr];rfl
      ·obtain⟨u,C,hr⟩:=g4.2 c4 j x D
       refine⟨u,?_,hr⟩
       show U[o+j]?=some u
       rw[hO,if_neg (by omega)];exact C⟩ I
     refine⟨.int .i64 (n:Nat),_,?_,J,β,B,by rw[Rep]⟩
     simp only[A0b] at z
     simp[Builtin.copy_,run_underlying hu,L,Cm hsz,hm,e,goInt,z]
 ·cases hh
theorem Adm {t tx ty:TypeId} {s x:AV} {vs vx:Value} {k:AV→Eo→O R} (S:SimH J β h w) (hl:Looks g h) (hh:xU P g t s x k=some r) (hs:Rep J β h w s vs) (hx:Rep J β h w x vx) :
  ∃ val ups,k val ups=some r∧∃ u w',(Builtin.copy_ #[t,tx] ty #[vs,vx]).run P w=.ok u w'∧OpDone J β h w ups val u w':=by
 unfold xU at hh
 split at hh
 ·rename_i el b off n F
  obtain⟨sz,C,h1⟩:=ub hh
  obtain⟨y,hy,h2⟩:=ub h1
  obtain⟨new,us,h3,Y,G,D⟩:=LP (P:=P) S hl h2 hx
  obtain⟨hb,hd⟩:=Dg hl hy
  cases I:(y.pure&&(!y.sealed&&beq sz y.sz)) with
  | false=>rw[I] at h3;exact z_ S F C hb hd h3 hs Y G D
  | true =>
  rw[I] at h3
  have h4:=h3
  simp only[cond_true] at h4
  have hc:=I
  simp at hc
  obtain⟨c1,c2,c3⟩:=hc
  subst c3
  have hone:=RepCs.one D G.symm
  refine⟨_,_,h4,?_⟩
  rw[Rep] at hs
  obtain⟨y',A,cap,⟨L,U⟩,rfl,hcap,hr⟩:=hs
  rw[hb] at L;simp at L;subst L
  have hm:Nat.min new.2.1 n≤new.2.1:=Nat.min_le_left _ _
  have v:=Y.cells w (Nat.min new.2.1 n) (fun _=>rfl) hm
  have z:=Y.len w
  by_cases V:Nat.min new.2.1 n*y.sz=0
  ·
   refine⟨.int .i64 (Nat.min new.2.1 n:Nat),w,?_,J,β,?_,by rw[Rep]⟩
   ·have e:us.take (Nat.min new.2.1 n*y.sz)=[]:=by rw[V];rfl
    rw[e] at v
    cases A with
    | none=>simp[Builtin.copy_,run_underlying F,z,Cm C,v,goInt]
    | some a=>simp[Builtin.copy_,run_underlying F,z,Cm C,v,goInt,storeCells]
   ·have e:(new.1.take (min new.2.1 n*y.sz))=[]:=by
     have:min new.2.1 n*y.sz=0:=V
     rw[this];rfl
    have T:=Step.retaint S hb hd c2 c1 U new.2.2
    simp only[Am]
    rw[e,qX]
    exact T
  ·rcases hr with hr | ⟨kk,o,rfl,hr⟩
   ·have:n=0:=by omega
    subst this;simp at V
   ·rcases hr with hr | ⟨r1,r2,r3⟩
    ·simp[hd] at hr
    ·rcases S.blk b y hb hd U with⟨hn',_⟩ | ⟨k',o',cs,ty',fr,X,g1,g2,g3,g4,g5,g6⟩
     ·rw[r1] at hn';simp at hn'
     ·rw[r1] at X;simp at X;obtain⟨rfl,rfl⟩:=X
      have hle1:Nat.min new.2.1 n*y.sz≤new.2.1*y.sz:=Az9 _ hm
      have hle2:Nat.min new.2.1 n*y.sz≤n*y.sz:=Az9 _ (Nat.min_le_right _ _)
      have hul':=Y.length
      have htl:(us.take (Nat.min new.2.1 n*y.sz)).length=Nat.min new.2.1 n*y.sz:=by rw[A0o];omega
      have htl':(new.1.take (Nat.min new.2.1 n*y.sz)).length=Nat.min new.2.1 n*y.sz:=by rw[A0o];omega
      obtain⟨cs',O,hO⟩:=OnlyBlk.setCells (k:=kk) (us.take (Nat.min new.2.1 n*y.sz)) (o+off) w cs g1
      have hst:=run_storeCells_cells (P:=P) kk (o+off) (us.take (Nat.min new.2.1 n*y.sz)) 0 w (fun j hj=>by
        rw[A1i,Pf g1];simp;omega)
       (fun j hj=>by
        rw[A1i];simp only[World.frozen?,g1]
        have:=g2.1.at (o+off+j) (by omega)
        cases fr;simp at this ⊢;omega) (fun u F=>hone u (A3b F))
      simp only[A1i] at hst
      have B:=Step.set (x':={ y with cells:=D9 y.cells off (new.1.take (Nat.min new.2.1 n*y.sz)),taint:=y.taint||new.2.2 }) S hb hd c2 r1 O hd c2 rfl (Pg (by omega)) ⟨fun _=>by
       show RepCs (J (y.taint||new.2.2)) w (D9 y.cells off (new.1.take (Nat.min new.2.1 n*y.sz))) _ 0
       rw[Bv]
       intro j q hj
       rw[BW (by omega),htl'] at hj
       simp only[A0g]
       split at hj
       ·obtain⟨u,hu',hr⟩:=(D.take _).at hj
        refine⟨u,?_,RepC.keep (J:=J new.2.2) (w:=w) (qW S.jft _ _) (fun _ _=>rfl) hr⟩
        rw[hO,if_pos (by omega),A2b,if_pos (by omega),←hu'];congr 1;omega
       ·obtain⟨u,hu',hr⟩:=(g4.1 c1).at hj
        refine⟨u,?_,RepC.keep (J:=J y.taint) (w:=w) (WC S.jft _ _) (fun _ _=>rfl) hr⟩
        rw[hO,if_neg (by omega)];exact hu',fun hp=>by simp[c1] at hp⟩ U
      refine⟨.int .i64 (Nat.min new.2.1 n:Nat),_,?_,J,β,B,by rw[Rep]⟩
      simp[Builtin.copy_,run_underlying F,z,Cm C,v,goInt,hst]
 ·rename_i el F
  obtain⟨sz,C,h1⟩:=ub hh
  obtain⟨new,us,h2,Y,G,D⟩:=LP (P:=P) S hl h1 hx
  rw[Rep] at hs;subst hs
  have z:=Y.len w
  have v:=Y.cells w 0 (fun _=>rfl) (A4l _)
  simp at v
  refine⟨_,_,h2,.int .i64 0,w,?_,J,β,Step.refl S,by rw[Rep]⟩
  have hm:∀ m:Nat,Nat.min m 0=0:=fun m=>Nat.min_eq_right (A4l _)
  simp[Builtin.copy_,run_underlying F,z,Cm C,hm,v,goInt]
 ·simp at hh
theorem za {t ty:TypeId} {s:AV} {vs:Value} {k:AV→Eo→O R} (S:SimH J β h w) (hl:Looks g h) (hh:jA P g t s k=some r) (hs:Rep J β h w s vs) :
  ∃ val ups,k val ups=some r∧∃ u w',(Builtin.clear_ #[t] ty #[vs]).run P w=.ok u w'∧OpDone J β h w ups val u w':=by
 unfold jA at hh
 split at hh
 ·rename_i el b off n U
  obtain⟨sz,X,h1⟩:=ub hh
  obtain⟨z,hz,h2⟩:=ub h1
  obtain⟨y,hy,h3⟩:=ub h2
  obtain⟨hc,h4⟩:=uc h3
  simp at hc
  obtain⟨c1,c2,c3⟩:=hc
  subst c3
  obtain⟨hb,Y⟩:=Dg hl hy
  obtain⟨i,v,hi,hv,rfl,hp,e1,e2⟩:=U6 hz
  have hs':i.size=y.sz:=by simp[Bi,hi] at X;exact X
  have hzv:∀ w,(zeroValue el).run P w=.ok v w:=fun w=>by simp[zeroValue,typeInfo,hi,hv]
  have C:=Fz n (L9 v.cells.toList)
  rw[e2,hs'] at C
  have hzc:Builtin.zeroCells v.cells n=madeCells v.cells (n*v.cells.size):=rfl
  have hul:(Builtin.zeroCells v.cells n).toList.length=n*y.sz:=by rw[hzc,A3i,size_madeCells,e1,hs']
  have hur:RepCs (J y.taint) w (Ey n (L9 v.cells.toList)) (fun j=>(Builtin.zeroCells v.cells n).toList[j]?) 0:=by
   have:=LU (J:=J y.taint) (w:=w) hp n (n*v.cells.size) (Az3 _)
   rw[←hzc] at this
   simpa using this
  have hone:=RepCs.one hur (by rw[hul,C])
  refine⟨_,_,h4,?_⟩
  rw[Rep] at hs
  obtain⟨y',A,cap,⟨F,G⟩,rfl,hcap,hr⟩:=hs
  rw[hb] at F;simp at F;subst F
  by_cases D:n*y.sz=0
  ·have e0:(Builtin.zeroCells v.cells n).toList=[]:=A1w (by rw[hul,D])
   refine⟨.tuple #[],w,?_,J,β,?_,by rw[Rep];exact⟨[],rfl,by rw[Reps]⟩⟩
   ·cases n with
    | zero=>cases A<;>simp[Builtin.clear_,run_underlying U]
    | succ n =>
     cases A with
     | none=>simp[Builtin.clear_,run_underlying U]
     | some a=>simp[Builtin.clear_,run_underlying U,hzv,e0,storeCells]
   ·have e:Ey n (L9 v.cells.toList)=[]:=A1w (by rw[C,D])
    have T:=Step.retaint S hb Y c2 c1 G false
    simp only[Am]
    rw[e,qX]
    simpa using T
  ·rcases hr with hr | ⟨kk,o,rfl,hr⟩
   ·have:n=0:=by omega
    subst this;simp at D
   ·rcases hr with hr | ⟨r1,r2,r3⟩
    ·simp[Y] at hr
    ·rcases S.blk b y hb Y G with⟨hn',_⟩ | ⟨k',o',cs,ty',fr,I,g1,g2,g3,g4,g5,g6⟩
     ·rw[r1] at hn';simp at hn'
     ·rw[r1] at I;simp at I;obtain⟨rfl,rfl⟩:=I
      obtain⟨cs',O,hO⟩:=OnlyBlk.setCells (k:=kk) (Builtin.zeroCells v.cells n).toList (o+off) w cs g1
      have hst:=run_storeCells_cells (P:=P) kk (o+off) (Builtin.zeroCells v.cells n).toList 0 w (fun j V=>by
        rw[A1i,Pf g1];simp;omega)
       (fun j V=>by
        rw[A1i];simp only[World.frozen?,g1]
        have:=g2.1.at (o+off+j) (by omega)
        cases fr;simp at this ⊢;omega) (fun u U=>hone u U)
      simp only[A1i] at hst
      have B:=Step.set (x':={ y with cells:=D9 y.cells off (Ey n (L9 v.cells.toList)) }) S hb Y c2 r1 O Y c2 rfl (Pg (by omega)) ⟨fun _=>by
       show RepCs (J y.taint) w (D9 y.cells off (Ey n (L9 v.cells.toList))) _ 0
       rw[Bv]
       intro j q V
       rw[BW (by omega),C] at V
       simp only[A0g]
       split at V
       ·obtain⟨u,L,hr⟩:=hur.at V
        refine⟨u,?_,hr⟩
        rw[hO,if_pos (by omega),←L];congr 1;omega
       ·obtain⟨u,L,hr⟩:=(g4.1 c1).at V
        refine⟨u,?_,hr⟩
        rw[hO,if_neg (by omega)];exact L,fun hp=>by simp[c1] at hp⟩ G
      refine⟨.tuple #[],_,?_,J,β,B,by rw[Rep];exact⟨[],rfl,by rw[Reps]⟩⟩
      cases n with
      | zero=>simp at D
      | succ n=>simp[Builtin.clear_,run_underlying U,hzv,hst]
 ·simp at hh
theorem YS:∀ {c:LA} {s:Lu} {us:List Value} {J:Nat→Prop},Wc c=some s→RepCs J w c (fun j=>us[j]?) 0→c.length=us.length →
  ∃ ns:List Int,us=ns.map (Value.int .u8)∧s=ns.map (fun n=>UInt8.ofNat n.toNat)
 | [],s,us,J,t,A,B=>by
  simp[Wc] at t;subst t
  have:us=[]:=by cases us<;>simp_all
  exact⟨[],by simp[this],rfl⟩
 | x::r,s,us,J,t,A,B=>by
  rw[Wc] at t
  obtain⟨b,e,I⟩:=ub t
  obtain⟨l,C,F⟩:=ub I
  simp at F;subst F
  cases us with
  | nil=>simp at B
  | cons u us =>
   rw[RepCs] at A
   obtain⟨⟨U,z,hr⟩,k⟩:=A
   simp at z;subst z
   unfold Ah6 at e
   split at e
   ·rename_i n
    simp at e;subst e
    rw[RepC] at hr;subst hr
    have q:RepCs J w r (fun j=>us[j]?) 0:=by
     rw[Bv] at k ⊢
     intro j y L
     obtain⟨v,G,D⟩:=k j y L
     refine⟨v,?_,D⟩
     rw[show 0+1+j=j+1 by omega] at G
     simpa using G
    obtain⟨ns,S,T⟩:=YS C q (by simpa using B)
    exact⟨n::ns,by simp[S],by simp[T]⟩
   ·simp at e
theorem Are:∀ (ns:List Int) (s:Lu),(ns.foldl (fun r n=>r.push (UInt8.ofNat n.toNat)) (⟨⟨s⟩⟩:ByteArray))=⟨⟨s++ns.map fun n=>UInt8.ofNat n.toNat⟩⟩
 | [],s=>by simp
 | n::r,s=>by
  rw[A22]
  have:(⟨⟨s⟩⟩:ByteArray).push (UInt8.ofNat n.toNat)=⟨⟨s++[UInt8.ofNat n.toNat]⟩⟩:=by
   simp[ByteArray.push]
  rw[this,Are r];simp
theorem Adn {d:Nat} {src dst:TypeId} {x:AV} {vx:Value} {k:AV→Eo→O R} (S:SimH J β h w) (hl:Looks g h) (hh:xV P g d src dst x k=some r) (t:Rep J β h w x vx) :
  ∃ val ups,k val ups=some r∧(UpsFree d h ups→∃ u w',(convert src dst vx).run P w=.ok u w'∧OpDone J β h w ups val u w'):=by
 unfold xV at hh
 split at hh
 ·rename_i kd C
  split at hh
  ·rename_i kd' n
   rw[Rep] at t;subst t
   obtain⟨F,V⟩:=uc hh
   obtain⟨s,hs⟩:=A47.1 F
   refine⟨_,_,V,fun _=>⟨.int kd (kd.wrap n),w,?_,J,β,Step.refl S,by rw[Rep]⟩⟩
   cases s<;>simp[convert,run_underlying hs,run_underlying C,Conv.intToInt]
  ·simp at hh
 ·rename_i C
  split at hh
  ·rename_i hs
   split at hh
   ·rename_i s
    rw[Rep] at t;subst t
    refine⟨_,_,hh,fun _=>⟨.string ⟨⟨s⟩⟩,w,?_,J,β,Step.refl S,by rw[Rep]⟩⟩
    simp[convert,run_underlying hs,run_underlying C]
   ·simp at hh
  ·rename_i B hs
   split at hh
   ·rename_i X
    split at hh
    ·simp at hh
    ·rename_i hns
     obtain⟨q,hq,V⟩:=ub hh
     obtain⟨s,hs',h2⟩:=ub V
     obtain⟨us,Y,hul,hur⟩:=lO (P:=P) S hl hq t
     obtain⟨ns,e1,e2⟩:=YS hs' hur hul
     refine⟨_,_,h2,fun _=>⟨.string ⟨⟨s⟩⟩,w,?_,J,β,Step.refl S,by rw[Rep]⟩⟩
     have hv:∃ A n cap,vx=.slice A n cap:=by
      unfold xR at hq
      split at hq
      ·rw[Rep] at t;exact⟨_,_,_,t⟩
      ·rw[Rep,RepC] at t;obtain⟨_,A,cap,rfl,_⟩:=t;exact⟨_,_,_,rfl⟩
      ·rw[Rep] at t;obtain⟨_,A,cap,_,rfl,_⟩:=t;exact⟨_,_,_,rfl⟩
      ·exact absurd rfl (hns _)
      ·simp at hq
     obtain⟨A,n,cap,rfl⟩:=hv
     have hn:q.2.1=n:=by have:=Y.len w;simpa[Builtin.lenOf] using this.symm
     have T:=Y.cells w n (fun _=>rfl) (by omega)
     have hyl:=Y.length
     rw[hn] at hyl
     rw[show us.take (n*1)=us by rw[←hyl,A06]] at T
     have G:(convert src dst (.slice A n cap)).run P w=(Conv.bytesToString (.slice A n cap)).run P w:=by
      cases A<;>simp[convert,run_underlying hs,run_underlying C,run_underlying X]
     rw[G]
     cases A with
     | none =>
      rw[run_firstCells_none] at T
      injection T with hc1 _
      have hus:us=[]:=by simpa using hc1.symm
      rw[hus] at e1
      have hns':ns=[]:=by simpa using e1.symm
      rw[hns'] at e2
      simp at e2;subst e2
      simp[Conv.bytesToString];rfl
     | some a =>
      simp only[Builtin.firstCells,A0b] at T
      rw[e1] at T
      rw[run_bytesToString w a n cap ns T,e2]
      have:=Are ns []
      simp at this
      rw[←this];rfl
   ·simp at hh
  ·simp at hh
 ·rename_i B C
  split at hh
  ·rename_i e' b off n hs X
   obtain⟨v,V⟩:=uc hh
   simp only[A0a] at v
   obtain⟨v,hn1⟩:=v
   have hn1:1≤n:=by simpa using hn1
   have v:=A0j v
   subst v
   have hee:e'=B:=by rw[hs] at C;simpa using C
   subst hee
   obtain⟨x,z,h2⟩:=ub V
   obtain⟨hsl,h3⟩:=Aib h2
   obtain⟨z,hd⟩:=Dg hl z
   refine⟨_,_,h3,fun _=>?_⟩
   have hx':=t
   rw[Rep] at t
   obtain⟨x0,A,cap,⟨I,hmp⟩,rfl,hle,hr⟩:=t
   rw[z] at I;simp at I;subst I
   rcases hr with hr | ⟨k1,o1,rfl,hr⟩
   ·omega
   ·rcases hr with hr | ⟨hβ,_,_⟩
    ·simp[hd] at hr
    ·rcases S.blk b x z hd hmp with⟨U,_⟩ | ⟨k2,o2,cs,ty,fr,U,h5,h6,h7,h8,h9,h10⟩
     ·rw[hβ] at U;simp at U
     ·rw[hβ] at U;simp at U;obtain⟨rfl,rfl⟩:=U
      have hsh:w.shape? k1=some (ty,cs.size):=by simp[World.shape?,h5]
      have hnew:∃ L,(w.freeze ⟨k1,cs.size,none⟩ 1).heap[k1]?=some (.cells cs ty L)∧FrOk cs.size L:=by
       obtain⟨lo,hi⟩:=fr
       refine⟨if lo==hi then (cs.size,cs.size+1) else (min lo cs.size,max hi (cs.size+1)),?_,?_⟩
       ·simp[World.freeze,A2i,h5]
       ·by_cases e:lo=hi
        ·simp[e,FrOk]
        ·have h11:cs.size≤lo:=by rcases h6 with h6 | h6;exact absurd h6 e;exact h6
         simp[e,FrOk];omega
      obtain⟨L,hf1,hf2⟩:=hnew
      have A:=Step.mark S z hd hsl hβ h5 hf1 hf2 (fun j D=>by
       simp only[World.freeze]
       rw[if_neg (by decide)]
       show(w.heap.modify k1 _)[j]?=_
       rw[A2i,if_neg (fun e=>D e.symm)]) (by simp[World.freeze]) rfl rfl rfl hmp
      refine⟨_,w.freeze ⟨k1,cs.size,none⟩ 1,?_,J,β,A,Rep.ext A.ext hx'⟩
      simp[convert,run_underlying hs,run_underlying X,markStringish,hsh]
  ·rename_i s hs X
   rw[Rep] at t;subst t
   refine⟨_,_,hh,fun hn=>⟨_,_,run_bytes_of_string (P:=P) w src dst B ⟨⟨s⟩⟩ hs C X,?_⟩⟩
   replace hn:=hn.nid (by simp[Sa,A4])
   have hsz:(⟨⟨s⟩⟩:ByteArray).size=s.length:=rfl
   have hcap:s.length≤grownCap w s.length 0 B:=by unfold grownCap;simp[Question.cut]
   rw[hsz]
   obtain⟨J',β',B1,B2⟩:=dw (d:=d) (n:=s.length) (cap:=grownCap w s.length 0 B) (sz:=1) (ty:=B) (fr:=((bytesRow ⟨⟨s⟩⟩ (grownCap w s.length 0 B)).size,(bytesRow ⟨⟨s⟩⟩ (grownCap w s.length 0 B)).size+1))
    (x:={ dead:=false,sealed:=false,pure:=true,taint:=false,sz:=1,cells:=s.map fun b=>.int .u8 (b.toNat:Int) })
    (cs:=bytesRow ⟨⟨s⟩⟩ (grownCap w s.length 0 B)) (Step.drew S).sim hn rfl rfl rfl (FrOk.un (.inr (Az3 _))) (by simp) (by simp[bytesRow,hsz];omega) hcap
    ⟨fun _=>by
     show RepCs (J false) w.drew (s.map fun b=>.int .u8 (b.toNat:Int)) _ 0
     rw[Bv]
     intro j q D
     rw[A3c] at D
     cases hb:s[j]? with
     | none=>rw[hb] at D;simp at D
     | some b =>
      rw[hb] at D;simp at D;subst D
      refine⟨.int .u8 (b.toNat:Int),?_,by rw[RepC]⟩
      have hlt:j<s.length:=(A0p.1 hb).1
      simp only[A0g,bytesRow]
      rw[A3v (by simp;exact hlt)]
      simp[hb],fun hp=>by simp at hp⟩
   exact⟨J',β',(Step.drew S).trans B1 (fun _ k _ _=>by rw[←LV];exact Qw _ _ k),B2⟩
  ·simp at hh
 ·simp at hh
theorem qY {t:TypeId} {n:Nat} (h:Bi P t=some n):∃ j,P.info? t=some j∧j.size=n:=by
 unfold Bi at h
 cases hq:P.info? t with
 | none=>rw[hq] at h;cases h
 | some j=>rw[hq] at h;simp at h;exact⟨j,rfl,h⟩
theorem zb {d:Nat} {src dst:TypeId} {x:AV} {vx:Value} {k:AV→Eo→O R} (S:SimH J β h w) (I:Looks g h) (hh:jB P g d src dst x k=some r) (A:Rep J β h w x vx) :
  ∃ val ups,k val ups=some r∧(UpsFree d h ups→∃ u w',(convert src dst vx).run P w=.ok u w'∧OpDone J β h w ups val u w'):=by
 unfold jB at hh
 split at hh
 ·rename_i L
  split at hh
  ·rename_i t b off hs
   obtain⟨n,hn,hh⟩:=ub hh
   obtain⟨y,T,hh⟩:=ub hh
   obtain⟨D,hh⟩:=uc hh
   simp at D
   obtain⟨z,s⟩:=Dg I T
   have B:=A
   rw[Rep] at A
   obtain⟨x1,U,o1,⟨C,gm⟩,rfl,v⟩:=A
   rw[z] at C;simp at C;subst C
   rcases v with v | v
   ·rw[v] at s;cases s
   obtain⟨j,V,F⟩:=qY hn
   rcases S.blk b y z s gm with⟨e1,G⟩ | ⟨Y,o2,cs,ty,fr,e1,G,e3,e4,e5⟩
   ·rw[v] at e1;cases e1
   ·rw[v] at e1;simp at e1;obtain⟨rfl,rfl⟩:=e1
    refine⟨_,_,hh,fun _=>⟨_,w,Lib.run_to_unsafe w ⟨U,o1+off,none⟩ hs L V (by rw[F];exact fun e=>by rw[e] at D;simp at D) (e:=ty) (cells:=cs.size) (by simp[World.shape?,G]) (by show o1+off<_;omega),J,β,Step.refl S,B⟩⟩
  ·cases hh
 ·rename_i u L
  split at hh
  ·rename_i b off hs
   obtain⟨n,hn,hh⟩:=ub hh
   obtain⟨y,T,hh⟩:=ub hh
   obtain⟨q,hq,hh⟩:=ub hh
   obtain⟨D,hh⟩:=uc hh
   simp at D
   obtain⟨z,s⟩:=Dg I T
   have B:=A
   rw[Rep] at A
   obtain⟨x1,U,o1,⟨C,gm⟩,rfl,v⟩:=A
   rw[z] at C;simp at C;subst C
   rcases v with v | v
   ·rw[v] at s;cases s
   obtain⟨j,V,F⟩:=qY hn
   rcases S.blk b y z s gm with⟨e1,G⟩ | ⟨Y,o2,cs,ty,fr,e1,G,e3,e4,e5⟩
   ·rw[v] at e1;cases e1
   ·rw[v] at e1;simp at e1;obtain⟨rfl,rfl⟩:=e1
    obtain⟨rfl,rfl,X⟩:=e3.2 q.1 q.2 hq
    have X:cs.size=q.2:=by omega
    refine⟨_,_,hh,fun _=>⟨_,w,Lib.run_from_unsafe w ⟨U,0+off,none⟩ hs L V (e:=q.1) (cells:=cs.size) (by simp[World.shape?,G]) (by show liesAt P P.depth q.1 (cs.size/_) (0+off) u 1=true;rw[X,A0g];exact D.2.2),J,β,Step.refl S,B⟩⟩
  ·cases hh
 ·exact Adn S I hh A
theorem Aie {fn : Func} (e : fn.name = "internal/abi.NoEscape") : Extern.find fn = some Extern.AbiNoEscape.same := by
 have l1 : Extern.allGenericRows.lookup "internal/abi.NoEscape" = none := by kernel_rfl
 have l2 : Extern.allTypedRows.lookup "internal/abi.NoEscape" = none := by kernel_rfl
 have l3 : Extern.allRows.lookup "internal/abi.NoEscape" = some Extern.AbiNoEscape.same := by kernel_rfl
 unfold Extern.find
 simp only[e,l1,l2,l3]
 rfl
theorem qZ {fn : Func} (e : fn.name = "internal/abi.NoEscape") (j : fn.origin = "") : Extern.findNext fn = none := by
 have l1 : Extern.allNextRows.lookup "internal/abi.NoEscape" = none := by kernel_rfl
 have l2 : Extern.allNextRows.lookup "" = none := by kernel_rfl
 unfold Extern.findNext
 simp only[e,j,l1,l2]
 rfl
theorem Anu {f:Nat} (h:Aq8 P f=true) (x:Value) (w:World):(callFunc f #[x]).run P w=.ok (.value x) w:=by
 unfold Aq8 at h
 split at h
 ·rename_i fn j
  simp only[A0a] at h
  obtain⟨k,hn,e⟩:=h
  have hn : fn.name = "internal/abi.NoEscape" := by simpa using hn
  have e : fn.origin = "" := by simpa using e
  rw[run_callFunc_extern j (by rw[hn];decide) k (qZ hn e) (Aie hn)]
  rfl
 ·cases h
theorem Aif {x:AV} {b:UInt8} (h:ph x=some b):x=.int .u8 (b.toNat:Int):=by
 unfold ph at h
 split at h
 ·rename_i n
  obtain⟨j,e⟩:=uc h
  simp at e;subst e
  have:=of_decide_eq_true j
  rw[this]
 ·cases h
theorem RT:∀ {c:LA} {s:Lu},Sc c=some s→c=s.map fun b=>.int .u8 (b.toNat:Int)
 | [],s,h=>by simp[Sc] at h;subst h;rfl
 | x::r,s,h=>by
  rw[Sc] at h
  obtain⟨b,e,h⟩:=ub h
  obtain⟨l,j,h⟩:=ub h
  simp at h;subst h
  rw[Aif e,RT j];rfl
theorem jJ {d:Nat} {ts:Array TypeId} {ty:TypeId} {x:AV} {vx:Value} {k:AV→Eo→O R} (S:SimH J β h w) (v:Looks g h) (hh:Uz g x k=some r) (s:Rep J β h w x vx) :
  ∃ val ups,k val ups=some r∧(UpsFree d h ups→∃ u w',(Builtin.unsafeSliceData_ ts ty #[vx]).run P w=.ok u w'∧OpDone J β h w ups val u w'):=by
 unfold Uz at hh
 split at hh
 ·rw[Rep] at s;subst s
  exact⟨_,_,hh,fun _=>⟨.pointer none,w,rfl,J,β,Step.refl S,by rw[Rep]⟩⟩
 ·rename_i b off n
  obtain⟨y,B,hh⟩:=ub hh
  obtain⟨hn,hh⟩:=uc hh
  have hn:0<n:=by simpa using hn
  obtain⟨j,q⟩:=Dg v B
  rw[Rep] at s
  obtain⟨z,A,cap,⟨t,gm⟩,rfl,D,e⟩:=s
  rw[j] at t;simp at t;subst t
  rcases e with e | ⟨C,o1,rfl,e⟩
  ·omega
  rcases e with e | ⟨e,_⟩
  ·rw[e] at q;cases q
  refine⟨_,_,hh,fun _=>⟨_,w,Lib.run_unsafeSliceData_row w ts ty _ n cap (by omega),J,β,Step.refl S,?_⟩⟩
  rw[Rep]
  exact⟨y,C,o1,⟨j,gm⟩,rfl,.inr e⟩
 ·cases hh
theorem jK {d:Nat} {t it ty:TypeId} {x n:AV} {vx vn:Value} {k:AV→Eo→O R} (S:SimH J β h w) (hl:Looks g h) (hh:U0 P g t x n k=some r) (V:Rep J β h w x vx) (X:Rep J β h w n vn) :
  ∃ val ups,k val ups=some r∧(UpsFree d h ups→∃ u w',(Builtin.unsafeString_ #[t,it] ty #[vx,vn]).run P w=.ok u w'∧OpDone J β h w ups val u w'):=by
 unfold U0 at hh
 split at hh
 ·rename_i n
  obtain⟨hn,hh⟩:=uc hh
  have hn:n=0:=by simpa using hn
  subst hn
  simp only[Rep] at V X;subst V X
  exact⟨_,_,hh,fun _=>⟨_,w,Lib.run_unsafeString_none w t it ty none,J,β,Step.refl S,by rw[Rep];rfl⟩⟩
 ·rename_i b off n
  obtain⟨y,hy,hh⟩:=ub hh
  obtain⟨q,hq,hh⟩:=ub hh
  split at hh
  ·rename_i e he
   obtain⟨hc,hh⟩:=uc hh
   obtain⟨s,hs,hk⟩:=ub hh
   simp only[A0a,A3a,decide_eq_true_eq] at hc
   obtain⟨c1,c2,c3,c4,c5,c6,c7,c8⟩:=hc
   have c1:=A0j c1
   have c2:=A0j c2
   have c5:=A0j c5
   obtain⟨A,B⟩:=Dg hl hy
   simp only[Rep] at V X;subst X
   obtain⟨z,I,o1,⟨g1,gm⟩,rfl,D⟩:=V
   rw[A] at g1;simp at g1;subst g1
   rcases D with D | D
   ·rw[D] at B;cases B
   rcases S.blk b y A B gm with⟨e1,G⟩ | ⟨k2,o2,cs,ty2,fr,e1,G,e3,e4,e5,e6⟩
   ·rw[D] at e1;cases e1
   rw[D] at e1;simp at e1;obtain⟨rfl,rfl⟩:=e1
   obtain⟨rfl,rfl,_⟩:=e3.2 q.1 q.2 hq
   subst c5
   have hsl:s.length=n.toNat:=by
    have:=congrArg List.length (RT hs)
    simp at this;omega
   have hsn:(n:Int)=(s.length:Int):=by omega
   subst hsn
   refine⟨_,_,hk,fun _=>⟨.string ⟨s.toArray⟩,w.freeze ⟨I,0,none⟩ s.length,?_,J,β,?_,by rw[Rep]⟩⟩
   ·refine Lib.run_unsafeString_row w t it ty q.1 (by rw[c1];exact he) (by rw[c1];exact c2) I cs.size (by simp[World.shape?,G]) s (by intro e;subst e;simp at c6) (by omega) (by omega) fun j x Y=>?_
    have hjl:j<s.length:=(A0p.1 Y).1
    have F:y.cells[j]?=some (.int .u8 (x.toNat:Int)):=by
     have h2:(y.cells.take (s.length:Int).toNat)[j]?=some (.int .u8 (x.toNat:Int)):=by rw[RT hs];simp[Y]
     rw[A2b] at h2
     split at h2
     ·exact h2
     ·cases h2
    obtain⟨u,C,L⟩:=Bv.1 (e5.1 c3) j _ F
    rw[RepC] at L;subst L
    have C:cs[j]?=some (.int .u8 (x.toNat:Int)):=by simpa using C
    by_cases ej:j=0
    ·subst ej;simp[World.cell?,Addr.add,G,C]
    ·simp[World.cell?,Addr.add,G,ej,C]
   ·have ap:Am [(b,none)] h=Ff h b { y with dead:=true,pure:=true,cells:=[] }:=by simp[Am,A]
    rw[ap]
    have v:s.length≠0:=by omega
    refine Step.giveUp S A B c4 D gm rfl (fun j Y=>?_) (by simp[World.freeze,v]) (by simp[World.freeze,v]) (by simp[World.freeze,v]) (by simp[World.freeze,v]) ?_
    ·simp only[World.freeze]
     rw[if_neg v]
     show(w.heap.modify I _)[j]?=_
     rw[A2i,if_neg (fun e=>Y e.symm)]
    ·obtain⟨lo,hi⟩:=fr
     have T:∃ U,(w.freeze ⟨I,0,none⟩ s.length).heap[I]?=some (.cells cs q.1 U):=⟨_,by simp[World.freeze,v,A2i,G];rfl⟩
     obtain⟨U,hf⟩:=T
     rw[Ea G,Ea hf];exact Az3 _
  ·cases hh
 ·cases hh
end
end Gx
namespace Gx
open Go
def LW (CR:AV→Value→Prop) (c:LA) (cs:List Value):Prop:=c.length=cs.length∧∀ (j:Nat) (x:AV) (u:Value),c[j]?=some x→cs[j]?=some u→CR x u
def PartsRel (CR:AV→Value→Prop):List (Nat×LA)→List (Nat×Value)→Prop
 | [],vs=>vs=[]
 | (i,c)::r,vs=>∃ v vs',vs=(i,v)::vs'∧LW CR c v.cells.toList∧PartsRel CR r vs'
theorem Al3:∀ (vs:List Value) (n off:Nat) (cells:Array Value) (j:Nat),
  ((vs.zipIdx n).foldl (fun (cs:Array Value) (p:Value×Nat)=>cs.setIfInBounds (off+p.2) p.1) cells)[j]?=if off+n≤j∧j<off+n+vs.length∧j<cells.size then vs[j - (off+n)]? else cells[j]?
 | [],n,off,cells,j=>by simp;omega
 | v::r,n,off,cells,j=>by
  rw[List.zipIdx_cons,A22,Al3 r (n+1) off]
  simp only[A48,Az5]
  by_cases k:j=off+n
  ·subst k
   rw[if_neg (by omega)]
   by_cases e:off+n<cells.size
   ·rw[if_pos (by omega)];simp[e]
   ·rw[if_neg (by omega)];simp[e]
  ·by_cases e:off+(n+1)≤j∧j<off+(n+1)+r.length∧j<cells.size
   ·rw[if_pos e,if_pos (by omega),show j - (off+n)=(j - (off+(n+1)))+1 by omega];simp
   ·rw[if_neg e,if_neg (by omega),A4d (by omega)]
theorem dz:∀ (vs:List Value) (n off:Nat) (cells:Array Value),((vs.zipIdx n).foldl (fun (cs:Array Value) (p:Value×Nat)=>cs.setIfInBounds (off+p.2) p.1) cells).size=cells.size
 | [],_,_,_=>rfl
 | v::r,n,off,cells=>by rw[List.zipIdx_cons,A22,dz r];simp
theorem H' {CR:AV→Value→Prop} {place:Nat→Option (Nat×Nat)}:∀ {parts:List (Nat×LA)} {vparts:List (Nat×Value)} {c c':LA} {cs:Array Value},PartsRel CR parts vparts→LW CR c cs.toList →
  O5 place parts c=some c'→∃ e,Instr.fill place cs vparts=some e∧LW CR c' e.toList
 | [],vparts,c,c',cs,s,A,t=>by
  rw[PartsRel] at s;subst s
  simp[O5] at t;subst t
  exact⟨cs,rfl,A⟩
 | (i,vs)::r,vparts,c,c',cs,s,A,t=>by
  rw[PartsRel] at s
  obtain⟨v,G,rfl,D,hr⟩:=s
  rw[O5] at t
  obtain⟨p,C,I⟩:=ub t
  obtain⟨F,L⟩:=uc I
  simp at F
  obtain⟨b1,X⟩:=F
  have e1:vs.length=v.cells.size:=by have:=D.1;simpa using this
  have S:c.length=cs.size:=by have:=A.1;simpa using this
  have z:p.1+vs.length≤c.length:=by omega
  have key:LW CR (setCells c p.1 vs) (v.cells.zipIdx.foldl (fun (cs:Array Value) (q:Value×Nat)=>cs.setIfInBounds (p.1+q.2) q.1) cs).toList:=by
   have k:v.cells.zipIdx.foldl (fun (cs:Array Value) (q:Value×Nat)=>cs.setIfInBounds (p.1+q.2) q.1) cs=(v.cells.toList.zipIdx 0).foldl (fun (cs:Array Value) (q:Value×Nat)=>cs.setIfInBounds (p.1+q.2) q.1) cs:=by
    rw[←Array.foldl_toList];simp
   rw[k]
   refine⟨by rw[P4 z,S];exact(dz _ 0 _ _).symm,fun j x u B n=>?_⟩
   rw[LR z] at B
   rw[A5s,Al3] at n
   simp only[A1i,A3i] at n
   split at B
   ·rename_i T
    rw[if_pos (by omega)] at n
    exact D.2 _ x u B n
   ·rename_i T
    rw[if_neg (by omega)] at n
    exact A.2 j x u B (by simpa using n)
  obtain⟨e,U,V⟩:=H' hr key L
  refine⟨e,?_,V⟩
  rw[Instr.fill,C]
  have:¬ (v.cells.size≠p.2||p.1+v.cells.size>cs.size)=true:=by simp;omega
  simp only[this]
  exact U
section
variable {R:Type} {r:R} {P:Program} {J J':Bool→Nat→Prop} {β:Cd} {h:Az} {w w':World} {g:A7}
def RepParts (J:Bool→Nat→Prop) (β:Cd) (h:Az) (w:World):List (Nat×AV)→List (Nat×Value)→Prop
 | [],vs=>vs=[]
 | (i,x)::r,vs=>∃ v vs',vs=(i,v)::vs'∧Rep J β h w x v∧RepParts J β h w r vs'
theorem RepParts.ext {β':Cd} {h':Az} (E:Ext J β h w J' β' h' w'):∀ {ps:List (Nat×AV)} {vs:List (Nat×Value)},RepParts J β h w ps vs→RepParts J' β' h' w' ps vs
 | [],_,hr=>hr
 | (i,x)::r,vs,hr=>by
  rw[RepParts] at hr ⊢
  obtain⟨v,j,e,k,n⟩:=hr
  exact⟨v,j,e,Rep.ext E k,RepParts.ext E n⟩
theorem PartsRel.mono {CR CR':AV→Value→Prop} (n:∀ x u,CR x u→CR' x u):∀ {ps:List (Nat×LA)} {vs:List (Nat×Value)},PartsRel CR ps vs→PartsRel CR' ps vs
 | [],_,hr=>hr
 | (i,c)::r,vs,hr=>by
  rw[PartsRel] at hr ⊢
  obtain⟨v,k,e,q,s⟩:=hr
  exact⟨v,k,e,⟨q.1,fun j x u t z=>n _ _ (q.2 j x u t z)⟩,PartsRel.mono n s⟩
theorem Wg {J:Nat→Prop} {c:LA} {us:List Value} (k:RepCs J w c (fun j=>us[j]?) 0) (n:c.length=us.length):LW (RepC J w) c us :=
 ⟨n,fun j x u q s=>by
  obtain⟨t,e,hr⟩:=k.at q
  rw[s] at e;simp at e;subst e;exact hr⟩
theorem YT {J:Nat→Prop} {c:LA} {us:List Value} (e:LW (RepC J w) c us):RepCs J w c (fun j=>us[j]?) 0:=by
 rw[Bv]
 intro j x k
 have:j<us.length:=by rw[←e.1];exact(A0p.1 k).1
 exact⟨us[j],by simp[this],e.2 j x _ k (Az6 this)⟩
theorem PF:∀ {ps:List (Nat×AV)} {vs:List (Nat×Value)} {q:List (Nat×LA)} {ups:Eo} {org:Bool} {J:Bool→Nat→Prop} {h:Az},SimH J β h w→LooksS g h→HV g ps=some (q,ups,org)→RepParts J β h w ps vs →
  ∃ J',Step J β h w J' β (Am ups h) w∧PartsRel (RepC (J' org) w) q vs∧LooksS g (Am ups h)∧∀ b,A4 ups b=true→∃ x,g b=some x
 | [],vs,q,ups,org,J,h,S,s,hh,e=>by
  simp[HV] at hh;obtain⟨rfl,rfl,rfl⟩:=hh
  rw[RepParts] at e
  exact⟨J,Step.refl S,by rw[PartsRel];exact e,s,fun b j=>by simp[A4] at j⟩
 | (i,x)::r,vs,q,ups,org,J,h,S,s,hh,e=>by
  rw[HV] at hh
  obtain⟨⟨c1,u1,o1⟩,L,V⟩:=ub hh
  obtain⟨⟨Y,u2,o2⟩,hq,T⟩:=ub V
  simp at T
  obtain⟨rfl,rfl,rfl⟩:=T
  rw[RepParts] at e
  obtain⟨v,t,rfl,z,C⟩:=e
  obtain⟨J1,A,hA,n,D⟩:=PE S s L z
  obtain⟨J2,B,hB,F,G⟩:=PF A.sim D hq (RepParts.ext A.ext C)
  refine⟨J2,by rw[Cj];exact A.trans B (fun _ _ _ _=>Az3 _),?_,by rw[Cj];exact F,fun b j=>?_⟩
  ·rw[PartsRel]
   refine⟨v,t,rfl,Wg (RepCs.keep (J:=J1 o1) (w:=w) (fun k I=>WC B.sim.jft _ _ k (B.ext.jsub _ k I)) (fun _ _=>rfl) (fun _=>rfl) hA) n,?_⟩
   exact PartsRel.mono (fun x u X=>RepC.keep (J:=J2 o2) (w:=w) (fun k I=>qW B.sim.jft _ _ k I) (fun _ _=>rfl) X) hB
  ·rw[Hw] at j
   cases U:A4 u1 b with
   | true=>exact vT L b U
   | false=>rw[U] at j;exact G b (by simpa using j)
theorem IA {place:Nat→Option (Nat×Nat)} {k:LA→O R}:∀ (ps:List (Nat×LA)) (c:LA),qM place ps c k=(O5 place ps c).bind k
 | [],c=>rfl
 | (i,vs)::r,c=>by
  rw[qM,O5,Az4]
  congr 1;funext p
  rw[IA r]
  cases (beq vs.length p.2&&ble (p.1+p.2) c.length)<;>rfl
theorem eA {d len:Nat} {t:TypeId} {ps:List (Nat×AV)} {vs:List (Nat×Value)} {k:AV→Eo→O R} (S:SimH J β h w) (hl:Looks g h) (hh:Ri P g d t len ps k=some r) (hv:RepParts J β h w ps vs) :
  ∃ val ups,k val ups=some r∧(UpsFree d h ups→∃ u w',(Instr.buildSlice t len vs.toArray).run P w=.ok u w'∧OpDone J β h w ups val u w'):=by
 unfold Ri at hh
 split at hh
 ·rename_i el hu
  obtain⟨sz,e,h1⟩:=ub hh
  obtain⟨zz,hz,h2⟩:=ub h1
  obtain⟨⟨q,u1,o1⟩,hq,h3⟩:=ub h2
  obtain⟨hb,h4⟩:=uc h3
  rw[IA] at h4
  obtain⟨cells,hc,h5⟩:=ub h4
  simp at hb
  obtain⟨i,z,hi,G,rfl,I,e1,e2⟩:=U6 hz
  have n:i.size=sz:=by simp[Bi,hi] at e;exact e
  refine⟨_,_,h5,fun hn=>?_⟩
  replace hn:=hn.nid (by simp[Hw,Sa,A4])
  obtain⟨J1,A,hA,_,C⟩:=PF S hl.s hq hv
  have L:=LU (w:=w) (J:=J1 o1) I len (len*sz) (by rw[e1,n];exact Az3 _)
  have T:LW (RepC (J1 o1) w) (Ey len (L9 z.cells.toList)) (madeCells z.cells (len*sz)).toList:=by
   refine Wg (RepCs.keep (J:=J1 o1) (w:=w) (fun _ U=>U) (fun _ _=>rfl) (fun j=>by simp) L) ?_
   rw[Fz,e2,n,A3i,size_madeCells]
  obtain⟨v,f1,f2⟩:=H' hA T hc
  have D:cells.length=len*sz:=by
   have:∀ {ps:List (Nat×LA)} {c c':LA},O5 (fun i=>some (i*sz,sz)) ps c=some c'→c'.length=c.length:=by
    intro ps
    induction ps with
    | nil=>intro c c' F;simp[O5] at F;rw[F]
    | cons p r ih =>
     intro c c' F
     obtain⟨i,vs⟩:=p
     rw[O5] at F
     obtain⟨p,hpl,g1⟩:=ub F
     obtain⟨gb,g2⟩:=uc g1
     simp at gb
     rw[ih g2,P4 (by omega)]
   rw[this hc,Fz,e2,n]
  have hcs:v.size=len*sz:=by have:=f2.1;simp at this;omega
  refine⟨.slice (some ⟨w.heap.size,0,none⟩) len len,w.alloc (.cells v el),?_,?_⟩
  ·have B:Instr.fill (fun i=>some (i*sz,sz)) ((Array.range (len*sz)).map (z.cells[·%z.cells.size]!)) vs=some v:=f1
   have V:¬ (16777216<len*sz):=by omega
   by_cases X:len*sz=0
   ·have Y:∀ (a:Array Value),(Array.range (len*sz)).map (a[·%a.size]!)=#[]:=fun a=>by rw[X];simp[Array.range_zero']
    rw[Y] at B
    simp[Instr.buildSlice,run_underlying hu,Cm e,X,Array.range_zero',B,newRow]
   ·simp[Instr.buildSlice,run_underlying hu,Cm e,V,X,zeroValue,typeInfo,hi,G,B,newRow]
  ·refine OpDone.after A (dw (sz:=sz) (fr:=(0,0)) A.sim (Al2 hl C hn) rfl rfl rfl FrTy.un0 D (by omega) (Az3 _) ⟨fun _=>?_,fun I=>by simp at I⟩) (Qw _ _)
   have:=YT f2
   exact RepCs.keep (J:=J1 o1) (w:=w) (fun _ U=>U) (fun _ _=>rfl) (fun j=>by simp) this
 ·simp at hh
theorem bG {t:TypeId} {ps:List (Nat×AV)} {k:AV→O R}:zN P t ps k=(zM P t ps).bind k:=by
 unfold zN zM
 rw[Az4]
 congr 1;funext place
 cases (ps.all fun p=>RI p.2) with
 | false=>rfl
 | true =>
  simp only[cond_true]
  cases (ps.any fun p=>LJ p.2) with
  | true =>
   simp only[cond_true]
   cases (ps.any fun p=>qN p.2) with
   | true =>
    simp only[cond_true]
    rw[Az4]
    congr 1;funext z
    rw[IA]
    cases O5 place (J6 ps) z<;>rfl
   | false =>
    simp only[cond_false]
    rw[Az4]
    congr 1;funext z
    rw[IA]
    cases O5 place (Fs ps) z<;>rfl
  | false =>
   simp only[cond_false]
   rw[Az4]
   congr 1;funext z
   rw[IA]
   cases O5 place (Fs ps) z<;>rfl
theorem Arf {x:AV} {u:Value} (hr:RepC (fun _=>False) w x u):Rep J β h w x u:=by
 have e:∀ o:Bool,RepC (J o) w x u:=fun o=>RepC.keep (J:=fun _=>False) (w:=w) (fun _ j=>j.elim) (fun _ _=>rfl) hr
 cases x
 case imm c n sz t org=>rw[Rep];exact e org
 case iptr c org=>rw[Rep];exact e org
 case fn f c =>
  cases c with
  | nil=>rw[RepC] at hr;subst hr;rw[Rep];exact⟨[],by simp,by rw[Reps]⟩
  | cons a l=>simp[RepC] at hr
 all_goals first | (rw[RepC] at hr;rw[Rep];exact hr) | simp[RepC] at hr
theorem jL {d len:Nat} {t:TypeId} {ps:List (Nat×AV)} {vs:List (Nat×Value)} {k:AV→Eo→O R} (S:SimH J β h w) (hh:Uy P g d t len ps k=some r) (C:RepParts J β h w ps vs) :
  ∃ val ups,k val ups=some r∧(UpsFree d h ups→∃ u w',(Instr.buildSlice t len vs.toArray).run P w=.ok u w'∧OpDone J β h w ups val u w'):=by
 unfold Uy at hh
 split at hh
 ·rename_i el B
  obtain⟨sz,q,U⟩:=ub hh
  obtain⟨zz,hz,V⟩:=ub U
  obtain⟨X,h4⟩:=uc V
  obtain⟨cells,hc,h5⟩:=ub h4
  simp at X
  obtain⟨rfl,X,Y⟩:=X
  obtain⟨i,z,hi,hiz,rfl,hp,e1,e2⟩:=U6 hz
  have D:i.size=1:=by simp[Bi,hi] at q;exact q
  refine⟨_,_,h5,fun hn=>?_⟩
  replace hn:=hn.nid (by simp[Sa,A4])
  have hz0:=LU (w:=w) (J:=fun _=>False) hp len (len*1) (by rw[e1,D];exact Az3 _)
  have hz1:LW (fun x u=>Rep J β h w x u∧u.oneCell'=true) (Ey len (L9 z.cells.toList)) (madeCells z.cells (len*1)).toList:=by
   have hl:LW (RepC (fun _=>False) w) (Ey len (L9 z.cells.toList)) (madeCells z.cells (len*1)).toList:=by
    refine Wg (RepCs.keep (J:=fun _=>False) (w:=w) (fun _ hk=>hk) (fun _ _=>rfl) (fun j=>by simp) hz0) ?_
    rw[Fz,e2,D,A3i,size_madeCells]
   exact⟨hl.1,fun j x u hx B=>⟨Arf (hl.2 j x u hx B),dv (hl.2 j x u hx B)⟩⟩
  have s:∀ {ps:List (Nat×AV)} {vs:List (Nat×Value)},N1 g (ps.map (·.2))=true→RepParts J β h w ps vs→PartsRel (fun x u=>Rep J β h w x u∧u.oneCell'=true) (ps.map fun p=>(p.1,[p.2])) vs:=by
   intro ps
   induction ps with
   | nil=>intro vs _ C;rw[RepParts] at C;rw[A3n,PartsRel];exact C
   | cons p r ih =>
    obtain⟨i,x⟩:=p
    intro vs hs C
    rw[RepParts] at C
    obtain⟨v,vs',rfl,U,V⟩:=C
    simp[N1] at hs
    rw[A0n,PartsRel]
    refine⟨v,vs',rfl,?_,ih (by simpa using hs.2) V⟩
    have ho:=N4 hs.1 U
    have A:v.cells=#[v]:=by cases v<;>simp_all[Value.cells,Value.oneCell']
    rw[A]
    refine⟨rfl,fun j y u hy B=>?_⟩
    cases j with
    | zero=>simp at hy B;subst hy B;exact⟨U,ho⟩
    | succ j=>simp at hy
  obtain⟨e,f1,f2⟩:=H' (s Y C) hz1 hc
  have F:cells.length=len*1:=by
   have:∀ {ps:List (Nat×LA)} {c c':LA},O5 (fun i=>some (i*1,1)) ps c=some c'→c'.length=c.length:=by
    intro ps
    induction ps with
    | nil=>intro c c' G;simp[O5] at G;rw[G]
    | cons p r ih =>
     intro c c' G
     obtain⟨i,vs⟩:=p
     rw[O5] at G
     obtain⟨p,hpl,g1⟩:=ub G
     obtain⟨gb,g2⟩:=uc g1
     simp at gb
     rw[ih g2,P4 (by omega)]
   rw[this hc,Fz,e2,D]
  have hcs:e.size=len*1:=by have:=f2.1;simp at this;omega
  refine⟨.slice (some ⟨w.heap.size,0,none⟩) len len,w.alloc (.cells e el),?_,?_⟩
  ·have n:Instr.fill (fun i=>some (i*1,1)) ((Array.range (len*1)).map (z.cells[·%z.cells.size]!)) vs=some e:=f1
   have I:¬ (16777216<len*1):=by omega
   by_cases L:len*1=0
   ·have hme:∀ (a:Array Value),(Array.range (len*1)).map (a[·%a.size]!)=#[]:=fun a=>by rw[L];simp[Array.range_zero']
    rw[hme] at n
    simp only[A0b] at L
    simp[Instr.buildSlice,run_underlying B,Cm q,L,Array.range_zero',newRow]
    simp at n
    simp[n]
   ·simp only[A0b] at n L I
    simp[Instr.buildSlice,run_underlying B,Cm q,I,L,zeroValue,typeInfo,hi,hiz,n,newRow]
  ·refine dw (sz:=1) (fr:=(0,0)) S hn rfl rfl rfl FrTy.un0 F (by omega) (Az3 _) ⟨fun hp=>by simp at hp,fun _ j y hj=>?_⟩
   have T:j<e.size:=by have:=(A0p.1 hj).1;simp at this;omega
   have:=f2.2 j y e[j] hj (by simp[T])
   exact⟨e[j],by simp[T],this.1,this.2⟩
 ·simp at hh
theorem Wh {d:Nat}:∀ {l:List (Nat×Nat)} {j:Nat} {c:LA} {cs:List Value} {β:Cd} {h:Az},SimH J β h w→1≤j→j+l.length≤16→(∀ i,j≤i→i<16→A4 (F8 d l j c).2 (nid d+i)=true→An h (nid d+i)=none)→Reps J β h w c cs →
  ∃ β',Step J β h w J β' (Am (F8 d l j c).2 h) w∧Reps J β' (Am (F8 d l j c).2 h) w (F8 d l j c).1 cs
 | [],j,c,cs,β,h,S,_,_,_,hr=>⟨β,Step.refl S,hr⟩
 | (o,sz)::l,j,c,cs,β,h,S,T,F,s,hr=>by
  rw[F8] at s ⊢
  split
  ·rename_i t
   simp only[t] at s
   simp at F
   have L:An h (nid d+j)=none:=s j (Az3 _) (by omega) (by simp[A4])
   have A:=Step.newNone S (d:=nid d+j) (x:=F5 sz) L rfl
   have k:=Reps.ext A.ext hr
   rw[Ce] at k
   have z:Reps J (fun b=>if b=nid d+j then none else β b) (Ff h (nid d+j) (F5 sz)) w (c.set o (.own (nid d+j) 0 0)) cs:=by
    rw[Ce]
    refine⟨by rw[k.1];simp,fun i y u v G=>?_⟩
    by_cases hi:i=o
    ·subst hi
     have C:i<c.length:=(A0p.1 t).1
     rw[List.getElem?_set_self C] at v;simp at v;subst v
     have I:=k.2 i _ u t G
     rw[Rep] at I;subst I
     rw[Rep]
     exact⟨F5 sz,none,0,⟨by simp[Aj],rfl⟩,rfl,Az3 _,.inl rfl⟩
    ·rw[List.getElem?_set_ne (by omega)] at v
     exact k.2 i y u v G
   obtain⟨β',B,hB⟩:=Wh (d:=d) (l:=l) (j:=j+1) A.sim (by omega) (by omega) (fun i hi n q=>by
    have:=s i (by omega) n (by
     rw[A4]
     have:beq (nid d+j) (nid d+i)=false:=Q_ (by omega)
     rw[this];exact q)
    rw[Aj,if_neg (by omega)];exact this) z
   exact⟨β',by simp only[Am];exact A.trans B (fun _ _ _ _=>Az3 _),by simp only[Am];exact hB⟩
  ·rename_i t
   have e:F8 d ((o,sz)::l) j c=F8 d l (j+1) c:=by
    rw[F8]
    split
    ·rename_i D;exact absurd D (t ·)
    ·rfl
   simp at F
   split at s
   ·rename_i D;exact absurd D (t ·)
   ·exact Wh S (by omega) (by omega) (fun i hi n q=>s i (by omega) n q) hr
theorem Aig {t:TypeId} {co:Bool} {d:Nat} {v:AV} {vc:Value} {k:AV→Eo→O R} (S:SimH J β h w) (hh:Ano P t co d v k=some r) (e:Rep J β h w v vc) :
  ∃ val ups,k val ups=some r∧(UpsFree d h ups→OpDone J β h w ups val vc w):=by
 unfold Ano at hh
 split at hh
 ·rename_i c
  obtain⟨q,s⟩:=uc hh
  refine⟨_,_,s,fun u=>?_⟩
  rw[Rep] at e
  obtain⟨cs,rfl,hr⟩:=e
  obtain⟨β',A,hA⟩:=Wh (d:=d) (l:=Sb P t) (j:=1) S (Az3 _) (by simp at q;omega) (fun i hi z n=>u _ n (by unfold HY;simp;omega)) hr
  exact⟨J,β',A,by rw[Rep];exact⟨cs,rfl,hA⟩⟩
 ·exact⟨_,_,hh,fun _=>⟨J,β,Step.refl S,e⟩⟩
theorem lS {x:AV} {v:Value} (e:Rep J β h w x v) (t:LJ x=false) (n:RI x=true):LW (Rep J β h w) (cellsOf x) v.cells.toList:=by
 have one:v.cells=#[v]→cellsOf x=[x]→LW (Rep J β h w) (cellsOf x) v.cells.toList:=fun z k=>by
  rw[z,k]
  refine⟨rfl,fun j y u q s=>?_⟩
  cases j with
  | zero=>simp at q s;subst q s;exact e
  | succ j=>simp at q
 cases x
 case pagg=>simp[LJ] at t
 case agg c =>
  rw[Rep] at e
  obtain⟨cs,rfl,k⟩:=e
  rw[Ce] at k
  exact⟨k.1.symm,k.2⟩
 case tup c=>simp[RI] at n
 case undef=>simp[RI] at n
 case omap=>simp[RI] at n
 case own=>rw[Rep] at e;obtain⟨_,A,cap,_,rfl,_⟩:=e;exact one rfl rfl
 case optr=>rw[Rep] at e;obtain⟨_,kk,o,_,rfl,_⟩:=e;exact one rfl rfl
 case fn=>rw[Rep] at e;obtain⟨cs,rfl,_⟩:=e;exact one rfl rfl
 case imm=>rw[Rep,RepC] at e;obtain⟨_,A,cap,rfl,_⟩:=e;exact one rfl rfl
 case iptr=>rw[Rep,RepC] at e;obtain⟨a,rfl,_⟩:=e;exact one rfl rfl
 all_goals (rw[Rep] at e;subst e;exact one rfl rfl)
theorem xd {x:AV} {v:Value} (q:∀ k,J false k→J true k) (j:Rep J β h w x v) (hr:bA x=false) {o:Bool} (s:zL x=true→o=true):RepC (J o) w x v:=by
 cases x<;>simp[bA] at hr
 case imm c n sz t org =>
  rw[Rep] at j
  refine RepC.keep (J:=J org) (w:=w) (fun k e=>?_) (fun _ _=>rfl) j
  cases org
  ·cases o
   ·exact e
   ·exact q k e
  ·rw[s rfl];exact e
 case iptr c org =>
  rw[Rep] at j
  refine RepC.keep (J:=J org) (w:=w) (fun k e=>?_) (fun _ _=>rfl) j
  cases org
  ·cases o
   ·exact e
   ·exact q k e
  ·rw[s rfl];exact e
 all_goals (rw[Rep] at j;rw[RepC];exact j)
theorem zc {x:AV} {v:Value} (t:∀ k,J false k→J true k) (q:Rep J β h w x v) (hr:qN x=false) {o:Bool} (z:lH x=true→o=true):LW (RepC (J o) w) (cellsOf x) v.cells.toList:=by
 have one:bA x=false→cellsOf x=[x]→lH x=zL x→LW (RepC (J o) w) (cellsOf x) v.cells.toList:=fun I e A=>by
  have F:=xd (o:=o) t q I (by rw[←A];exact z)
  have B:v.cells=#[v]:=by have:=dv F;cases v<;>simp_all[Value.cells,Value.oneCell']
  rw[B,e]
  refine⟨rfl,fun j y u n s=>?_⟩
  cases j with
  | zero=>simp at n s;subst n s;exact F
  | succ j=>simp at n
 cases x
 case pagg c org =>
  rw[Rep] at q
  obtain⟨cs,rfl,B,e⟩:=q
  refine Wg (RepCs.keep (J:=J org) (w:=w) (fun k C=>?_) (fun _ _=>rfl) (fun j=>by simp[Value.cells]) e) (by simp[Value.cells,cellsOf,B])
  cases org
  ·cases o
   ·exact C
   ·exact t k C
  ·rw[z rfl];exact C
 case agg c =>
  rw[Rep] at q
  obtain⟨cs,rfl,e⟩:=q
  rw[Ce] at e
  refine⟨e.1.symm,fun j y u n s=>?_⟩
  simp only[qN,A44] at hr
  have G:y ∈ c:=A5v n
  have D:bA y=false:=by simpa using hr y G
  refine xd t (e.2 j y u n s) D (fun A=>z ?_)
  rw[lH,List.any_eq_true];exact⟨y,G,A⟩
 all_goals first | exact one hr rfl rfl | simp[qN,bA] at hr
theorem Anv {o:Bool} {x:AV} {v:Value} (hr:RepC (J o) w x v):Rep J β h w (Add o x) v:=by
 cases x
 case imm=>rw[Add,Rep];rw[RepC] at hr ⊢;exact hr
 case iptr=>rw[Add,Rep];rw[RepC] at hr ⊢;exact hr
 case fn f c =>
  cases c with
  | nil=>rw[RepC] at hr;subst hr;show Rep J β h w (.fn f []) _;rw[Rep];exact⟨[],by simp,by rw[Reps]⟩
  | cons a b=>simp[RepC] at hr
 all_goals first | (rw[RepC] at hr;unfold Add;rw[Rep];exact hr) | (simp[RepC] at hr)
theorem Aih {x:AV} {v:Value} (n:Rep J β h w x v) (z:RI x=true):LW (Rep J β h w) (qO x) v.cells.toList:=by
 cases q:LJ x with
 | false =>
  have:=lS n q z
  cases x<;>first | exact this | simp[LJ] at q
 | true =>
  cases x<;>simp[LJ] at q
  rename_i c o
  rw[Rep] at n
  obtain⟨cs,rfl,A,B⟩:=n
  refine⟨by simp[qO,Value.cells,A],fun j y u k t=>?_⟩
  simp only[qO,A3c] at k
  cases s:c[j]? with
  | none=>rw[s] at k;simp at k
  | some x0 =>
   rw[s] at k;simp at k;subst k
   obtain⟨C,e,hr⟩:=B.at s
   simp[Value.cells] at t
   rw[t] at e;simp at e;subst e
   exact Anv hr
theorem RU {CR:AV→Value→Prop}:∀ {ps:List (Nat×AV)} {vs:List (Nat×Value)},RepParts J β h w ps vs→(∀ p ∈ ps,∀ v,Rep J β h w p.2 v→LW CR (qO p.2) v.cells.toList)→PartsRel CR (J6 ps) vs
 | [],vs,hr,_=>by rw[RepParts] at hr;rw[J6,PartsRel];exact hr
 | (i,x)::r,vs,hr,j=>by
  rw[RepParts] at hr
  obtain⟨v,e,rfl,k,n⟩:=hr
  rw[J6,PartsRel]
  exact⟨v,e,rfl,j (i,x) (by simp) v k,RU n (fun p q=>j p (by simp[q]))⟩
theorem GO {CR:AV→Value→Prop}:∀ {ps:List (Nat×AV)} {vs:List (Nat×Value)},RepParts J β h w ps vs→(∀ p ∈ ps,∀ v,Rep J β h w p.2 v→LW CR (cellsOf p.2) v.cells.toList)→PartsRel CR (Fs ps) vs
 | [],vs,hr,_=>by rw[RepParts] at hr;rw[Fs,PartsRel];exact hr
 | (i,x)::r,vs,hr,j=>by
  rw[RepParts] at hr
  obtain⟨v,e,rfl,k,n⟩:=hr
  rw[Fs,PartsRel]
  exact⟨v,e,rfl,j (i,x) (by simp) v k,GO n (fun p q=>j p (by simp[q]))⟩
theorem q_ {t:TypeId} {place:Nat→Option (Nat×Nat)} {i:TypeInfo} {z:Value} {vs:List (Nat×Value)} {cs:Array Value} (j:d8 P t=some place) (hi:P.info? t=some i) (s:i.zero=some z)
  (u:Instr.fill place z.cells vs=some cs):P.built t vs=some cs:=by
 unfold d8 at j
 unfold Program.built
 split at j
 ·rename_i n e q
  cases k:P.info? e with
  | none=>simp[k] at j
  | some ie=>simp[k] at j;subst j;simp only[hi,q,s,k];exact u
 ·rename_i fs q
  cases k:fs.toList.mapM fun f=>(P.info? f.type).map fun i=>(f.offset,i.size) with
  | none=>rw[k] at j;simp at j
  | some pl =>
   rw[k] at j;simp at j;subst j
   simp only[hi,q,s,k]
   simpa using u
 ·simp at j
theorem zd {t:TypeId} {ps:List (Nat×AV)} {vs:List (Nat×Value)} {v:AV} (S:SimH J β h w) (hh:zM P t ps=some v) (X:RepParts J β h w ps vs) :
  ∃ u,(Instr.build t vs.toArray).run P w=.ok u w∧Rep J β h w v u:=by
 unfold zM at hh
 obtain⟨place,C,h1⟩:=ub hh
 obtain⟨T,D⟩:=uc h1
 cases F:ps.any (fun p=>LJ p.2) with
 | true =>
  rw[F] at D
  cases G:ps.any (fun p=>qN p.2) with
  | true =>
   rw[G] at D
   obtain⟨zz,k,q⟩:=ub D
   unfold xS at k
   obtain⟨i,hi,k⟩:=ub k
   cases n:i.zero with
   | none=>rw[n] at k;simp at k
   | some z =>
    rw[n] at k;simp at k;subst k
    cases s:O5 place (J6 ps) (L9 z.cells.toList) with
    | none=>rw[s] at q;simp at q
    | some c =>
     rw[s] at q;simp at q;subst q
     have e:PartsRel (Rep J β h w) (J6 ps) vs:=RU X (fun p I u L=>Aih L (A05.1 T p I))
     have A:LW (Rep J β h w) (L9 z.cells.toList) z.cells.toList:=by
      have:=V' (J:=J) (β:=β) (h:=h) (w:=w) z.cells.toList
      rw[Ce] at this
      exact⟨this.1.symm,this.2⟩
     obtain⟨cs,U,B⟩:=H' e A s
     refine⟨.agg cs,run_build w t vs.toArray cs (q_ C hi n (by simpa using U)),?_⟩
     rw[Rep]
     exact⟨cs.toList,rfl,Ce.2 ⟨B.1.symm,B.2⟩⟩
  | false =>
  rw[G] at D
  have h3:=D
  obtain⟨zz,k,q⟩:=ub h3
  obtain⟨i,z,hi,n,rfl,hp,e1,e2⟩:=U6 k
  cases s:O5 place (Fs ps) (L9 z.cells.toList) with
  | none=>rw[s] at q;simp at q
  | some c =>
   rw[s] at q;simp at q;subst q
   have e:PartsRel (RepC (J (ps.any fun p=>lH p.2)) w) (Fs ps) vs:=GO X (fun p I u L=>zc S.jft L (by
     have:=A44.1 G p I;simpa using this) (fun ho=>by rw[List.any_eq_true];exact⟨p,I,ho⟩))
   have A:LW (RepC (J (ps.any fun p=>lH p.2)) w) (L9 z.cells.toList) z.cells.toList:=by
    refine⟨EJ _,fun j x u hx L=>?_⟩
    obtain⟨y,Y,g2⟩:=bF (w:=w) (J:=J (ps.any fun p=>lH p.2)) hp j u L
    rw[hx] at Y;simp at Y;subst Y;exact g2
   obtain⟨cs,U,B⟩:=H' e A s
   refine⟨.agg cs,run_build w t vs.toArray cs (q_ C hi n (by simpa using U)),?_⟩
   rw[Rep]
   exact⟨cs.toList,rfl,B.1.symm,YT B⟩
 | false =>
  rw[F] at D
  obtain⟨zz,k,q⟩:=ub D
  unfold xS at k
  obtain⟨i,hi,k⟩:=ub k
  cases n:i.zero with
  | none=>rw[n] at k;simp at k
  | some z =>
   rw[n] at k;simp at k;subst k
   cases s:O5 place (Fs ps) (L9 z.cells.toList) with
   | none=>rw[s] at q;simp at q
   | some c =>
    rw[s] at q;simp at q;subst q
    have e:PartsRel (Rep J β h w) (Fs ps) vs:=GO X (fun p I u L=>lS L (by
      have:=A44.1 F p I;simpa using this) (A05.1 T p I))
    have A:LW (Rep J β h w) (L9 z.cells.toList) z.cells.toList:=by
     have:=V' (J:=J) (β:=β) (h:=h) (w:=w) z.cells.toList
     rw[Ce] at this
     exact⟨this.1.symm,this.2⟩
    obtain⟨cs,U,B⟩:=H' e A s
    refine⟨.agg cs,run_build w t vs.toArray cs (q_ C hi n (by simpa using U)),?_⟩
    rw[Rep]
    exact⟨cs.toList,rfl,Ce.2 ⟨B.1.symm,B.2⟩⟩
end
end Gx
namespace Gx
open Go
section
variable {R:Type} {r:R} {P:Program} {J:Bool→Nat→Prop} {β:Cd} {h:Az} {w:World}
def PRd (n:Nat) (x:LA) (rd:Nat→Option Value):Prop:=∀ j q,j<n→x[j]?=some q →
 (∀ k m,q=.int k m→rd j=some (.int k m))∧(∀ b,q=.bool b→rd j=some (.bool b))∧(∀ s,q=.str s→rd j=some (.string ⟨⟨s⟩⟩))
theorem PRd.drop {n m o:Nat} {x:LA} {xs:Array Value} {ox sz:Nat} (z:PRd sz x (fun j=>xs[ox+j]?)) (D:o+m≤sz) (hn:n=m):PRd n (x.drop o) (fun j=>(xs.extract ox (ox+sz))[o+j]?):=by
 subst hn
 intro j q F hq
 rw[A1t] at hq
 have t:=z (o+j) q (by omega) hq
 have e:∀ v,xs[ox+(o+j)]?=some v→(xs.extract ox (ox+sz))[o+j]?=some v:=by
  intro v u
  have A:=(A17.1 u).1
  rw[Array.getElem?_extract,if_pos (by omega)];exact u
 exact⟨fun k m B=>e _ (t.1 k m B),fun b C=>e _ (t.2.1 b C),fun s hs=>e _ (t.2.2 s hs)⟩
theorem A_ {t:TypeId} {d:TypeDesc} {xs:Array Value} {ox:Nat} {v:Value} (e:P.underlying t=some d) (j:d.isRow=false) (k:xs[ox]?=some v):(part t xs ox).run P w=.ok v w:=by
 unfold part isAgg
 simp only[Sem.run_bind,run_underlying e,Result.andThen_ok]
 cases d<;>simp_all[TypeDesc.isRow]
theorem IB {t:TypeId} {d:TypeDesc} {xs:Array Value} {ox s:Nat} (e:P.underlying t=some d) (j:d.isRow=true) (hs:Bi P t=some s):(part t xs ox).run P w=.ok (.agg (xs.extract ox (ox+s))) w:=by
 unfold part isAgg
 have:=Cm hs w
 simp only[Sem.run_bind,run_underlying e,Result.andThen_ok]
 cases d<;>simp_all[TypeDesc.isRow]
def Aii (P:Program) (w:World) (D:Nat) (step:TypeId→LA→LA→(Bool→O R)→O R):Prop :=
 ∀ (r:R) (t:TypeId) (s:Nat) (x y:LA) (k:Bool→O R) (xs ys:Array Value) (ox oy:Nat),Bi P t=some s→0<s→step t x y k=some r→PRd s x (fun j=>xs[ox+j]?)→PRd s y (fun j=>ys[oy+j]?) →
  ∃ b a a',k b=some r∧(part t xs ox).run P w=.ok a w∧(part t ys oy).run P w=.ok a' w∧(Op.equalIn D t a a').run P w=.ok b w
theorem PG {D:Nat} {step:TypeId→LA→LA→(Bool→O R)→O R} (hs:Aii P w D step) {x y:LA} {xs ys:Array Value} {ox oy sz:Nat} (u:PRd sz x (fun j=>xs[ox+j]?)) (v:PRd sz y (fun j=>ys[oy+j]?)) :
  ∀ (fs:List Field) {k:Bool→O R},fs.all (zI P sz)=true→HT step x y (fs.map fun f=>(f.offset,f.type)) k=some r →
  ∃ b,k b=some r∧(Op.eqFields D (xs.extract ox (ox+sz)) (ys.extract oy (oy+sz)) fs).run P w=.ok b w
 | [],k,_,hh=>⟨true,by simpa[HT] using hh,by simp[Op.eqFields]⟩
 | f::fs,k,t,hh=>by
  rw[A1d,A0a] at t
  obtain⟨q,t⟩:=t
  unfold zI at q
  cases e:Bi P f.type with
  | none=>rw[e] at q;simp at q
  | some s =>
   rw[e] at q
   simp only[A0a,A58] at q
   obtain⟨L,z,A⟩:=q
   have n : f.name ≠ "_" := by simpa using A
   rw[A0n,HT] at hh
   obtain⟨b,a,S,B,C,F,G⟩:=hs r f.type s _ _ _ (xs.extract ox (ox+sz)) (ys.extract oy (oy+sz)) f.offset f.offset e (by omega) hh (u.drop z rfl) (v.drop z rfl)
   obtain⟨c,e1,I⟩:=PG hs u v fs t B
   refine⟨b&&c,e1,?_⟩
   rw[Op.eqFields,if_pos n]
   simp only[Sem.run_bind,C,F,G,Result.andThen_ok]
   cases b with
   | false=>simp
   | true=>simpa using I
theorem RV {D:Nat} {step:TypeId→LA→LA→(Bool→O R)→O R} (hs:Aii P w D step) {x y:LA} {xs ys:Array Value} {ox oy sz:Nat} {e:TypeId} {s:Nat} (n:Bi P e=some s) (q:0<s) (t:PRd sz x (fun j=>xs[ox+j]?)) (u:PRd sz y (fun j=>ys[oy+j]?)) :
  ∀ (is:List Nat) {k:Bool→O R},(∀ i ∈ is,i*s+s≤sz)→HT step x y (is.map fun i=>(i*s,e)) k=some r →
  ∃ b,k b=some r∧(Op.eqItems D e s (xs.extract ox (ox+sz)) (ys.extract oy (oy+sz)) is).run P w=.ok b w
 | [],k,_,hh=>⟨true,by simpa[HT] using hh,by simp[Op.eqItems]⟩
 | i::is,k,v,hh=>by
  have z:=v i (by simp)
  rw[A0n,HT] at hh
  obtain⟨b,a,L,A,B,C,F⟩:=hs r e s _ _ _ (xs.extract ox (ox+sz)) (ys.extract oy (oy+sz)) (i*s) (i*s) n q hh (t.drop z rfl) (u.drop z rfl)
  obtain⟨c,e1,G⟩:=RV hs n q t u is (fun j I=>v j (by simp[I])) A
  refine⟨b&&c,e1,?_⟩
  rw[Op.eqItems]
  simp only[Sem.run_bind,B,C,F,Result.andThen_ok]
  cases b with
  | false=>simp
  | true=>simpa using G
theorem bH:∀ (d D:Nat),d≤D→Aii P w D (nv (R:=R) P d)
 | 0,D,_=>fun r t s x y k xs ys ox oy hs q hh=>by simp[nv] at hh
 | d+1,D,hD=>fun r t s x y k xs ys ox oy hs q hh T U=>by
  obtain⟨D,rfl⟩:∃ D',D=D'+1:=⟨D - 1,by omega⟩
  rw[nv] at hh
  split at hh
  ·rename_i S j
   obtain⟨u,A,hh⟩:=ub hh
   obtain⟨a,C,hh⟩:=ub hh
   obtain⟨v,B,hh⟩:=ub hh
   obtain⟨b,F,hh⟩:=ub hh
   have V:u=.int S a:=by
    unfold YL at C;split at C
    ·obtain⟨X,Y⟩:=uc C;simp[Qv] at X Y;subst X Y;rfl
    ·simp at C
   have eb:v=.int S b:=by
    unfold YL at F;split at F
    ·obtain⟨X,hb'⟩:=uc F;simp[Qv] at X hb';subst X hb';rfl
    ·simp at F
   have px:=(T 0 u q (by rw[←A1a];exact A)).1 S a V
   have py:=(U 0 v q (by rw[←A1a];exact B)).1 S b eb
   exact⟨_,_,_,hh,A_ j rfl (by simpa using px),A_ j rfl (by simpa using py),run_equalIn_int w D t S S a b j⟩
  ·rename_i j
   obtain⟨u,A,hh⟩:=ub hh
   obtain⟨a,C,hh⟩:=ub hh
   obtain⟨v,B,hh⟩:=ub hh
   obtain⟨b,F,hh⟩:=ub hh
   have V:u=.bool a:=by unfold asBool at C;split at C<;>simp_all
   have eb:v=.bool b:=by unfold asBool at F;split at F<;>simp_all
   have px:=(T 0 u q (by rw[←A1a];exact A)).2.1 a V
   have py:=(U 0 v q (by rw[←A1a];exact B)).2.1 b eb
   exact⟨_,_,_,hh,A_ j rfl (by simpa using px),A_ j rfl (by simpa using py),run_equalIn_bool' w D t a b j⟩
  ·rename_i j
   obtain⟨u,A,hh⟩:=ub hh
   obtain⟨a,C,hh⟩:=ub hh
   obtain⟨v,B,hh⟩:=ub hh
   obtain⟨b,F,hh⟩:=ub hh
   have V:u=.str a:=by unfold lF at C;split at C<;>simp_all
   have eb:v=.str b:=by unfold lF at F;split at F<;>simp_all
   have px:=(T 0 u q (by rw[←A1a];exact A)).2.2 a V
   have py:=(U 0 v q (by rw[←A1a];exact B)).2.2 b eb
   refine⟨_,_,_,hh,A_ j rfl (by simpa using px),A_ j rfl (by simpa using py),?_⟩
   have:=run_equalIn_string w D t ⟨⟨a⟩⟩ ⟨⟨b⟩⟩ j
   rw[this]
   simp[ByteArray.toList_eq]
  ·rename_i fs j
   obtain⟨sz,z,hh⟩:=ub hh
   obtain⟨hc,I⟩:=Aib hh
   simp only[Bool.or_eq_false_iff,Bool.not_eq_false'] at hc
   rw[hs] at z;simp at z;subst z
   obtain⟨b,h1,h2⟩:=PG (bH d D (by omega)) T U fs.toList hc.2 I
   refine⟨b,_,_,h1,IB j rfl hs,IB j rfl hs,?_⟩
   have hfo:P.fieldsOf t=fs:=by simp[Program.fieldsOf,j]
   rw[run_equalIn_struct w D t _ _ (by rw[hfo];exact j) hc.1,hfo]
   exact h2
  ·rename_i n e j
   obtain⟨s',G,hh⟩:=ub hh
   obtain⟨sz,z,hh⟩:=ub hh
   obtain⟨hc,I⟩:=uc hh
   simp only[A0a,A58] at hc
   rw[hs] at z;simp at z;subst z
   obtain⟨b,h1,h2⟩:=RV (bH d D (by omega)) G (by omega) T U (List.range n) (fun i hi=>by
    have:=List.mem_range.1 hi
    have h3:(i+1)*s'≤n*s':=Az9 _ this
    rw[A5i] at h3;omega) I
   refine⟨b,_,_,h1,IB j rfl hs,IB j rfl hs,?_⟩
   cases hi:P.info? e with
   | none=>simp[Bi,hi] at G
   | some i =>
    have L:P.cellsOf e=s':=by simp[Bi,hi] at G;simp[Program.cellsOf,hi,G]
    rw[run_equalIn_array w D _ _ j hi,L]
    exact h2
  ·simp at hh
theorem Ado {c:LA} {org:Bool} {v:Value} {a:LA} {x:AV} (z:zJ x=some a) (hr:Rep J β h w x v):∃ cs:List Value,v=.agg ⟨cs⟩∧cs.length=a.length∧∀ n,PRd n a (fun j=>(⟨cs⟩:Array Value)[0+j]?):=by
 unfold zJ at z
 split at z
 ·simp at z;subst z
  rw[Rep] at hr
  obtain⟨cs,C,A,G⟩:=hr
  refine⟨cs,C,A,fun n j q _ hq=>?_⟩
  rw[Bv] at G
  obtain⟨u,B,e⟩:=G j q hq
  simp only[A0g] at B ⊢
  refine⟨fun k m D=>?_,fun b F=>?_,fun s hs=>?_⟩
  ·subst D;rw[RepC] at e;subst e;simpa using B
  ·subst F;rw[RepC] at e;subst e;simpa using B
  ·subst hs;rw[RepC] at e;subst e;simpa using B
 ·simp at z;subst z
  rw[Rep] at hr
  obtain⟨cs,C,A⟩:=hr
  rw[Ce] at A
  refine⟨cs,C,A.1,fun n j q _ hq=>?_⟩
  have t:j<cs.length:=by rw[A.1];exact(A0p.1 hq).1
  have e:=A.2 j q cs[j] hq (Az6 t)
  simp only[A0g]
  refine⟨fun k m D=>?_,fun b F=>?_,fun s hs=>?_⟩
  ·subst D;rw[Rep] at e;simp[t,e]
  ·subst F;rw[Rep] at e;simp[t,e]
  ·subst hs;rw[Rep] at e;simp[t,e]
 ·simp at z
theorem Adp {op:BinOp} {t:TypeId} {x y:AV} {k:AV→O R} {vx vy:Value} (hh:xQ P t op x y k=some r) (C:Rep J β h w x vx) (D:Rep J β h w y vy) (ox oy:Operand) :
  ∃ v vc,k v=some r∧(do eqGuard op t ox oy vx vy;binOp op t vx vy:Sem Value).run P w=.ok vc w∧Rep J β h w v vc:=by
 unfold xQ at hh
 split at hh
 ·rename_i a b U V
  obtain⟨s,hs,hh⟩:=ub hh
  obtain⟨F,hh⟩:=uc hh
  simp only[A0a,A58,A3a] at F
  obtain⟨h1,G,I,q,X⟩:=F
  have G:=A0j G
  have I:=A0j I
  obtain⟨cs,rfl,L,px⟩:=Ado (c:=[]) (org:=false) U C
  obtain⟨j,rfl,Y,py⟩:=Ado (c:=[]) (org:=false) V D
  have S:=run_eqGuard_agg w op t ox oy ⟨cs⟩ ⟨j⟩ X
  have whole:∀ (l:List Value),l.length=s→(⟨l⟩:Array Value).extract 0 (0+s)=⟨l⟩:=by
   intro l L;subst L;simp
  have key:∀ {kk:Bool→O R},nv P 8 t a b kk=some r→∃ c,kk c=some r∧(Op.equal t (.agg ⟨cs⟩) (.agg ⟨j⟩)).run P w=.ok c w:=by
   intro kk hk
   obtain⟨c,u,u',e1,z,e3,e4⟩:=bH 8 10000 (by omega) r t s a b kk ⟨cs⟩ ⟨j⟩ 0 0 hs (by omega) hk (px s) (py s)
   refine⟨c,e1,?_⟩
   have B:∃ d,P.underlying t=some d∧d.isRow=true:=by
    unfold Aq2 at q
    split at q
    ·rename_i fs A;exact⟨_,A,rfl⟩
    ·rename_i n e A;exact⟨_,A,rfl⟩
    ·simp at q
   obtain⟨d,A,T⟩:=B
   rw[IB A T hs,whole cs (by omega)] at z
   rw[IB A T hs,whole j (by omega)] at e3
   simp only[Result.ok.injEq,and_true] at z e3
   subst z e3
   exact e4
  split at hh
  ·obtain⟨c,e1,z⟩:=key hh
   refine⟨_,.bool c,e1,?_,by rw[Rep]⟩
   simp only[Sem.run_bind,S,Result.andThen_ok,binOp,z,Sem.run_pure]
  ·obtain⟨c,e1,z⟩:=key hh
   refine⟨_,.bool (!c),e1,?_,by rw[Rep]⟩
   simp only[Sem.run_bind,S,Result.andThen_ok,binOp,z,Sem.run_pure]
  ·simp at hh
 ·exact Aia hh C D ox oy
theorem Adq {t:TypeId} {x y:AV} {b:Bool} {vx vy:Value} {g:A7} (S:SimH J β h w) (V:Looks g h) (j:Aq7 g x y=some b) (B:Ah7 P t=true) (s:Rep J β h w x vx) (u:Rep J β h w y vy) :
  ∃ p q,vx=.pointer p∧vy=.pointer q∧(Op.equal t (.pointer p) (.pointer q)).run P w=.ok b w:=by
 unfold Ah7 at B
 split at B
 ·rename_i e C
  split at B
  ·rename_i n hn
   have G:n≠0:=fun e=>by subst e;simp at B
   have C:=run_underlying (w:=w) C
   have hs:(Go.sizeOf e).run P w=.ok n w:=Cm hn w
   have nn:∀ q:Option Addr,(Op.equal t (.pointer none) (.pointer q)).run P w=.ok q.isNone w:=fun q=>by
    unfold Op.equal Op.maxDepth Op.equalIn;simp[C]
   have D:∀ a:Addr,(Op.equal t (.pointer (some a)) (.pointer none)).run P w=.ok false w:=fun q=>by
    unfold Op.equal Op.maxDepth Op.equalIn;simp[C]
   unfold Aq7 at j
   split at j
   ·simp only[Rep] at s u;subst s u;simp at j;subst j;exact⟨_,_,rfl,rfl,nn none⟩
   ·simp only[Rep] at s u;obtain⟨_,k,o,_,rfl,_⟩:=u;subst s;simp at j;subst j;exact⟨_,_,rfl,rfl,nn (some _)⟩
   ·simp only[Rep] at s u;obtain⟨_,k,o,_,rfl,_⟩:=s;subst u;simp at j;subst j;exact⟨_,_,rfl,rfl,D _⟩
   ·simp only[Rep] at s u;rw[RepC] at u;obtain⟨a,rfl,_⟩:=u;subst s;simp at j;subst j;exact⟨_,_,rfl,rfl,nn (some _)⟩
   ·simp only[Rep] at s u;rw[RepC] at s;obtain⟨a,rfl,_⟩:=s;subst u;simp at j;subst j;exact⟨_,_,rfl,rfl,D _⟩
   ·rename_i b1 o1 Y o2
    obtain⟨z,X,j⟩:=ub j
    obtain⟨I,j⟩:=uc j
    have I:=A0j I
    subst I
    obtain⟨L,v⟩:=Dg V X
    rw[Rep] at s u
    obtain⟨x1,k1,p1,⟨T,_⟩,rfl,F⟩:=s
    obtain⟨x2,k2,p2,⟨U,_⟩,rfl,A⟩:=u
    rw[L] at T U;simp at T U;subst T U
    rcases F with F | F
    ·rw[F] at v;cases v
    ·rcases A with A | A
     ·rw[A] at v;cases v
     ·rw[F] at A;simp at A;obtain⟨rfl,rfl⟩:=A
      refine⟨_,_,rfl,rfl,?_⟩
      simp at j
      unfold Op.equal Op.maxDepth Op.equalIn
      simp[C,hs,G,sameAddr]
      by_cases e:o1=o2
      ·subst e;simp at j;simp[j]
      ·rw[Q_ e] at j;subst j;simp;exact e
   ·cases j
  ·cases B
 ·cases B
theorem Adr {g:A7} {op:BinOp} {t:TypeId} {x y:AV} {k:AV→O R} {vx vy:Value} (S:SimH J β h w) (s:Looks g h) (hh:xY P g t op x y k=some r) (e:Rep J β h w x vx) (j:Rep J β h w y vy) (ox oy:Operand) :
  ∃ v vc,k v=some r∧(do eqGuard op t ox oy vx vy;binOp op t vx vy:Sem Value).run P w=.ok vc w∧Rep J β h w v vc:=by
 unfold xY at hh
 split at hh
 ·rename_i b u
  obtain⟨z,hh⟩:=uc hh
  obtain⟨p,q,rfl,rfl,n⟩:=Adq S s u z e j
  split at hh
  ·refine⟨_,.bool b,hh,?_,by rw[Rep]⟩
   simp[eqGuard,binOp,n]
  ·refine⟨_,.bool (!b),hh,?_,by rw[Rep]⟩
   simp[eqGuard,binOp,n]
  ·cases hh
 ·exact Adp hh e j ox oy
end
end Gx
namespace Gx
open Go Go.MapKept
section
variable {R:Type} {r:R} {P:Program} {J:Bool→Nat→Prop} {β:Cd} {h:Az} {w:World} {g:A7}
theorem jM:∀ (l:List Int) (n:Int),qP (l.map fun m=>.int .i64 m) n=true↔n ∈ l
 | [],n=>by simp[qP]
 | m::r,n=>by
  rw[A0n,qP]
  by_cases e:n=m
  ·simp[e]
  ·simp[e,jM r n]
theorem Ads {c:LA} {es:Array MapEntry} {l:List Int} (k:es.toList.map (fun e=>(e.key,e.val))=l.map (fun n=>((.int .i64 n:Value),(.bool true:Value)))) {x:MapEntry} (q:x ∈ es.toList):∃ n,n ∈ l∧x.key=.int .i64 n∧x.val=.bool true:=by
 have:=A2r (f:=fun e:MapEntry=>(e.key,e.val)) q
 rw[k] at this
 obtain⟨n,hn,j⟩:=A04.1 this
 simp at j
 exact⟨n,hn,j.1.symm,j.2.symm⟩
theorem Arg {es:Array MapEntry} {l:List Int} (k:es.toList.map (fun e=>(e.key,e.val))=l.map (fun n=>((.int .i64 n:Value),(.bool true:Value)))) {n:Int} (hn:n ∈ l):∃ x ∈ es.toList,x.key=.int .i64 n:=by
 have:=A2r (f:=fun n:Int=>((.int .i64 n:Value),(.bool true:Value))) hn
 rw[←k] at this
 obtain⟨x,q,j⟩:=A04.1 this
 simp at j
 exact⟨x,q,j.1⟩
theorem Adt {c:LA} {es:Array MapEntry} (F:Awb c es) (n:Int) :
  (qP c n=false∧Instr.findNow (.int .i64) (.int .i64 n) es.toList 0=some none) ∨
  (qP c n=true∧∃ j e,Instr.findNow (.int .i64) (.int .i64 n) es.toList 0=some (some (j,.bool true))∧es[j]?=some e∧e.key=.int .i64 n∧e.val=.bool true):=by
 obtain⟨l,rfl,z⟩:=F
 have A:∀ x ∈ es.toList,IsKey (.int .i64) x.key:=fun x B=>by
  obtain⟨m,_,s,_⟩:=Ads (c:=[]) z B
  rw[s];simp[IsKey]
 rcases findNow_spec (d:=.int .i64) (k:=.int .i64 n) (by simp[IsKey]) es.toList 0 A with⟨s,v⟩ | ⟨j,e,s,v,D⟩
 ·left
  refine⟨?_,s⟩
  cases G:qP (l.map fun m=>.int .i64 m) n with
  | false=>rfl
  | true =>
   obtain⟨x,B,I⟩:=Arg z ((jM l n).1 G)
   exact absurd I (v x B)
 ·right
  have t:e ∈ es.toList:=A5v v
  obtain⟨m,C,q,u⟩:=Ads (c:=[]) z t
  rw[D] at q;simp at q;subst q
  refine⟨(jM l n).2 C,j,e,?_,by simpa using v,D,u⟩
  rw[s,u,A0g]
theorem qa {t:TypeId} (hs:zP P t=true):∃ kt et,P.underlying t=some (.map kt et)∧P.underlying kt=some (.int .i64)∧∀ w,(zeroValue et).run P w=.ok (.bool false) w:=by
 unfold zP at hs
 split at hs
 ·rename_i kt et s
  simp only[A0a] at hs
  obtain⟨k,n⟩:=hs
  refine⟨kt,et,s,?_,fun w=>?_⟩
  ·split at k
   ·assumption
   ·cases k
  ·split at n
   ·rename_i e
    unfold qK at e
    cases hi:P.info? et with
    | none=>rw[hi] at e;simp at e
    | some i =>
     rw[hi] at e
     cases j:i.zero with
     | none=>simp[j] at e
     | some z =>
      simp[j] at e
      have:z=.bool false:=by
       have q:=LO (J:=fun _ _=>False) (β:=fun _=>none) (h:=[]) (w:=w) z
       rw[e,Rep] at q;exact q
      subst this
      simp[zeroValue,typeInfo,hi,j]
   ·cases n
 ·cases hs
theorem Arh {b:Nat} {x:Blk} {v:Value} (S:SimH J β h w) (n:An h b=some x) (q:x.dead=false) (hr:Rep J β h w (.omap b) v) :
  ∃ k ob,x.mp=true∧β b=some (k,0)∧v=Axj x.sz k∧w.heap[k]?=some ob∧ObjIs x ob∧x.sealed=false∧x.pure=true:=by
 rw[Rep] at hr
 obtain⟨y,k,⟨e,s⟩,hr⟩:=hr
 rw[n] at e;simp at e;subst e
 rcases hr with hr | ⟨t,u⟩
 ·simp[q] at hr
 ·obtain⟨z,A,D,ob,j,B,C,_⟩:=S.mblk b x n q s
  rw[t] at j;simp at j;subst j
  exact⟨k,ob,s,t,u,B,C,A,z⟩
theorem Al4 {b:Nat} {x:Blk} {v:Value} (S:SimH J β h w) (n:An h b=some x) (q:x.dead=false) (s:x.sz=0) (hr:Rep J β h w (.omap b) v) :
  ∃ k es clk,x.mp=true∧β b=some (k,0)∧v=.map (some k)∧w.heap[k]?=some (.map es clk)∧Awb x.cells es∧x.sealed=false∧x.pure=true:=by
 obtain⟨k,ob,t,u,j,z,e,A,B⟩:=Arh S n q hr
 rw[s] at j
 rcases e with⟨_,es,clk,rfl,e⟩ | ⟨e,_⟩
 ·exact⟨k,es,clk,t,u,j,z,e,A,B⟩
 ·omega
theorem At9 {b:Nat} {x:Blk} {v:Value} (S:SimH J β h w) (n:An h b=some x) (q:x.dead=false) (t:x.sz=1) (hr:Rep J β h w (.omap b) v) :
  ∃ k s pos,x.mp=true∧β b=some (k,0)∧v=.pointer (some ⟨k,0,none⟩)∧w.heap[k]?=some (.stringIter ⟨⟨s⟩⟩ pos)∧x.cells=[.str s,.int .i64 (pos:Int)]∧x.sealed=false∧x.pure=true:=by
 obtain⟨k,ob,u,z,j,A,e,B,C⟩:=Arh S n q hr
 rw[t] at j
 rcases e with⟨e,_⟩ | ⟨_,s,pos,rfl,e⟩
 ·omega
 ·exact⟨k,s,pos,u,z,j,A,e,B,C⟩
theorem PH {k pos:Nat} {s:ByteArray} (e:w.heap[k]?=some (.stringIter s pos)):(getObj k).run P w=.ok (.stringIter s pos) w:=by
 simp[getObj,Sem.run,e]
theorem nw {k pos:Nat} {s:ByteArray} (ob:Obj) (e:w.heap[k]?=some (.stringIter s pos)):(setObj k ob).run P w=.ok () { w with heap:=w.heap.setIfInBounds k ob }:=by
 simp[setObj,Sem.run,e]
theorem ze {d:Nat} {t:TypeId} {x:AV} {vx:Value} {k:AV→Eo→O R} (S:SimH J β h w) (hh:jD P d t x k=some r) (e:Rep J β h w x vx) :
  ∃ val ups,k val ups=some r∧(UpsFree d h ups→∃ vc w',(Instr.range t vx).run P w=.ok vc w'∧OpDone J β h w ups val vc w'):=by
 unfold jD at hh
 split at hh
 ·rename_i s j
  rw[Rep] at e;subst e
  refine⟨_,_,hh,fun n=>⟨.pointer (some ⟨w.heap.size,0,none⟩),w.alloc (.stringIter ⟨⟨s⟩⟩ 0),?_,?_⟩⟩
  ·simp only[Instr.range,Sem.run_bind,run_underlying j,Result.andThen_ok,Sem.run_pure];rfl
  have A:=Step.newObj (x:={ dead:=false,sealed:=false,pure:=true,taint:=false,sz:=1,cells:=[.str s,.int .i64 0],mp:=true }) (ob:=.stringIter ⟨⟨s⟩⟩ 0) S (n.nid (by simp[A4])) rfl rfl rfl (.inr ⟨rfl,s,0,rfl,rfl⟩) rfl
  refine⟨_,_,A,?_⟩
  rw[Rep]
  exact⟨{ dead:=false,sealed:=false,pure:=true,taint:=false,sz:=1,cells:=[.str s,.int .i64 0],mp:=true },w.heap.size,⟨by simp[Am,Aj],rfl⟩,.inr ⟨by simp,rfl⟩⟩
 ·simp at hh
theorem Adu {d:Nat} {t:TypeId} {it:AV} {b:Bool} {vi:Value} {k:AV→Eo→O R} (S:SimH J β h w) (L:Looks g h) (hh:xX g it b k=some r) (hi:Rep J β h w it vi) :
  ∃ val ups,k val ups=some r∧(UpsFree d h ups→∃ vc w',(Instr.next vi b t).run P w=.ok vc w'∧OpDone J β h w ups val vc w'):=by
 unfold xX at hh
 split at hh
 ·rename_i T
  obtain⟨x,U,V⟩:=ub hh
  obtain⟨G,q⟩:=uc V
  simp only[A0a] at G
  obtain⟨u,z⟩:=G
  have z:=A0j z
  obtain⟨I,A⟩:=Dg L U
  obtain⟨kk,s,pos,_,X,rfl,v,B,C,D⟩:=At9 S I A z hi
  rw[B] at q
  simp only at q
  have F:=LQ v
  cases e:decide ((pos:Int)<(s.length:Int)) with
  | true =>
   rw[e] at q
   have e:pos<s.length:=by have:=of_decide_eq_true e;omega
   have n:pos<(⟨⟨s⟩⟩:ByteArray).size:=e
   refine⟨_,_,q,fun _=>⟨.tuple #[.bool true,goInt pos,.int .i32 ((Sd s pos).1:Nat)],{ w with heap:=w.heap.setIfInBounds kk (.stringIter ⟨⟨s⟩⟩ (pos+(Sd s pos).2)) },?_,J,β,?_,?_⟩⟩
   ·simp[Instr.next,PH v,n,nw _ v,Sd]
   ·show Step J β h w J β (Ff h T _) _
    refine Step.setObj (ob:=.stringIter ⟨⟨s⟩⟩ pos) S I A u X v (by simp[F]) (fun j Y=>by simp[A4n,Ne.symm Y]) (by simp) rfl rfl rfl (.inr ⟨z,s,pos+(Sd s pos).2,rfl,by simp⟩) A C D rfl u
   ·rw[Rep]
    refine⟨_,rfl,?_⟩
    simp[Reps,Rep,goInt]
  | false =>
   rw[e] at q
   have e:¬ pos<s.length:=by have:=of_decide_eq_false e;omega
   have n:¬ pos<(⟨⟨s⟩⟩:ByteArray).size:=e
   refine⟨_,_,q,fun _=>⟨.tuple #[.bool false],w,?_,J,β,Step.refl S,?_⟩⟩
   ·simp[Instr.next,PH v,n]
   ·rw[Rep]
    refine⟨_,rfl,?_⟩
    simp[Reps,Rep]
 ·simp at hh
theorem qb {d:Nat} {t:TypeId} {k:AV→Eo→O R} (S:SimH J β h w) (hh:BR d none k=some r) :
  ∃ val ups,k val ups=some r∧(UpsFree d h ups→∃ vc w',(Instr.makeMap t none).run P w=.ok vc w'∧OpDone J β h w ups val vc w'):=by
 unfold BR at hh
 refine⟨_,_,hh,fun e=>⟨.map (some w.heap.size),w.alloc (.map #[] 0),rfl,?_⟩⟩
 have A:=Step.newObj (x:={ dead:=false,sealed:=false,pure:=true,taint:=false,sz:=0,cells:=[],mp:=true }) (ob:=.map #[] 0) S (e.nid (by simp[A4])) rfl rfl rfl (.inl ⟨rfl,#[],0,rfl,[],rfl,by simp⟩) rfl
 refine⟨_,_,A,?_⟩
 rw[Rep]
 exact⟨{ dead:=false,sealed:=false,pure:=true,taint:=false,sz:=0,cells:=[],mp:=true },w.heap.size,⟨by simp[Am,Aj],rfl⟩,.inr ⟨by simp,rfl⟩⟩
theorem Adv {t:TypeId} {m key:AV} {c:Bool} {vm vk:Value} {k:AV→O R} (S:SimH J β h w) (C:Looks g h) (hh:xW P g t m key c k=some r) (D:Rep J β h w m vm) (s:Rep J β h w key vk) :
  ∃ v vc,k v=some r∧(Instr.lookup t vm vk c).run P w=.ok vc w∧Rep J β h w v vc:=by
 unfold xW at hh
 split at hh
 ·rename_i b n
  obtain⟨hs,F⟩:=uc hh
  obtain⟨x,G,I⟩:=ub F
  obtain⟨q,L⟩:=uc I
  simp only[A0a] at q
  obtain⟨q,z⟩:=q
  have z:=A0j z
  obtain⟨T,U⟩:=Dg C G
  rw[Rep] at s;subst s
  obtain⟨kk,es,clk,_,V,rfl,s,hr,_,_⟩:=Al4 S T U z D
  obtain⟨kt,et,u1,u2,u3⟩:=qa hs
  refine⟨_,.bool (qP x.cells n),L,?_,by rw[Rep]⟩
  have u:IsKey (.int .i64) (.int .i64 n):=by simp[IsKey]
  rcases Adt hr n with⟨A,B⟩ | ⟨A,j,e,B,_,_,_⟩
  ·rw[A]
   simp[Instr.lookup,run_underlying u1,run_getObj_map s,run_checkKey u2 u,run_findKey u2 B,u3,Result.andThen]
  ·rw[A]
   simp[Instr.lookup,run_underlying u1,run_getObj_map s,run_checkKey u2 u,run_findKey u2 B,Result.andThen]
 ·simp at hh
theorem zf {t:TypeId} {m key val:AV} {vm vk vv:Value} {k:AV→Eo→O R} (S:SimH J β h w) (hl:Looks g h) (hh:jC P g t m key val k=some r) (hm:Rep J β h w m vm) (s:Rep J β h w key vk) (U:Rep J β h w val vv) :
  ∃ ups,k .undef ups=some r∧∃ J' β' w',(Instr.mapUpdate t vm vk vv).run P w=.ok () w'∧Step J β h w J' β' (Am ups h) w':=by
 unfold jC at hh
 split at hh
 ·rename_i b n
  obtain⟨hs,h1⟩:=uc hh
  obtain⟨x,hx,h2⟩:=ub h1
  obtain⟨q,h3⟩:=uc h2
  simp only[A0a] at q
  obtain⟨q,A⟩:=q
  have A:=A0j A
  obtain⟨F,B⟩:=Dg hl hx
  simp only[Rep] at s U;subst s U
  obtain⟨kk,es,clk,_,V,rfl,s,hr,C,D⟩:=Al4 S F B A hm
  obtain⟨kt,et,u1,u2,u3⟩:=qa hs
  have u:IsKey (.int .i64) (.int .i64 n):=by simp[IsKey]
  have hlt:=LQ s
  refine⟨_,h3,J,β,?_⟩
  rcases Adt hr n with⟨G,I⟩ | ⟨G,j,e,I,X,Y,g5⟩
  ·refine⟨{ w with heap:=w.heap.setIfInBounds kk (.map (es.push { key:=.int .i64 n,val:=.bool true,born:=clk }) (clk+1)) },?_,?_⟩
   ·simp[Instr.mapUpdate,run_underlying u1,run_getObj_map s,run_checkKey u2 u,run_findKey u2 I,run_setObj_map _ s,Result.andThen]
   ·refine Step.setObj S F B q V s (heap_set s).1 (fun j L=>(heap_set s).2 j L) (by simp) rfl rfl rfl (.inl ⟨A,_,_,rfl,?_⟩) B C D rfl q
    obtain⟨l,v,z⟩:=hr
    refine⟨l++[n],?_,?_⟩
    ·show Aq6 x.cells n=_
     unfold Aq6;rw[G,v];simp
    ·simp[z]
  ·refine⟨{ w with heap:=w.heap.setIfInBounds kk (.map (es.modify j fun e=>{ e with key:=.int .i64 n,val:=.bool true }) clk) },?_,?_⟩
   ·simp[Instr.mapUpdate,run_underlying u1,run_getObj_map s,run_checkKey u2 u,run_findKey u2 I,X,Y,run_keyThatStays u,run_setObj_map _ s,Result.andThen]
   ·refine Step.setObj S F B q V s (heap_set s).1 (fun j L=>(heap_set s).2 j L) (by simp) rfl rfl rfl (.inl ⟨A,_,_,rfl,?_⟩) B C D rfl q
    obtain⟨l,v,z⟩:=hr
    refine⟨l,?_,?_⟩
    ·show Aq6 x.cells n=_
     unfold Aq6;rw[G,v];rfl
    ·have:es.modify j (fun e=>{ e with key:=.int .i64 n,val:=.bool true })=es:=by
      apply Array.ext_getElem?
      intro i
      rw[A2i]
      split
      ·rename_i T;subst T
       rw[X];simp;rw[←Y,←g5]
      ·rfl
     rw[this];exact z
 ·simp at hh
end
end Gx
namespace Gx
open Go
def bI (E:Env):Prop:=∀ (R:Type) (r:R) (k:AV→Eo→O R) (J:Bool→Nat→Prop) (β:Cd) (h:Az) (w:World) (g:A7) (d f:Nat) (args:LA) (vs:List Value),
 SimH J β h w→Looks g h→xZ E g d f args k=some r→Reps J β h w args vs →
 ∃ val ups,k val ups=some r∧(UpsFree d h ups→Calls E.P f vs.toArray w fun e w'=>∃ vc,e=.returned vc∧OpDone J β h w ups val vc w')
section
variable {R:Type} {r:R} {P:Program} {J J':Bool→Nat→Prop} {β:Cd} {h:Az} {w w':World} {g:A7} {o:Oper} {a:Act} {next:Act→World→Prop} {Q:Exit→Act→World→Prop}
theorem F7 {vc:Value} (e:(execOp a.eval o).run P w=.ok (.value vc) w') (hn:next (a.put o.dst vc) w'):o.wp P a w next Q:=by
 unfold Oper.wp;rw[e];exact hn
theorem Adw (e:(execOp a.eval o).run P w=.ok .skip w') (hn:next (a.put o.dst undef) w'):o.wp P a w next Q:=by
 unfold Oper.wp;rw[e];exact hn
theorem OpDone.same (S:SimH J β h w) {v:AV} {vc:Value} (e:Rep J β h w v vc):OpDone J β h w [] v vc w:=⟨J,β,Step.refl S,e⟩
theorem qc {s:Gp} (SS:SimS J β h w s a.tmps):∀ (xs:List Operand),Reps J β h w (xs.map (ev s)) (xs.map a.eval)
 | []=>by simp[Reps]
 | x::r=>by rw[A0n,A0n,Reps];exact⟨_,_,rfl,A5 SS x,qc SS r⟩
theorem Zu {s:Gp} (SS:SimS J β h w s a.tmps):∀ (ps:List (Nat×Operand)),RepParts J β h w (ps.map fun p=>(p.1,ev s p.2)) (ps.map fun p=>(p.1,a.eval p.2))
 | []=>by simp[RepParts]
 | p::r=>by rw[A0n,A0n,RepParts];exact⟨_,_,rfl,A5 SS p.2,Zu SS r⟩
theorem qd {s:Gp} (SS:SimS J β h w s a.tmps) (x:Option Operand):Yo J β h w (x.map (ev s)) (x.map a.eval):=by
 cases x with
 | none=>simp[Yo]
 | some x=>simp[Yo];exact A5 SS x
theorem Reps.append:∀ {c c':LA} {cs e:List Value},Reps J β h w c cs→Reps J β h w c' e→Reps J β h w (c++c') (cs++e)
 | [],c',cs,e,j,k=>by rw[Reps] at j;subst j;exact k
 | x::r,c',cs,e,j,k=>by
  rw[Reps] at j
  obtain⟨u,us,rfl,n,q⟩:=j
  rw[A0u,A0u,Reps]
  exact⟨u,us++e,rfl,n,Reps.append q k⟩
theorem Adx {J:Nat→Prop}:∀ {c:LA} {cs:List Value},A6 c=true→Reps (fun _ _=>False) (fun _=>none) [] w c cs→RepCs J w c (fun j=>cs[j]?) 0∧cs.length=c.length:=by
 intro c cs s hr
 rw[Ce] at hr
 refine⟨?_,hr.1⟩
 rw[Bv]
 intro j x k
 have e:j<cs.length:=by rw[hr.1];exact(A0p.1 k).1
 refine⟨cs[j],by simp[e],?_⟩
 have n:=hr.2 j x cs[j] k (Az6 e)
 have t:A6 [x]=true:=by
  clear hr n e
  induction c generalizing j with
  | nil=>simp at k
  | cons y r u =>
   have q:A6 r=true:=by unfold A6 at s;split at s<;>simp_all
   cases j with
   | zero=>simp at k;subst k;cases y<;>simp_all[A6]
   | succ j=>exact u q j (by simpa using k)
 cases x<;>simp[A6] at t<;>(rw[Rep] at n;rw[RepC];exact n)
theorem Anw {co:Bool} {v:AV} {vv:Value} (e:∀ (J:Bool→Nat→Prop) (β:Cd) (h:Az),Rep J β h w v vv):Rep J β h w (Aq3 co v) vv:=by
 unfold Aq3
 split
 ·rename_i c
  cases k:A6 c with
  | false=>exact e J β h
  | true =>
   have j:=e (fun _ _=>False) (fun _=>none) []
   rw[Rep] at j
   obtain⟨cs,rfl,n⟩:=j
   obtain⟨q,s⟩:=Adx (J:=J false) k n
   rw[cond_true,Rep]
   exact⟨cs,rfl,s,q⟩
 ·exact e J β h
theorem bJ {d:Nat}:∀ {l:List (Nat×Nat)} {j:Nat} {c:LA},1≤j→A4 (F8 d l j c).2 (nid d)=false
 | [],_,_,_=>by simp[F8,A4]
 | (o,sz)::l,j,c,e=>by
  rw[F8]
  split
  ·simp only[A4]
   rw[Q_ (by omega),cond_false]
   exact bJ (by omega)
  ·exact bJ (by omega)
theorem vV {d:Nat} {t:TypeId} {k:AV→Eo→O R} (S:SimH J β h w) (hh:VW P g d t k=some r) :
  ∃ v val ups,(∃ i,P.info? t=some i∧i.zero=some v)∧k val ups=some r∧(UpsFree d h ups→∃ vc w',(Instr.box t v).run P w=.ok vc w'∧OpDone J β h w ups val vc w'):=by
 unfold VW at hh
 split at hh
 ·rename_i c q
  obtain⟨D,L⟩:=uc hh
  simp only[A0a] at D
  obtain⟨T,z⟩:=D
  obtain⟨v,U,V⟩:∃ v,(∃ i,P.info? t=some i∧i.zero=some v)∧ii v=.agg c:=by
   unfold qK at q
   cases hi:P.info? t with
   | none=>simp[hi] at q
   | some i =>
    cases n:i.zero with
    | none=>simp[hi,n] at q
    | some v=>simp[hi,n] at q;exact⟨v,⟨i,rfl,n⟩,q⟩
  have hr:=LO (J:=J) (β:=β) (h:=h) (w:=w) v
  rw[V,Rep] at hr
  obtain⟨cs,rfl,hr⟩:=hr
  refine⟨_,_,_,U,L,fun F=>⟨_,_,LT,?_⟩⟩
  have hn:=F.nid (by simp[Hw,Sa,A4])
  obtain⟨β',A,hA⟩:=Wh (d:=d) (l:=Sb P t) (j:=1) S (Az3 _) (by simp at T;omega) (fun i hi X B=>F _ (by rw[Hw,B];rfl) (by unfold HY;simp;omega)) hr
  have C:An (Am (F8 d (Sb P t) 1 c).2 h) (nid d)=none:=by rw[Ck _ _ _ (bJ (Az3 _))];exact hn
  have s:∀ (j:Nat) u,cs[j]?=some u→u.oneCell'=true:=fun j u G=>by
   rw[Ce] at hr
   have e:j<c.length:=by rw[←hr.1];exact(A0p.1 G).1
   exact N4 (Zt z j c[j] (Az6 e)) (hr.2 j c[j] u (Az6 e) G)
  rw[Ce] at hA
  refine OpDone.after A (WB A.sim C rfl rfl (by simp[Value.cells,hA.1]) ⟨fun Y=>by simp at Y,fun _ j y I=>?_⟩) (Qw _ _)
  have e:j<cs.length:=by rw[hA.1];exact(A0p.1 I).1
  exact⟨cs[j],by simp[Value.cells,e],hA.2 j y _ I (Az6 e),s j _ (Az6 e)⟩
 ·simp at hh
theorem zg {co:Bool} {d:Nat} {t:TypeId} {k:AV→Eo→O R} (S:SimH J β h w) (I:Looks g h) (hh:ix P g co d t k=some r) :
  ∃ v val ups,(∃ i,P.info? t=some i∧i.zero=some v)∧k val ups=some r∧(UpsFree d h ups→∃ vc w',(Instr.box t v).run P w=.ok vc w'∧OpDone J β h w ups val vc w'):=by
 have zv:∀ {z:AV},qK P t=some z→∃ v,(∃ i,P.info? t=some i∧i.zero=some v)∧ii v=z:=by
  intro z n
  unfold qK at n
  cases hi:P.info? t with
  | none=>simp[hi] at n
  | some i =>
   cases q:i.zero with
   | none=>simp[hi,q] at n
   | some v=>simp[hi,q] at n;exact⟨v,⟨i,rfl,q⟩,n⟩
 unfold ix at hh
 split at hh
 ·rename_i U V n
  obtain⟨v,s,u⟩:=zv n
  obtain⟨sz,hs,hh⟩:=ub hh
  refine⟨v,_,_,s,hh,fun G=>⟨_,_,LT,?_⟩⟩
  have hr:=LO (J:=J) (β:=β) (h:=h) (w:=w) v
  rw[u,Rep] at hr;subst hr
  have B:∀ b,b=nid d+1→HY d b=true:=fun b L=>by subst L;unfold HY nid;simp
  have C:An h (nid d+1)=none:=G _ (by simp[A4]) (B _ rfl)
  have D:An h (nid d)=none:=G.nid (by simp[A4])
  have A:=Step.newNone S (d:=nid d+1) (x:=F5 sz) C rfl
  have e:([(nid d+1,some (F5 sz)),(nid d,some { dead:=false,sealed:=false,pure:=false,taint:=false,sz:=0,cells:=[.own (nid d+1) 0 0] })]:Eo)=[(nid d+1,some (F5 sz))]++[(nid d,some { dead:=false,sealed:=false,pure:=false,taint:=false,sz:=0,cells:=[.own (nid d+1) 0 0] })]:=rfl
  rw[e]
  refine OpDone.after A (WB A.sim ?_ rfl rfl (by simp[Value.cells]) ⟨fun T=>by simp at T,fun _ j y F=>?_⟩) (Qw _ _)
  ·simp only[Am];rw[Aj,if_neg (by omega)];exact D
  ·cases j with
   | zero =>
    simp at F;subst F
    refine⟨.slice none 0 0,by simp[Value.cells],?_,rfl⟩
    rw[Rep]
    exact⟨F5 sz,none,0,⟨by simp[Am,Aj],rfl⟩,rfl,Az3 _,.inl rfl⟩
   | succ j=>simp at F
 ·rename_i z n _
  obtain⟨v,s,u⟩:=zv n
  obtain⟨val,ups,C,D⟩:=qU S I hh (vv:=v) (Anw fun J β h=>by rw[←u];exact LO v)
  exact⟨v,val,ups,s,C,D⟩
 ·simp at hh
theorem Ady {c x y:AV} {vc vx vy:Value} {k:AV→O R} (hh:x9 c x y k=some r) (e:Rep J β h w c vc) (j:Rep J β h w x vx) (n:Rep J β h w y vy) :
  ∃ v,k v=some r∧∃ t:Bool,vc=.bool t∧Rep J β h w v (if t then vx else vy):=by
 unfold x9 at hh
 split at hh
 ·rename_i t a b
  rw[Rep] at e j n
  subst e j n
  exact⟨_,hh,t,rfl,by cases t<;>simp[Rep]⟩
 ·rename_i t x _
  rw[Rep] at e;subst e
  obtain⟨q,s⟩:=uc hh
  subst q
  exact⟨_,s,true,rfl,j⟩
 ·rename_i t _ _ _
  rw[Rep] at e;subst e
  obtain⟨q,s⟩:=Aib hh
  subst q
  exact⟨_,s,false,rfl,n⟩
 ·rename_i t _ _ _
  rw[Rep] at e;subst e
  cases t
  ·exact⟨_,hh,false,rfl,n⟩
  ·exact⟨_,hh,true,rfl,j⟩
 ·simp at hh
theorem Aij {E:Env} (hC:bI E) {d:Nat} {s:Gp} {k:AV→Eo→O R} (S:SimH J β h w) (SS:SimS J β h w s a.tmps) (U:Looks g h)
  (hh:vS E g d (ev s) o.op k=some r) :
  ∃ val ups,k val ups=some r∧(UpsFree d h ups→(∀ vc w',OpDone J β h w ups val vc w'→next (a.put o.dst vc) w')→o.wp E.P a w next Q):=by
 unfold vS at hh
 have same:∀ {v:AV} {vc:Value},k v []=some r→(execOp a.eval o).run E.P w=.ok (.value vc) w→Rep J β h w v vc →
   ∃ val ups,k val ups=some r∧(UpsFree d h ups→(∀ vc w',OpDone J β h w ups val vc w'→next (a.put o.dst vc) w')→o.wp E.P a w next Q) :=
  fun hk hrun hr=>⟨_,_,hk,fun _ hn=>F7 hrun (hn _ _ (OpDone.same S hr))⟩
 split at hh
 ·rename_i x D
  exact same hh (by simp[execOp,D]) (A5 SS x)
 ·rename_i x D
  exact same hh (by simp[execOp,D]) (A5 SS x)
 ·rename_i c x y D
  obtain⟨v,A,B⟩:=Ady hh (A5 SS c) (A5 SS x) (A5 SS y)
  obtain⟨t,ht,hr⟩:=B
  refine same A (vc:=if t then a.eval x else a.eval y) ?_ hr
  cases t<;>simp[execOp,D,ht,Go.asBool]
 ·rename_i t D
  obtain⟨v,val,ups,h0,A,B⟩:∃ v val ups,(∃ i,E.P.info? t=some i∧i.zero=some v)∧k val ups=some r∧(UpsFree d h ups→∃ vc w',(Instr.box t v).run E.P w=.ok vc w'∧OpDone J β h w ups val vc w'):=by
   cases hm:Ip E.cob (d+1000000) with
   | true=>rw[hm] at hh;exact vV S hh
   | false=>rw[hm] at hh;exact zg S U hh
  refine⟨val,ups,A,fun T hn=>?_⟩
  obtain⟨vc,w',C,F⟩:=B T
  refine F7 ?_ (hn vc w' F)
  rw[LT] at C
  simp only[Result.ok.injEq] at C
  obtain⟨rfl,rfl⟩:=C
  obtain⟨i,hi,hiz⟩:=h0
  simp[execOp,D,Instr.alloc,zeroValue,typeInfo,hi,hiz,newVar,newRow]
 ·rename_i t x D
  obtain⟨v',h0,hv'⟩:=z6 hh (A5 SS x)
  obtain⟨val,ups,A,B⟩:=qU S U h0 hv'
  refine⟨val,ups,A,fun T hn=>?_⟩
  obtain⟨vc,w',C,F⟩:=B T
  exact F7 (by simp[execOp,D,C]) (hn vc w' F)
 ·rename_i t parts D
  rw[bG] at hh
  obtain⟨v,L,hh⟩:=ub hh
  obtain⟨u,A,B⟩:=zd (P:=E.P) S L (Zu SS parts.toList)
  obtain⟨val,ups,C,F⟩:=Aig S hh B
  refine⟨val,ups,C,fun T hn=>F7 ?_ (hn _ _ (F T))⟩
  have:(parts.map fun p=>(p.1,a.eval p.2))=(parts.toList.map fun p=>(p.1,a.eval p.2)).toArray:=by apply A18;simp
  simp[execOp,D,this,A]
 ·rename_i t len parts D
  have:(parts.map fun p=>(p.1,a.eval p.2))=(parts.toList.map fun p=>(p.1,a.eval p.2)).toArray:=by apply A18;simp
  cases hhard:(parts.toList.map fun p=>(p.1,ev s p.2)).any fun p=>Aq4 p.2 with
  | true =>
   rw[hhard] at hh
   obtain⟨val,ups,A,B⟩:=jL S hh (Zu SS parts.toList)
   refine⟨val,ups,A,fun T hn=>?_⟩
   obtain⟨vc,w',C,F⟩:=B T
   exact F7 (by simp[execOp,D,this,C]) (hn vc w' F)
  | false =>
   rw[hhard] at hh
   obtain⟨val,ups,A,B⟩:=eA S U hh (Zu SS parts.toList)
   refine⟨val,ups,A,fun T hn=>?_⟩
   obtain⟨vc,w',C,F⟩:=B T
   exact F7 (by simp[execOp,D,this,C]) (hn vc w' F)
 ·rename_i t p D
  obtain⟨v,vc,A,B,C⟩:=lN S U hh (A5 SS p)
  exact same A (by simp[execOp,D,B]) C
 ·rename_i t p x D
  obtain⟨val,ups,A,J',β',w',B,C,rfl⟩:=zZ S U hh (A5 SS p) (A5 SS x)
  exact⟨.undef,ups,A,fun _ hn=>Adw (w':=w') (by simp[execOp,D,B]) (hn undef w' ⟨J',β',C,by simp[Rep]⟩)⟩
 ·rename_i x D
  have A:=A5 SS x
  split at hh
  ·rename_i c oo X
   rw[X] at A
   refine same hh (vc:=a.eval x) ?_ A
   rw[Rep,RepC] at A
   obtain⟨ad,B,_⟩:=A
   simp[execOp,D,B]
  ·rename_i b oo X
   rw[X] at A
   refine same hh (vc:=a.eval x) ?_ A
   rw[Rep] at A
   obtain⟨_,kk,o',_,B,_⟩:=A
   simp[execOp,D,B]
  ·simp at hh
 ·rename_i op t x y t2 D
  obtain⟨v,vc,A,B,C⟩:=Adr S U hh (A5 SS x) (A5 SS y) x y
  refine same A ?_ C
  simp only[execOp,D]
  rw[Sem.run_bind,B];simp
 ·rename_i op t x D
  obtain⟨v,L,hh⟩:=ub hh
  obtain⟨vc,B,C⟩:=Ans (P:=E.P) L (A5 SS x)
  exact same hh (by simp[execOp,D,B]) C
 ·rename_i src dst x D
  obtain⟨val,ups,A,B⟩:=zb S U hh (A5 SS x)
  refine⟨val,ups,A,fun T hn=>?_⟩
  obtain⟨vc,w',C,F⟩:=B T
  exact F7 (by simp[execOp,D,C]) (hn vc w' F)
 ·rename_i f first caps D
  obtain⟨T,hh⟩:=uc hh
  have hf':f<1000000:=by simpa using T
  have key:∀ (a n:Nat),a<1000000→(a+1000000*n)%1000000=a∧(a+1000000*n)/1000000=n:=by intro a n h;omega
  have e1:=(key f first.toList.length hf').1
  have e2:=(key f first.toList.length hf').2
  refine same (vc:=.func (.func f) ⟨first.toList.map a.eval⟩ ⟨caps.toList.map a.eval⟩) hh ?_ ?_
  ·simp only[execOp,D,Instr.makeFunc]
   simp
   refine⟨?_,?_⟩<;>(apply A18;simp)
  ·rw[Rep,e1,e2]
   refine⟨(first.toList++caps.toList).map a.eval,?_,qc SS _⟩
   simp
 ·rename_i t l c D
  obtain⟨val,ups,A,B⟩:=Adj S hh (A5 SS l) (A5 SS c)
  refine⟨val,ups,A,fun T hn=>?_⟩
  obtain⟨vc,w',C,F⟩:=B T
  exact F7 (by simp[execOp,D,C]) (hn vc w' F)
 ·rename_i t x lo hi mx D
  obtain⟨v,vc,A,B,C⟩:=zY S U hh (A5 SS x) (qd SS lo) (qd SS hi) (qd SS mx)
  exact same A (by simp[execOp,D,B]) C
 ·rename_i t x f D
  obtain⟨v,vc,A,B,C⟩:=jI hh (A5 SS x)
  exact same A (by simp[execOp,D,B]) C
 ·rename_i t x f D
  obtain⟨v,vc,A,B,C⟩:=zW hh (A5 SS x)
  exact same A (by simp[execOp,D,B]) C
 ·rename_i t x i D
  obtain⟨v,vc,A,B,C⟩:=jH hh (A5 SS x) (A5 SS i)
  exact same A (by simp[execOp,D,B]) C
 ·rename_i t x i D
  obtain⟨v,vc,A,B,C⟩:=zX hh (A5 SS x) (A5 SS i)
  exact same A (by simp[execOp,D,B]) C
 ·rename_i t rr D
  cases rr with
  | some x=>simp[BR] at hh
  | none =>
   obtain⟨val,ups,A,B⟩:=qb (P:=E.P) (t:=t) S hh
   refine⟨val,ups,A,fun T hn=>?_⟩
   obtain⟨vc,w',C,F⟩:=B T
   exact F7 (by simp[execOp,D,C]) (hn vc w' F)
 ·rename_i t m x y D
  obtain⟨ups,A,J',β',w',B,C⟩:=zf S U hh (A5 SS m) (A5 SS x) (A5 SS y)
  exact⟨.undef,ups,A,fun _ hn=>Adw (w':=w') (by simp[execOp,D,B]) (hn undef w' ⟨J',β',C,by simp[Rep]⟩)⟩
 ·rename_i t m x c D
  obtain⟨v,vc,A,B,C⟩:=Adv S U hh (A5 SS m) (A5 SS x)
  exact same A (by simp[execOp,D,B]) C
 ·rename_i t x D
  obtain⟨val,ups,A,B⟩:=ze (P:=E.P) S hh (A5 SS x)
  refine⟨val,ups,A,fun T hn=>?_⟩
  obtain⟨vc,w',C,F⟩:=B T
  exact F7 (by simp[execOp,D,C]) (hn vc w' F)
 ·rename_i x b D
  obtain⟨val,ups,A,B⟩:=Adu (P:=E.P) (d:=d) (t:=o.type) S U hh (A5 SS x)
  refine⟨val,ups,A,fun T hn=>?_⟩
  obtain⟨vc,w',C,F⟩:=B T
  exact F7 (by simp[execOp,D,C]) (hn vc w' F)
 ·rename_i t i D
  split at hh
  ·rename_i vs ht
   obtain⟨v,L,hh⟩:=ub hh
   have A:=A5 SS t
   rw[ht,Rep] at A
   obtain⟨cs,B,C⟩:=A
   rw[Ce] at C
   have hlt:i<cs.length:=by rw[C.1];exact(A0p.1 L).1
   refine same hh (vc:=cs[i]) ?_ (C.2 i v _ L (Az6 hlt))
   simp[execOp,D,Instr.extract,B,hlt]
  ·simp at hh
 ·rename_i c D
  split at hh
  ·rename_i V
   split at hh
   ·rename_i x t A B
    obtain⟨v,L,hh⟩:=ub hh
    have e1:c.args=#[x]:=by apply A18;simpa using A
    have e2:c.argTypes=#[t]:=by apply A18;simpa using B
    obtain⟨vc,C,F⟩:=Aic (P:=E.P) (ty:=o.type) L (A5 SS x)
    refine same hh ?_ F
    simp[execOp,D,resolve,V,e1,e2,invoke,builtin,C]
   ·simp at hh
  ·rename_i V
   split at hh
   ·rename_i x y t tx A B
    have e1:c.args=#[x,y]:=by apply A18;simpa using A
    have e2:c.argTypes=#[t,tx]:=by apply A18;simpa using B
    obtain⟨val,ups,C,F⟩:=vU (ty:=o.type) S U hh (A5 SS x) (A5 SS y)
    refine⟨val,ups,C,fun T hn=>?_⟩
    obtain⟨vc,w',h5,h6⟩:=F T
    refine F7 ?_ (hn vc w' h6)
    simp[execOp,D,resolve,V,e1,e2,invoke,builtin,h5]
   ·simp at hh
  ·rename_i V
   split at hh
   ·rename_i x y t tx A B
    have e1:c.args=#[x,y]:=by apply A18;simpa using A
    have e2:c.argTypes=#[t,tx]:=by apply A18;simpa using B
    obtain⟨val,ups,C,vc,w',h5,h6⟩:=Adm (tx:=tx) (ty:=o.type) S U hh (A5 SS x) (A5 SS y)
    refine⟨val,ups,C,fun T hn=>?_⟩
    refine F7 ?_ (hn vc w' h6)
    simp[execOp,D,resolve,V,e1,e2,invoke,builtin,h5]
   ·simp at hh
  ·rename_i V
   split at hh
   ·rename_i x t A B
    have e1:c.args=#[x]:=by apply A18;simpa using A
    have e2:c.argTypes=#[t]:=by apply A18;simpa using B
    obtain⟨val,ups,C,vc,w',h5,h6⟩:=za (ty:=o.type) S U hh (A5 SS x)
    refine⟨val,ups,C,fun T hn=>?_⟩
    refine F7 ?_ (hn vc w' h6)
    simp[execOp,D,resolve,V,e1,e2,invoke,builtin,h5]
   ·simp at hh
  ·rename_i V
   split at hh
   ·rename_i x y A
    obtain⟨v,L,hh⟩:=ub hh
    have e1:c.args=#[x,y]:=by apply A18;simpa using A
    have B:=A5 SS x
    have C:=A5 SS y
    unfold Anp at L
    split at L
    ·rename_i k1 a1 k2 a2 X hy
     simp at L;subst L
     rw[X,Rep] at B;rw[hy,Rep] at C
     refine same hh (vc:=.int k1 (Js a1 a2)) ?_ (by rw[Rep])
     simp[execOp,D,resolve,V,e1,invoke,builtin,B,C,Builtin.min_,Builtin.min2,Js,cond_eq_ite]
    ·simp at L
   ·rename_i x y z A
    obtain⟨q,hq,hh⟩:=ub hh
    obtain⟨v,L,hh⟩:=ub hh
    have e1:c.args=#[x,y,z]:=by apply A18;simpa using A
    have B:=A5 SS x
    have C:=A5 SS y
    have F:=A5 SS z
    unfold Anp at hq
    split at hq
    ·rename_i k1 a1 k2 a2 X hy
     simp at hq;subst hq
     unfold Anp at L
     split at L
     ·rename_i k3 a3 k4 a4 hx2 hz
      simp at hx2;obtain⟨rfl,rfl⟩:=hx2
      simp at L;subst L
      rw[X,Rep] at B;rw[hy,Rep] at C;rw[hz,Rep] at F
      refine same hh (vc:=.int k1 (Js (Js a1 a2) a4)) ?_ (by rw[Rep])
      simp[execOp,D,resolve,V,e1,invoke,builtin,B,C,F,Builtin.min_,Builtin.min2,Js,cond_eq_ite]
     ·simp at L
    ·simp at hq
   ·simp at hh
  ·rename_i V
   split at hh
   ·rename_i x y A
    obtain⟨v,L,hh⟩:=ub hh
    have e1:c.args=#[x,y]:=by apply A18;simpa using A
    have B:=A5 SS x
    have C:=A5 SS y
    unfold Anq at L
    split at L
    ·rename_i k1 a1 k2 a2 X hy
     simp at L;subst L
     rw[X,Rep] at B;rw[hy,Rep] at C
     refine same hh (vc:=.int k1 (bC a1 a2)) ?_ (by rw[Rep])
     simp[execOp,D,resolve,V,e1,invoke,builtin,B,C,Builtin.max_,Builtin.max2,bC,cond_eq_ite]
    ·simp at L
   ·rename_i x y z A
    obtain⟨q,hq,hh⟩:=ub hh
    obtain⟨v,L,hh⟩:=ub hh
    have e1:c.args=#[x,y,z]:=by apply A18;simpa using A
    have B:=A5 SS x
    have C:=A5 SS y
    have F:=A5 SS z
    unfold Anq at hq
    split at hq
    ·rename_i k1 a1 k2 a2 X hy
     simp at hq;subst hq
     unfold Anq at L
     split at L
     ·rename_i k3 a3 k4 a4 hx2 hz
      simp at hx2;obtain⟨rfl,rfl⟩:=hx2
      simp at L;subst L
      rw[X,Rep] at B;rw[hy,Rep] at C;rw[hz,Rep] at F
      refine same hh (vc:=.int k1 (bC (bC a1 a2) a4)) ?_ (by rw[Rep])
      simp[execOp,D,resolve,V,e1,invoke,builtin,B,C,F,Builtin.max_,Builtin.max2,bC,cond_eq_ite]
     ·simp at L
    ·simp at hq
   ·simp at hh
  ·rename_i V
   split at hh
   ·rename_i x A
    have e1:c.args=#[x]:=by apply A18;simpa using A
    obtain⟨val,ups,C,F⟩:=jJ (P:=E.P) (d:=d) (ts:=c.argTypes) (ty:=o.type) S U hh (A5 SS x)
    refine⟨val,ups,C,fun T hn=>?_⟩
    obtain⟨vc,w',h5,h6⟩:=F T
    refine F7 ?_ (hn vc w' h6)
    simp[execOp,D,resolve,V,e1,invoke,builtin,h5]
   ·simp at hh
  ·rename_i V
   split at hh
   ·rename_i x y t tx A B
    have e1:c.args=#[x,y]:=by apply A18;simpa using A
    have e2:c.argTypes=#[t,tx]:=by apply A18;simpa using B
    obtain⟨val,ups,C,F⟩:=jK (d:=d) (it:=tx) (ty:=o.type) S U hh (A5 SS x) (A5 SS y)
    refine⟨val,ups,C,fun T hn=>?_⟩
    obtain⟨vc,w',h5,h6⟩:=F T
    refine F7 ?_ (hn vc w' h6)
    simp[execOp,D,resolve,V,e1,e2,invoke,builtin,h5]
   ·simp at hh
  ·rename_i fo V
   split at hh
   ·rename_i f0 caps T
    have A:=A5 SS fo
    rw[T,Rep] at A
    obtain⟨cs0,B,Y⟩:=A
    cases G:zS E.P (f0%1000000) with
    | false =>
     rw[G,cond_false] at hh
     obtain⟨hne,hh⟩:=uc hh
     split at hh
     ·rename_i x I hold
      rw[Reps] at Y;subst Y
      obtain⟨y,hy,rfl⟩:∃ y,c.args=#[y]∧x=ev s y:=by
       cases U:c.args.toList with
       | nil=>rw[U] at I;cases I
       | cons y l =>
        rw[U] at I;simp at I
        exact⟨y,by apply A18;rw[U,I.2],I.1.symm⟩
      refine same (vc:=a.eval y) hh ?_ (A5 SS y)
      simp only[execOp,D,Sem.run_bind,resolve,V,B,Deferred.ofValue,Sem.run_pure,Result.andThen_ok,invoke,hy]
      simpa using Anu hne (a.eval y) w
     ·simp at hh
    | true =>
    rw[G,cond_true] at hh
    have htk:Reps J β h w (caps.take (f0/1000000)) (cs0.take (f0/1000000))∧Reps J β h w (caps.drop (f0/1000000)) (cs0.drop (f0/1000000)):=by
     rw[Ce] at Y
     refine⟨Ce.2 ⟨by simp[Y.1],fun j x u X hu=>?_⟩,Ce.2 ⟨by simp[Y.1],fun j x u X hu=>?_⟩⟩
     ·rw[A2b] at X hu
      split at X
      ·rename_i hj;rw[if_pos hj] at hu;exact Y.2 j x u X hu
      ·simp at X
     ·rw[A1t] at X hu;exact Y.2 _ x u X hu
    generalize f0%1000000=f at *
    generalize cs0.take (f0/1000000)=fs at *
    generalize cs0.drop (f0/1000000)=cs at *
    obtain⟨val,ups,F,h5⟩:=hC R r k J β h w g d f _ _ S U hh (htk.1.append ((qc SS c.args.toList).append htk.2))
    refine⟨val,ups,F,fun hfr hn=>?_⟩
    have hcall:=h5 hfr
    unfold zS at G
    cases hfn:E.P.funcs[f]? with
    | none=>rw[hfn] at G;simp at G
    | some fn =>
     rw[hfn] at G
     simp at G
     obtain⟨hb1,hb2⟩:=G
     have hb3:fn.body.isNone=false:=by cases hq:fn.body<;>simp_all
     have I:(⟨fs⟩:Array Value)++c.args.map a.eval++(⟨cs⟩:Array Value)=(fs++(c.args.toList.map a.eval++cs)).toArray:=by apply A18;simp
     have hrun:(execOp a.eval o).run E.P w=.ok (.enter f (fs++(c.args.toList.map a.eval++cs)).toArray) w:=by
      simp only[execOp,D,Sem.run_bind,resolve,V,B,Deferred.ofValue,Sem.run_pure,Result.andThen_ok,invoke,callFunc,run_program,hfn]
      simp only[hb3,I]
      simp[hb2]
     unfold Oper.wp
     rw[hrun]
     refine Calls.mono hcall ?_
     rintro e w' ⟨vc,rfl,hd⟩
     exact hn vc w' hd
   ·simp at hh
  ·simp at hh
 ·simp at hh
end
end Gx
namespace Gx
open Go
structure Start where
 J:Bool→Nat→Prop
 β:Cd
 h:Az
 w:World
structure Inv (Z:Start) (nt:Nat) (J:Bool→Nat→Prop) (β:Cd) (st:St) (a:Act) (w:World):Prop where
 sim:SimH J β st.h w
 ss:SimS J β st.h w st.s a.tmps
 tmps:a.tmps.size=nt
 defers:a.defers=[]
 os:w.os=Z.w.os
 tape:w.tape=Z.w.tape
 output:w.output=Z.w.output
 size:Z.w.heap.size≤w.heap.size
 frame:∀ k,k<Z.w.heap.size→¬ Adi Z.β Z.h k→w.heap[k]?=Z.w.heap[k]?
 wr:∀ k,Adi β st.h k→k<Z.w.heap.size→Adi Z.β Z.h k
 jsub:∀ o k,Z.J o k→J o k
 jup:∀ o k,J o k→Z.J o k∨Adi Z.β Z.h k∨Z.w.heap.size≤k
 sizes:∀ k,A3 Z.w k≤A3 w k
 zlt:∀ b x0,An Z.h b=some x0→b<200000
 zge:∀ b x0,An Z.h b=some x0→100000≤b
 outs:∀ b x0 x,An Z.h b=some x0→An st.h b=some x→x.dead=false→(β b=Z.β b∧x.mp=x0.mp)∧x.sz=x0.sz∧(x0.mp=false→x.cells.length=x0.cells.length)∧x0.dead=false
section
variable {R:Type} {r:R} {Z:Start} {nt:Nat} {J J':Bool→Nat→Prop} {β β':Cd} {st:St} {h':Az} {a:Act} {w w':World} {ops:Array Oper} {o:Oper}
theorem N5 {s:Gp} {d:Option Nat} {v:AV} {i:Nat}:F4 (Ah8 nt s d v) i=if d=some i∧i<nt then v else F4 s i:=by
 unfold Ah8
 cases d with
 | none=>simp
 | some d =>
  simp only[A2z]
  cases k:Nat.blt d nt with
  | true =>
   have j:d<nt:=by simpa using k
   simp only[cond_true]
   rw[N3]
   by_cases e:i=d
   ·subst e;simp[j]
   ·rw[if_neg e,if_neg (fun hh=>e hh.1.symm)]
  | false =>
   have j:¬ d<nt:=by intro n;rw[show Nat.blt d nt=true by simpa using n] at k;cases k
   simp only[cond_false]
   rw[if_neg (fun hh=>by obtain⟨q,t⟩:=hh;subst q;exact j t)]
theorem SimS.put {h:Az} {s:Gp} {d:Option Nat} {v:AV} {vc:Value} (H:SimS J β h w s a.tmps) (hn:a.tmps.size=nt) (n:Rep J β h w v vc):SimS J β h w (Ah8 nt s d v) (a.put d vc).tmps:=by
 refine⟨fun i u j=>?_,fun i hi=>?_⟩
 ·rw[N5]
  cases d with
  | none=>simp;exact H.slot i u j
  | some d =>
   simp only[Act.put] at j
   rw[A4n] at j
   by_cases e:d=i
   ·subst e
    simp only[if_true] at j
    by_cases k:d<a.tmps.size
    ·simp[k] at j;subst j
     rw[if_pos ⟨rfl,by omega⟩];exact n
    ·simp[k] at j
   ·rw[if_neg e] at j
    rw[if_neg (fun hh=>e (by simpa using hh.1))]
    exact H.slot i u j
 ·have hs:(a.put d vc).tmps.size=a.tmps.size:=by cases d<;>simp[Act.put]
  rw[hs] at hi
  rw[N5,if_neg (by omega)]
  exact H.out i hi
theorem SimS.ext {h:Az} {s:Gp} {t:Array Value} (E:Ext J β h w J' β' h' w') (H:SimS J β h w s t):SimS J' β' h' w' s t :=
 ⟨fun i v e=>Rep.ext E (H.slot i v e),H.out⟩
theorem Inv.step (I:Inv Z nt J β st a w) (A:Step J β st.h w J' β' h' w') (q:∀ b x,An h' b=some x→An st.h b=none→Hb≤b):Inv Z nt J' β' { s:=st.s,h:=h' } a w' where
 sim:=A.sim
 ss:=I.ss.ext A.ext
 tmps:=I.tmps
 defers:=I.defers
 os:=A.os.trans I.os
 tape:=A.tape.trans I.tape
 output:=A.output.trans I.output
 size:=A1c I.size A.size
 frame k e j:=(A.frame k (A1g e I.size) (fun v=>j (I.wr k v e))).trans (I.frame k e j)
 wr k j e:=I.wr k (A.wr k j (A1g e I.size)) e
 jsub o k z:=A.ext.jsub o k (I.jsub o k z)
 jup o k z:=by
  rcases A.jup o k z with t | t | t
  ·exact I.jup o k t
  ·by_cases e:k<Z.w.heap.size
   ·exact .inr (.inl (I.wr k t e))
   ·exact .inr (.inr (by omega))
  ·exact .inr (.inr (A1c I.size t))
 sizes k:=by
  refine A1c (I.sizes k) ?_
  by_cases j:∃ b o,β b=some (k,o)
  ·obtain⟨b,o,n⟩:=j;exact A.ext.size b k o n
  ·by_cases e:k<w.heap.size
   ·have:=A.frame k e (fun ⟨b,x,o,_,_,_,n⟩=>j ⟨b,o,n⟩)
    simp[A3,this]
   ·simp[A3,A11 (A2n e)]
 outs b x0 x D B F:=by
  cases n:An st.h b with
  | none=>have:=q b x B n;have:=I.zlt b x0 D;unfold Hb at *;omega
  | some y =>
   obtain⟨x',⟨C,gm⟩,u⟩:=A.ext.blk b y n
   change An h' b=some x at B
   rw[B] at C;simp at C;subst C
   rcases u with u | ⟨u,G,L,S⟩
   ·simp[F] at u
   ·obtain⟨⟨e1,em⟩,T,e3,e4⟩:=I.outs b x0 y D n u
    exact⟨⟨G.trans e1,gm.trans em⟩,L.trans T,fun h=>(S (em.trans h)).trans (e3 h),e4⟩
 zlt:=I.zlt
 zge:=I.zge
theorem Inv.put (I:Inv Z nt J β st a w) {d:Option Nat} {v:AV} {vc:Value} (e:Rep J β st.h w v vc):Inv Z nt J β { s:=Ah8 nt st.s d v,h:=st.h } (a.put d vc) w where
 sim:=I.sim
 ss:=I.ss.put I.tmps e
 tmps:=by cases d<;>simp[Act.put,I.tmps]
 defers:=by cases d<;>simp[Act.put,I.defers]
 os:=I.os
 tape:=I.tape
 output:=I.output
 size:=I.size
 frame:=I.frame
 wr:=I.wr
 jsub:=I.jsub
 jup:=I.jup
 sizes:=I.sizes
 zlt:=I.zlt
 zge:=I.zge
 outs:=I.outs
theorem qe {d:Nat} {F:List Nat} {h:Az}:∀ {ups:Eo},YN d F h ups=true→∀ b,A4 ups b=true→(HY d b=true∧An h b=none)∨(HY d b=false∧Ip F b=true∧∃ x,An h b=some x)
 | [],_,b,j=>by simp[A4] at j
 | (i,_)::r,e,b,j=>by
  rw[YN] at e
  simp at e
  rw[A4] at j
  cases hi:beq i b with
  | true =>
   have:i=b:=A0j hi
   subst this
   cases hn:HY d i with
   | true=>rw[hn] at e;simp at e;exact .inl ⟨rfl,e.1⟩
   | false =>
    rw[hn] at e;simp at e
    obtain⟨⟨k,n⟩,_⟩:=e
    exact .inr ⟨rfl,k,A47.1 n⟩
  | false=>rw[hi] at j;exact qe e.2 b (by simpa using j)
theorem Ari {d b:Nat} (hn:HY d b=true):Hb≤b:=by
 unfold HY nid at hn
 simp at hn
 unfold Hb;omega
theorem zh {d:Nat} {F:List Nat} {h:Az} {ups:Eo} (k:YN d F h ups=true) {b:Nat} {x:Blk} (e:An (Am ups h) b=some x) (hn:An h b=none):Hb≤b:=by
 cases hi:A4 ups b with
 | false=>rw[Ck _ _ _ hi,hn] at e;cases e
 | true =>
  rcases qe k b hi with⟨n,_⟩ | ⟨_,_,y,j⟩
  ·exact Ari n
  ·rw[hn] at j;cases j
theorem Aik {h:Az} {F:List Nat}:Looks (fun b=>cond (Ip F b) (An h b) none) h:=fun b x e=>by
 cases j:Ip F b with
 | true=>simpa[j] using e
 | false=>simp[j] at e
theorem vW {h:Az} {s:Gp} (H:SimS J β h w s a.tmps) {t:Bool} (e:LL ops s o=some t):Region.wanted o (yielded ops a.tmps)=t:=by
 unfold LL at e
 unfold Region.wanted
 split at e
 ·rename_i k;rw[k];simpa using e
 ·rename_i j want k
  rw[k]
  simp only
  unfold yielded
  split at e
  ·rename_i t' n
   rw[n]
   simp only[A1q]
   cases u:a.tmps[t']? with
   | none =>
    have:=H.out t' (by simpa using u)
    rw[this] at e;simp at e
   | some v =>
    have hr:=H.slot t' v u
    split at e
    ·rename_i b q
     rw[q,Rep] at hr;subst hr
     simp at e;subst e
     simp
    ·rename_i q
     rw[q,Rep] at hr
     obtain⟨cs,rfl,z⟩:=hr
     rw[Reps] at z;subst z
     simp at e;subst e
     simp
    ·simp at e
  ·rename_i n
   rw[n]
   simp at e;subst e
   simp
theorem qf {E:Env} (hC:bI E) (I:Inv Z E.nt J β st a w) {k:St→Foot→O R} (hh:Adf E ops o st k=some r) {K:Act→World→Prop} {Q:Exit→Act→World→Prop} :
  ∃ st' f,k st' f=some r∧((∀ j w' J' β',Inv Z E.nt J' β' st' j w'→K j w')→if Region.wanted o (yielded ops a.tmps) then o.wp E.P a w K Q else K (a.put o.dst undef) w):=by
 unfold Adf at hh
 obtain⟨t,q,e⟩:=ub hh
 rw[vW I.ss q]
 cases t with
 | false =>
  refine⟨_,_,e,fun hK=>?_⟩
  simp only[A3p,if_false]
  exact hK _ _ J β (I.put (by rw[Rep];exact⟨[],rfl,by rw[Reps]⟩))
 | true =>
  rw[cond_true] at e
  obtain⟨val,ups,s,u⟩:=Aij (o:=o) (next:=K) (Q:=Q) hC I.sim I.ss Aik e
  obtain⟨n,v⟩:=uc s
  refine⟨_,_,v,fun hK=>?_⟩
  simp only[if_true]
  refine u (fun b z hn=>?_) (fun vc w' B=>?_)
  ·rcases qe n b z with⟨_,g⟩ | ⟨g,_⟩
   ·exact g
   ·rw[hn] at g;cases g
  ·obtain⟨J',β',A,C⟩:=B
   exact hK _ _ J' β' ((I.step A (fun b x D hn=>zh n D hn)).put C)
def Eqv (a b:St):Prop:=(∀ t,F4 a.s t=F4 b.s t)∧(∀ b',An a.h b'=An b.h b')
theorem Eqv.refl (a:St):Eqv a a:=⟨fun _=>rfl,fun _=>rfl⟩
theorem Eqv.symm {a b:St} (h:Eqv a b):Eqv b a:=⟨fun t=>(h.1 t).symm,fun t=>(h.2 t).symm⟩
theorem Eqv.trans {a b c:St} (h:Eqv a b) (k:Eqv b c):Eqv a c:=⟨fun t=>(h.1 t).trans (k.1 t),fun t=>(h.2 t).trans (k.2 t)⟩
theorem Inv.eqv {nt:Nat} {J:Bool→Nat→Prop} {β:Cd} {st st2:St} {a:Act} {w:World} (I:Inv Z nt J β st a w) (h:Eqv st st2):Inv Z nt J β st2 a w:=by
 have hr:∀ {x v},Rep J β st.h w x v→Rep J β st2.h w x v:=fun q=>Rep.ext ⟨fun _ _ s=>s,fun _ _ _=>rfl,fun b x e=>⟨x,⟨by rw[←h.2 b];exact e,rfl⟩,by cases n:x.dead<;>simp⟩,fun _ _ _ _=>Az3 _⟩ q
 refine⟨⟨I.sim.jlt,I.sim.jft,I.sim.gl,fun b x e n t=>?_,fun b x e n t=>I.sim.mblk b x (by rw[h.2];exact e) n t,fun b C x x' k o o' e z=>I.sim.sep b C x x' k o o' (by rw[h.2];exact e) (by rw[h.2];exact z)⟩,⟨fun i v D=>by rw[←h.1 i];exact hr (I.ss.slot i v D),fun i hi=>by rw[←h.1 i];exact I.ss.out i hi⟩,I.tmps,I.defers,I.os,I.tape,I.output,I.size,I.frame,?_,I.jsub,I.jup,I.sizes,I.zlt,I.zge,fun b x0 x F q=>I.outs b x0 x F (by rw[h.2];exact q)⟩
 ·rcases I.sim.blk b x (by rw[h.2];exact e) n t with A | ⟨k,o,cs,ty,fr,A,G,L,S,B,T⟩
  ·exact .inl A
  ·exact .inr ⟨k,o,cs,ty,fr,A,G,L,S,⟨B.1,fun U j c s=>by
    obtain⟨u,V,X,Y⟩:=B.2 U j c s
    exact⟨u,V,hr X,Y⟩⟩,T⟩
 ·rintro k ⟨b,x,o,e,n,hs,hβ⟩ hk
  exact I.wr k ⟨b,x,o,by rw[h.2];exact e,n,hs,hβ⟩ hk
theorem qg {st:St} {k:St→O R} (hh:jE ops o st k=some r):∃ st',Eqv st st'∧k st'=some r:=by
 unfold jE at hh
 split at hh
 ·exact⟨st,Eqv.refl _,hh⟩
 ·rename_i j want v
  split at hh
  ·exact⟨st,Eqv.refl _,hh⟩
  ·rename_i t z
   split at hh
   ·rename_i b q
    have key:∀ c:Bool,b=c→Eqv st { s:=a8 st.s t (.bool c),h:=st.h }:=by
     intro c u
     refine⟨fun i=>?_,fun _=>rfl⟩
     simp only
     rw[N3]
     by_cases e:i=t
     ·subst e;rw[if_pos rfl,q,u]
     ·rw[if_neg e]
    cases n:(b==want) with
    | true =>
     rw[n] at hh
     exact⟨_,key want (by simpa using n),hh⟩
    | false =>
     rw[n] at hh
     exact⟨_,key (!want) (by cases b<;>cases want<;>simp_all),hh⟩
   ·exact⟨st,Eqv.refl _,hh⟩
theorem qh {E:Env} (hC:bI E) {Q:Exit→Act→World→Prop}:∀ (l:List Oper) {st:St} {tr:List Foot} {k:St→List Foot→O R} {a:Act} {w:World} {J:Bool→Nat→Prop} {β:Cd},
  Inv Z E.nt J β st a w→qQ E ops l st tr k=some r→(∀ st' e j w' J' β',Inv Z E.nt J' β' st' j w'→k st' e=some r→Q .normal j w')→wpList E.P ops Q l a w
 | [],st,tr,k,a,w,J,β,I,hh,hQ=>hQ st tr a w J β I hh
 | o::l,st,tr,k,a,w,J,β,I,hh,hQ=>by
  rw[qQ] at hh
  obtain⟨xe,q,hh⟩:=qg hh
  obtain⟨st',f,s,t⟩:=qf (K:=wpList E.P ops Q l) (Q:=Q) hC (I.eqv q) hh
  have:=t (fun j w' J' β' I'=>qh hC l I' s hQ)
  rw[wpList]
  split
  ·rename_i n;rw[if_pos n] at this;exact .inl this
  ·rename_i n;rw[if_neg n] at this;exact this
end
end Gx
