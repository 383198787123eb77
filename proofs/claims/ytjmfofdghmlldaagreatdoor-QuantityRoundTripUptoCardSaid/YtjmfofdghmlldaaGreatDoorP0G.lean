/- A part of the proof: what it holds is said by each theorem. -/
import GoSem.Step
import Derived.KernelRfl
import Derived.WalkKit
import Derived.Deep.MidRow
import Derived.Deep.AppendSrc
import Derived.Laws.IdiomStrings
import Derived.Deep.Upon
import Derived.Lib.Builder
import Derived.Laws.BytesString
import Derived.Lib.UnsafeStr
import Derived.Laws.Externs
import Derived.Laws.Tables
import Derived.Laws.StructEq
import Derived.ChangeKeysEq
import Derived.MapKept
set_option linter.unusedVariables false
set_option linter.defProp false
set_option linter.unusedSimpArgs false
namespace Gx
open Go
inductive AV where
 | int (k:IntKind) (n:Int)
 | bool (b:Bool)
 | str (s:List UInt8)
 | nsl
 | imm (c:List AV) (len sz:Nat) (tight org:Bool)
 | iptr (c:List AV) (org:Bool)
 | pagg (c:List AV) (org:Bool)
 | own (b off len:Nat)
 | optr (b off:Nat)
 | agg (c:List AV)
 | tup (c:List AV)
 | fn (f:Nat) (caps:List AV)
 | nilptr
 | nilfn
 | undef
 | omap (b:Nat)
structure Blk where
 dead:Bool
 sealed:Bool
 pure:Bool
 taint:Bool
 sz:Nat
 cells:List AV
 mp:Bool:=false
 ty:Option (Nat×Nat):=none
abbrev LA:=List AV
abbrev O (R:Type):=Option R
abbrev Ah:=List (Nat×Blk)
abbrev Ev:=List (Nat×AV)
def Ak:Ah→Nat→Option Blk
 | [],_=>none
 | (i,x)::r,b=>cond (Nat.beq i b) (some x) (Ak r b)
def Dk:Ah→Nat→Blk→Ah
 | [],b,y=>[(b,y)]
 | (i,x)::r,b,y=>cond (Nat.beq i b) ((b,y)::r) (cond (Nat.blt b i) ((b,y)::(i,x)::r) ((i,x)::Dk r b y))
def D2:Ev→Nat→AV
 | [],_=>.undef
 | (i,x)::r,b=>cond (Nat.beq i b) x (D2 r b)
def PW:Ev→Nat→AV→Ev
 | [],b,y=>[(b,y)]
 | (i,x)::r,b,y=>cond (Nat.beq i b) ((b,y)::r) (cond (Nat.blt b i) ((b,y)::(i,x)::r) ((i,x)::PW r b y))
structure St where
 s:Ev
 h:Ah
mutual
def YZ:Value→AV
 | .int k n=>.int k n
 | .bool b=>.bool b
 | .string ⟨⟨s⟩⟩=>.str s
 | .slice none 0 0=>.nsl
 | .pointer none=>.nilptr
 | .nilFunc=>.nilfn
 | .agg ⟨cs⟩=>.agg (H6 cs)
 | _=>.undef
def H6:List Value→List AV
 | []=>[]
 | v::r=>YZ v::H6 r
end
def ev (s:Ev):Operand→AV
 | .tmp t=>D2 s t
 | .const v=>YZ v
 | .func f=>cond (Nat.blt f 1000000) (.fn f []) .undef
 | .global _=>.undef
def Bd (P:Program) (t:TypeId):Option Nat:=(P.info? t).map (·.size)
def qM (P:Program) (t:TypeId):Option Nat:=(P.info? t).map (·.bytes)
def yv (P:Program) (t:TypeId):Bool:=((P.info? t).map (·.hasPointers)).getD true
def gQ (P:Program) (t:TypeId):Option AV:=((P.info? t).bind (·.zero)).map YZ
def Cw:LA→Bool
 | []=>true
 | .int ..::r=>Cw r
 | .bool _::r=>Cw r
 | .str _::r=>Cw r
 | .nsl::r=>Cw r
 | .nilptr::r=>Cw r
 | .nilfn::r=>Cw r
 | _=>false
def SD (P:Program) (t:TypeId):Option (LA) :=
 (P.info? t).bind fun i=>(i.zero).bind fun v=>cond (Cw (H6 v.cells.toList)&&Nat.beq v.cells.toList.length i.size) (some (H6 v.cells.toList)) none
def Y_ (op:BinOp) (k:IntKind) (a b:Int):Option AV :=
 match op with
 | .add=>some (.int k (k.wrap (a+b)))
 | .sub=>some (.int k (k.wrap (a - b)))
 | .mul=>some (.int k (k.wrap (a*b)))
 | .and=>some (.int k (k.wrap ((BitVec.ofInt k.bits a &&& BitVec.ofInt k.bits b).toNat:Int)))
 | .or=>some (.int k (k.wrap ((BitVec.ofInt k.bits a ||| BitVec.ofInt k.bits b).toNat:Int)))
 | .xor=>some (.int k (k.wrap ((BitVec.ofInt k.bits a ^^^ BitVec.ofInt k.bits b).toNat:Int)))
 | .andNot=>some (.int k (k.wrap ((BitVec.ofInt k.bits a &&& ~~~ (BitVec.ofInt k.bits b)).toNat:Int)))
 | .eql=>some (.bool (a==b))
 | .neq=>some (.bool (a != b))
 | .lss=>some (.bool (decide (a<b)))
 | .leq=>some (.bool (decide (a≤b)))
 | .gtr=>some (.bool (decide (a>b)))
 | .geq=>some (.bool (decide (a≥b)))
 | _=>none
def Mc (k k':IntKind):Bool:=decide (k=k')
def JD (P:Program) (t:TypeId):Bool:=match P.underlying t with | some .bool=>true | _=>false
def zb {R:Type} (P:Program) (t:TypeId) (op:BinOp) (x y:AV) (r:AV→O R):O R :=
 match x,y with
 | .int k a,.int k' b =>
  match op with
  | .shl=>cond (decide (b<0)) none (r (.int k (k.wrap (a*2 ^ (min b.toNat k.bits)))))
  | .shr=>cond (decide (b<0)) none (r (.int k (a.fdiv (2 ^ (min b.toNat k.bits)))))
  | .quo=>cond (Mc k k') (cond (b==0) none (r (.int k (k.wrap (a.tdiv b))))) none
  | .rem=>cond (Mc k k') (cond (b==0) none (r (.int k (a.tmod b)))) none
  | op=>cond (Mc k k') ((Y_ op k a b).bind r) none
 | .bool a,.bool b =>
  match op with
  | .eql=>cond (JD P t) (r (.bool (a==b))) none
  | .neq=>cond (JD P t) (r (.bool (!(a==b)))) none
  | _=>none
 | .str a,.str b =>
  match op with
  | .add=>cond (Nat.ble (a.length+b.length) 140737488355328) (r (.str (a++b))) none
  | .eql=>r (.bool (a==b))
  | .neq=>r (.bool (!(a==b)))
  | .lss=>r (.bool (Op.bytesLess a b))
  | .leq=>r (.bool (Op.bytesLess a b||a==b))
  | .gtr=>r (.bool (!(Op.bytesLess a b||a==b)))
  | .geq=>r (.bool (!Op.bytesLess a b))
  | _=>none
 | _,_=>none
def Ai6 (op:UnOp) (x:AV):Option AV :=
 match op,x with
 | .neg,.int k n=>some (.int k (k.wrap (0 - n)))
 | .xor,.int k n=>Y_ .xor k (cond k.signed (-1) k.max) n
 | .not,.bool b=>some (.bool (!b))
 | _,_=>none
def bp (k:IntKind):AV→Option Int
 | .int k' n=>cond (Mc k k') (some n) none
 | _=>none
def asBool:AV→Option Bool
 | .bool b=>some b
 | _=>none
def gR:AV→Option (List UInt8)
 | .str s=>some s
 | _=>none
def Ae6 (sz:Nat):AV→Option (LA×Nat)
 | .imm c len sz' _ _=>cond (Nat.beq sz sz') (some (c,len)) none
 | .nsl=>some ([],0)
 | _=>none
def Ac0:AV→Option UInt8
 | .int .u8 n=>some (UInt8.ofNat n.toNat)
 | _=>none
def SE:LA→Option (List UInt8)
 | []=>some []
 | x::r=>(Ac0 x).bind fun b=>(SE r).bind fun l=>some (b::l)
def Wz {R:Type} (step:TypeId→LA→LA→(Bool→O R)→O R) (x y:LA):List (Nat×TypeId)→(Bool→O R)→O R
 | [],k=>k true
 | (off,t)::r,k=>step t (x.drop off) (y.drop off) fun b=>Wz step x y r fun c=>k (b&&c)
def qN (P:Program) (sz:Nat) (f:Field):Bool:=match Bd P f.type with
 | some s => Nat.ble 1 s && (Nat.ble (f.offset + s) sz && !(f.name == "_"))
 | none=>false
def fI {R:Type} (P:Program):Nat→TypeId→LA→LA→(Bool→O R)→O R
 | 0,_,_,_,_=>none
 | d+1,t,x,y,k=>match P.underlying t with
  | some (.int kd)=>(x.head?).bind fun u=>(bp kd u).bind fun a=>(y.head?).bind fun v=>(bp kd v).bind fun b=>k (a==b)
  | some .bool=>(x.head?).bind fun u=>(asBool u).bind fun a=>(y.head?).bind fun v=>(asBool v).bind fun b=>k (a==b)
  | some .string=>(x.head?).bind fun u=>(gR u).bind fun a=>(y.head?).bind fun v=>(gR v).bind fun b=>k (a==b)
  | some (.struct fs)=>(Bd P t).bind fun sz=>cond (P.stoodInHeld t||!(fs.toList.all (qN P sz))) none (Wz (fI P d) x y (fs.toList.map fun f=>(f.offset,f.type)) k)
  | some (.array n e)=>(Bd P e).bind fun s=>(Bd P t).bind fun sz=>cond (Nat.ble 1 s&&Nat.ble (n*s) sz) (Wz (fI P d) x y ((List.range n).map fun i=>(i*s,e)) k) none
  | _=>none
def qO:AV→Option (LA)
 | .pagg c _=>some c
 | .agg c=>some c
 | _=>none
def Ac1 (P:Program) (t:TypeId):Bool:=match P.underlying t with | some (.struct _)=>true | some (.array _ _)=>true | _=>false
def nq {R:Type} (P:Program) (t:TypeId) (op:BinOp) (x y:AV) (r:AV→O R):O R :=
 match qO x,qO y with
 | some a,some b=>(Bd P t).bind fun s=>cond (Nat.ble 1 s&&(Nat.beq a.length s&&(Nat.beq b.length s&&(Ac1 P t&&!(P.eqGuardType P.depth t)))))
  (match op with
   | .eql=>fI P 8 t a b fun c=>r (.bool c)
   | .neq=>fI P 8 t a b fun c=>r (.bool (!c))
   | _=>none) none
 | _,_=>zb P t op x y r
def Qk {R:Type} (P:Program) (t:TypeId) (c:LA) (org:Bool) (k:Bool→O R):O R :=
 cond (yv P t) (k org) (cond (!org||Cw c) (k false) none)
def EF {R:Type} (P:Program) (t:TypeId) (c:LA) (org:Bool) (k:AV→O R):O R :=
 match P.underlying t with
 | some (.int kd)=>(c.head?).bind fun x=>(bp kd x).bind fun n=>k (.int kd n)
 | some .bool=>(c.head?).bind fun x=>(asBool x).bind fun b=>k (.bool b)
 | some .string=>(c.head?).bind fun x=>(gR x).bind fun s=>k (.str s)
 | some (.slice e)=>(Bd P e).bind fun sz=>(c.head?).bind fun x=>(Ae6 sz x).bind fun p=>k (.imm p.1 p.2 sz false org)
 | some (.struct _)=>(Bd P t).bind fun n=>cond (Nat.ble n c.length) (Qk P t (c.take n) org fun o=>k (.pagg (c.take n) o)) none
 | some (.array _ _)=>(Bd P t).bind fun n=>cond (Nat.ble n c.length) (Qk P t (c.take n) org fun o=>k (.pagg (c.take n) o)) none
 | _=>none
def Y1 {R:Type} (n:Nat) (k:AV→O R):LA→Nat→O R
 | [],_=>none
 | v::r,i=>cond (Nat.beq n i) (k v) (Y1 n k r (i+1))
def bq {R:Type} (P:Program) (t:TypeId) (c:LA) (k:AV→O R):O R :=
 match P.underlying t with
 | some (.struct _)=>(Bd P t).bind fun n=>cond (Nat.ble n c.length) (k (.agg (c.take n))) none
 | some (.array _ _)=>(Bd P t).bind fun n=>cond (Nat.ble n c.length) (k (.agg (c.take n))) none
 | some _=>(c.head?).bind k
 | none=>none
def EG {R:Type} (P:Program) (t:TypeId) (c:LA) (off:Nat) (k:AV→O R):O R :=
 match P.underlying t with
 | some (.struct _)=>(Bd P t).bind fun n=>cond (Nat.ble n (c.drop off).length) (k (.agg ((c.drop off).take n))) none
 | some (.array _ _)=>(Bd P t).bind fun n=>cond (Nat.ble n (c.drop off).length) (k (.agg ((c.drop off).take n))) none
 | some _=>Y1 off k c 0
 | none=>none
abbrev A0:=Nat→Option Blk
def D3 (g:A0) (b:Nat):Option Blk:=(g b).bind fun x=>cond x.dead none (some x)
def gS {R:Type} (P:Program) (g:A0) (t:TypeId) (p:AV) (k:AV→O R):O R :=
 match p with
 | .iptr c org=>EF P t c org k
 | .optr b off=>(D3 g b).bind fun x=>cond x.pure (EF P t (x.cells.drop off) x.taint k) (EG P t x.cells off k)
 | _=>none
def Aj (i:Int) (n:Nat):Bool:=decide (0≤i)&&decide (i<(n:Int))
def Nl {R:Type} (P:Program) (t:TypeId) (x i:AV) (k:AV→O R):O R :=
 match P.underlying t,x,i with
 | some (.slice el),.imm c len sz _ org,.int _ i=>(Bd P el).bind fun sz'=>cond (Nat.beq sz sz') (cond (Aj i len) (k (.iptr (c.drop (i.toNat*sz)) org)) none) none
 | some (.slice el),.own b off len,.int _ i=>(Bd P el).bind fun sz=>cond (Aj i len) (k (.optr b (off+i.toNat*sz))) none
 | some (.array len el),.iptr c org,.int _ i=>(Bd P el).bind fun sz=>cond (Aj i len) (k (.iptr (c.drop (i.toNat*sz)) org)) none
 | some (.array len el),.optr b off,.int _ i=>(Bd P el).bind fun sz=>cond (Aj i len) (k (.optr b (off+i.toNat*sz))) none
 | _,_,_=>none
def gC (P:Program) (t:TypeId) (f:Nat):Option (Nat×TypeId) :=
 match P.underlying t with
 | some (.struct fs)=>(fs[f]?).map fun x=>(x.offset,x.type)
 | _=>none
def Nm {R:Type} (P:Program) (t:TypeId) (x:AV) (f:Nat) (k:AV→O R):O R :=
 (gC P t f).bind fun p=>(Bd P p.2).bind fun n=>cond (Nat.beq n 0) none
 (match x with
 | .iptr c org=>k (.iptr (c.drop p.1) org)
 | .optr b off=>k (.optr b (off+p.1))
 | _=>none)
def ZA {R:Type} (P:Program) (t:TypeId) (x:AV) (f:Nat) (k:AV→O R):O R :=
 (gC P t f).bind fun p =>
 match x with
 | .pagg c org=>EF P p.2 (c.drop p.1) org k
 | .agg c=>bq P p.2 (c.drop p.1) k
 | _=>none
def ZB {R:Type} (P:Program) (t:TypeId) (x i:AV) (k:AV→O R):O R :=
 match P.underlying t,x,i with
 | some .string,.str s,.int _ i=>cond (Aj i s.length) (k (.int .u8 ((s.getD i.toNat 0).toNat:Int))) none
 | some (.array len el),.pagg c org,.int _ i=>(Bd P el).bind fun sz=>cond (Aj i len) (EF P el (c.drop (i.toNat*sz)) org k) none
 | some (.array len el),.agg c,.int _ i=>(Bd P el).bind fun sz=>cond (Aj i len) (EG P el c (i.toNat*sz) k) none
 | _,_,_=>none
def SF (o:Option AV) (d:Nat):Option Int:=match o with | none=>some (d:Int) | some (.int _ i)=>some i | _=>none
def Ql {R:Type} (lo hi mx:Option AV) (n:Nat) (k:Nat→Nat→O R):O R :=
 (SF lo 0).bind fun l=>(SF hi n).bind fun h=>(SF mx n).bind fun m=>cond (mx.isSome&&!hi.isSome) none <|
 cond (decide (0≤l)&&(decide (l≤h)&&(decide (h≤m)&&decide (m≤(n:Int))))) (k l.toNat h.toNat) none
def yw (tight:Bool) (hi mx:Option AV):Bool:=match hi,mx with | none,none=>tight | some (.int _ a),some (.int _ b)=>a==b | _,_=>false
def ZC {R:Type} (P:Program) (g:A0) (t:TypeId) (x:AV) (lo hi mx:Option AV) (k:AV→O R):O R :=
 match P.underlying t,x with
 | some .string,.str s=>cond mx.isSome none (Ql lo hi none s.length fun l h=>k (.str ((s.drop l).take (h - l))))
 | some (.slice el),.nsl=>(Bd P el).bind fun _=>Ql lo hi mx 0 fun _ _=>k .nsl
 | some (.slice el),.imm c n sz tight org=>(Bd P el).bind fun sz'=>cond (Nat.beq sz sz') (Ql lo hi mx n fun l h =>
   k (.imm ((c.drop (l*sz)).take ((h - l)*sz)) (h - l) sz (yw tight hi mx) org)) none
 | some (.slice el),.own b off n=>(Bd P el).bind fun sz=>(D3 g b).bind fun y=>cond (Nat.beq sz y.sz) (Ql lo hi mx n fun l h=>k (.own b (off+l*sz) (h - l))) none
 | _,_=>none
def Agw (P:Program) (t:TypeId) (x:AV):Option AV :=
 match P.underlying t,x with
 | some (.slice _),.nsl=>some (.int .i64 0)
 | some (.slice _),.imm _ n _ _ _=>some (.int .i64 n)
 | some (.slice _),.own _ _ n=>some (.int .i64 n)
 | some .string,.str s=>some (.int .i64 s.length)
 | some (.array n _),_=>some (.int .i64 n)
 | _,_=>none
def gT (g:A0) (sz:Nat):AV→Option (LA×Nat×Bool)
 | .nsl=>some ([],0,false)
 | .imm c n sz' _ org=>cond (Nat.beq sz sz') (some (c,n,org)) none
 | .own b off n=>(D3 g b).bind fun x=>cond (x.pure&&Nat.beq sz x.sz) (some ((x.cells.drop off).take (n*sz),n,x.taint)) none
 | .str s=>cond (Nat.beq sz 1) (some (s.map fun b=>.int .u8 (b.toNat:Int),s.length,false)) none
 | _=>none
def PX {R:Type} (P:Program) (el:TypeId) (g:A0) (sz:Nat) (x:AV) (k:LA×Nat×Bool→O R):O R :=
 (gT g sz x).bind fun q=>Qk P el q.1 q.2.2 fun o=>k (q.1,q.2.1,o)
abbrev C9:=List (Nat×Option Blk)
def K' (g:A0):AV→Option (AV×C9×Bool)
 | .own b off n=>(D3 g b).bind fun x=>cond x.pure (some (.imm ((x.cells.drop off).take (n*x.sz)) n x.sz false x.taint,[(b,some { x with sealed:=true })],x.taint)) none
 | .optr .. | .agg _ | .tup _ | .undef | .fn .. | .omap _=>none
 | .imm c n sz t org=>some (.imm c n sz t org,[],org)
 | .iptr c org=>some (.iptr c org,[],org)
 | .pagg _ _=>none
 | v=>some (v,[],false)
def Rv (g:A0):LA→Option (LA×C9×Bool)
 | []=>some ([],[],false)
 | v::r=>(K' g v).bind fun p=>(Rv g r).bind fun q=>some (p.1::q.1,p.2.1++q.2.1,p.2.2||q.2.2)
def Rd (g:A0):AV→Option (LA×C9×Bool)
 | .pagg c org=>some (c,[],org)
 | .agg c=>Rv g c
 | v=>Rv g [v]
def Gf (c:LA) (off:Nat) (vs:LA):LA:=c.take off++vs++c.drop (off+vs.length)
def Ax:C9→Nat→Bool
 | [],_=>false
 | (i,_)::r,b=>cond (Nat.beq i b) true (Ax r b)
def W0 (g:A0):AV→Bool
 | .own b _ _=>(D3 g b).isSome
 | .optr b _=>(D3 g b).isSome
 | .agg _=>false
 | .pagg _ _=>false
 | .tup _=>false
 | .undef=>false
 | .omap _=>false
 | _=>true
def Ji (g:A0):LA→Bool
 | []=>true
 | v::r=>W0 g v&&Ji g r
def setCells (c:LA) (off:Nat) (vs:LA):LA:=match vs with | [y]=>c.set off y | ys=>Gf c off ys
def ZD {R:Type} (P:Program) (g:A0) (t:TypeId) (p v:AV) (k:AV→C9→O R):O R :=
  match p with
  | .optr b off=>(D3 g b).bind fun x=>(Bd P t).bind fun n =>
    cond x.sealed none
    (cond x.pure
      ((Rd g v).bind fun q=>cond (Nat.beq q.1.length n&&(Nat.ble (off+n) x.cells.length&&!Ax q.2.1 b))
        (k .undef (q.2.1++[(b,some { x with cells:=setCells x.cells off q.1,taint:=x.taint||q.2.2 })])) none)
      (match v with
        | .agg c=>cond (Ji g c&&(Nat.beq c.length n&&Nat.ble (off+n) x.cells.length)) (k .undef [(b,some { x with cells:=Gf x.cells off c })]) none
        | .pagg c org=>cond (Nat.beq off 0&&(Nat.beq c.length n&&Nat.beq x.cells.length n)) (k .undef [(b,some { x with pure:=true,taint:=org,cells:=c })]) none
        | v=>cond (W0 g v&&(Nat.beq n 1&&Nat.blt off x.cells.length)) (k .undef [(b,some { x with cells:=x.cells.set off v })]) none))
  | _=>none
def Fc:Nat:=1000000
def nid (d:Nat):Nat:=1000000+d*16
def qP (P:Program) (t:TypeId):Option (Nat×Nat) :=
 match P.underlying t with
 | some (.struct fs)=>(fs[0]?).bind fun f=>match P.underlying f.type with
  | some (.pointer u)=>cond (Nat.beq u t) ((Bd P t).map fun n=>(t,n)) none
  | some (.struct gs)=>(gs[0]?).bind fun g=>match P.underlying g.type with
   | some (.pointer u)=>cond (Nat.beq u f.type) ((Bd P t).map fun n=>(t,n)) none
   | _=>none
  | _=>none
 | _=>none
def Md (d:Nat) (pure taint:Bool) (sz:Nat) (cells:LA):C9 :=
 [(nid d,some { dead:=false,sealed:=false,pure,taint,sz,cells })]
def tB {R:Type} (P:Program) (g:A0) (d:Nat) (t:TypeId) (v:AV) (k:AV→C9→O R):O R :=
 match v with
 | .pagg c org=>k (.optr (nid d) 0) (Md d true org 0 c)
 | .agg c =>
  cond (yv P t) (cond (Ji g c&&Nat.beq c.length ((Bd P t).getD 0)) (k (.optr (nid d) 0) [(nid d,some { dead:=false,sealed:=false,pure:=false,taint:=false,sz:=0,cells:=c,ty:=qP P t })]) none)
   ((Rv g c).bind fun q=>k (.optr (nid d) 0) (q.2.1++Md d true q.2.2 0 q.1))
 | v=>cond (W0 g v) (k (.optr (nid d) 0) (Md d false false 0 [v])) none
def D4 (sz:Nat):Blk:={ dead:=false,sealed:=false,pure:=true,taint:=false,sz,cells:=[] }
def Ac2 (co:Bool) (v:AV):AV:=match co,v with
 | true,.agg c=>cond (Cw c) (.pagg c false) (.agg c)
 | _,v=>v
def ZE {R:Type} (P:Program) (g:A0) (co:Bool) (d:Nat) (t:TypeId) (k:AV→C9→O R):O R :=
 match P.underlying t,gQ P t with
 | some (.slice el),some .nsl=>(Bd P el).bind fun sz=>k (.optr (nid d) 0) [(nid d+1,some (D4 sz)),(nid d,some { dead:=false,sealed:=false,pure:=false,taint:=false,sz:=0,cells:=[.own (nid d+1) 0 0] })]
 | _,some z=>tB P g d t (Ac2 co z) k
 | _,none=>none
def Ki (place:Nat→Option (Nat×Nat)):List (Nat×LA)→LA→Option (LA)
 | [],c=>some c
 | (i,vs)::r,c=>(place i).bind fun p=>cond (Nat.beq vs.length p.2&&Nat.ble (p.1+p.2) c.length) (Ki place r (setCells c p.1 vs)) none
def gU {R:Type} (place:Nat→Option (Nat×Nat)):List (Nat×LA)→LA→(LA→O R)→O R
 | [],c,k=>k c
 | (i,vs)::r,c,k=>(place i).bind fun p=>cond (Nat.beq vs.length p.2&&Nat.ble (p.1+p.2) c.length) (gU place r (setCells c p.1 vs) k) none
def Db (n:Nat) (z:LA):LA:=match z with | [v]=>List.replicate n v | z=>(List.replicate n z).flatten
def W1 (g:A0):List (Nat×AV)→Option (List (Nat×LA)×C9×Bool)
 | []=>some ([],[],false)
 | (i,v)::r=>(Rd g v).bind fun q=>(W1 g r).bind fun q'=>some ((i,q.1)::q'.1,q.2.1++q'.2.1,q.2.2||q'.2.2)
def Ac3:AV→Bool
 | .optr ..=>true
 | .fn _ (_::_)=>true
 | _=>false
def Nn {R:Type} (P:Program) (g:A0) (d:Nat) (t:TypeId) (len:Nat) (parts:List (Nat×AV)) (k:AV→C9→O R):O R :=
 match P.underlying t with
 | some (.slice el)=>(Bd P el).bind fun sz=>(SD P el).bind fun z =>
  cond (Nat.beq sz 1&&(Nat.ble len 16777216&&Ji g (parts.map (·.2)))) ((Ki (fun i=>some (i*1,1)) (parts.map fun p=>(p.1,[p.2])) (Db len z)).bind fun cells =>
   k (.own (nid d) 0 len) (Md d false false 1 cells)) none
 | _=>none
def Lo {R:Type} (P:Program) (g:A0) (d:Nat) (t:TypeId) (len:Nat) (parts:List (Nat×AV)) (k:AV→C9→O R):O R :=
 match P.underlying t with
 | some (.slice el)=>(Bd P el).bind fun sz=>(SD P el).bind fun z=>(W1 g parts).bind fun q =>
  cond (Nat.ble (len*sz) 16777216) (gU (fun i=>some (i*sz,sz)) q.1 (Db len z) fun cells =>
   k (.own (nid d) 0 len) (q.2.1++Md d true q.2.2 sz cells)) none
 | _=>none
def PY:AV→Bool
 | .own .. | .optr .. | .fn .. | .undef | .agg _ | .pagg _ _ | .tup _ | .omap _=>true
 | _=>false
def gV:AV→Bool
 | .agg c=>c.any PY
 | .pagg _ _=>false
 | v=>PY v
def cellsOf:AV→LA
 | .agg c=>c
 | .pagg c _=>c
 | v=>[v]
def qQ:AV→Bool
 | .imm _ _ _ _ o=>o
 | .iptr _ o=>o
 | _=>false
def br:AV→Bool
 | .pagg _ o=>o
 | .agg c=>c.any qQ
 | v=>qQ v
def Y2:AV→Bool
 | .pagg _ _=>true
 | _=>false
def SG (P:Program) (t:TypeId):Option (Nat→Option (Nat×Nat)) :=
 match P.underlying t with
 | some (.array _ e)=>(P.info? e).map fun ie=>fun i=>some (i*ie.size,ie.size)
 | some (.struct fs)=>(fs.toList.mapM fun f=>(P.info? f.type).map fun i=>(f.offset,i.size)).map fun pl=>fun i=>pl[i]?
 | _=>none
def nr (P:Program) (t:TypeId):Option (LA):=(P.info? t).bind fun i=>(i.zero).map fun v=>H6 v.cells.toList
def Ds:List (Nat×AV)→List (Nat×LA)
 | []=>[]
 | (i,v)::r=>(i,cellsOf v)::Ds r
def tC (o:Bool):AV→AV
 | .imm c n s t _=>.imm c n s t o
 | .iptr c _=>.iptr c o
 | v=>v
def gW:AV→LA
 | .agg c=>c
 | .pagg c o=>c.map (tC o)
 | v=>[v]
def Gw:List (Nat×AV)→List (Nat×LA)
 | []=>[]
 | (i,v)::r=>(i,gW v)::Gw r
def EH:AV→Bool
 | .undef=>false
 | .tup _=>false
 | .omap _=>false
 | _=>true
def qR (P:Program) (t:TypeId) (parts:List (Nat×AV)):Option AV :=
 (SG P t).bind fun place=>cond (parts.all fun p=>EH p.2) (
 cond (parts.any fun p=>Y2 p.2)
  (cond (parts.any fun p=>gV p.2) ((nr P t).bind fun z=>(Ki place (Gw parts) z).map fun c=>.agg c) ((SD P t).bind fun z=>(Ki place (Ds parts) z).map fun c=>.pagg c (parts.any fun p=>br p.2)))
  ((nr P t).bind fun z=>(Ki place (Ds parts) z).map fun c=>.agg c)) none
def qS {R:Type} (P:Program) (t:TypeId) (parts:List (Nat×AV)) (k:AV→O R):O R :=
 (SG P t).bind fun place=>cond (parts.all fun p=>EH p.2) (
 cond (parts.any fun p=>Y2 p.2)
  (cond (parts.any fun p=>gV p.2) ((nr P t).bind fun z=>gU place (Gw parts) z fun c=>k (.agg c)) ((SD P t).bind fun z=>gU place (Ds parts) z fun c=>k (.pagg c (parts.any fun p=>br p.2))))
  ((nr P t).bind fun z=>gU place (Ds parts) z fun c=>k (.agg c))) none
def Me (P:Program) (t:TypeId):List (Nat×Nat) :=
 match P.underlying t with
 | some (.struct fs)=>fs.toList.filterMap fun f=>match P.underlying f.type with | some (.slice el)=>(Bd P el).map fun s=>(f.offset,s) | _=>none
 | _=>[]
def Ec (d:Nat):List (Nat×Nat)→Nat→LA→LA×C9
 | [],_,c=>(c,[])
 | (o,sz)::r,j,c=>match c[o]? with
  | some .nsl=>((Ec d r (j+1) (c.set o (.own (nid d+j) 0 0))).1,(nid d+j,some (D4 sz))::(Ec d r (j+1) (c.set o (.own (nid d+j) 0 0))).2)
  | _=>Ec d r (j+1) c
def zc {R:Type} (P:Program) (t:TypeId) (co:Bool) (d:Nat) (v:AV) (k:AV→C9→O R):O R :=
 match co,v with
 | true,.agg c=>cond (Nat.ble (Me P t).length 14) (k (.agg (Ec d (Me P t) 1 c).1) (Ec d (Me P t) 1 c).2) none
 | _,v=>k v []
def JE {R:Type} (P:Program) (g:A0) (d:Nat) (t:TypeId) (k:AV→C9→O R):O R :=
 match gQ P t with
 | some (.agg c)=>cond (Nat.ble (Me P t).length 14&&Ji g c) (k (.optr (nid d) 0) ((Ec d (Me P t) 1 c).2++Md d false false 0 (Ec d (Me P t) 1 c).1)) none
 | _=>none
def yx (P:Program):Nat→TypeId→Nat→List (Nat×TypeId)
 | 0,t,off=>[(off,t)]
 | d+1,t,off=>match P.underlying t with
  | some (.struct fs)=>fs.toList.flatMap fun f=>yx P d f.type (off+f.offset)
  | _=>[(off,t)]
def Ac4 (P:Program) (t:TypeId):Bool:=match P.underlying t with
 | some (.int _)=>true | some .bool=>true | some .string=>true | some (.slice _)=>true | _=>false
def SH {R:Type} (P:Program) (c:LA) (org:Bool):List (Nat×TypeId)→LA→(LA→O R)→O R
 | [],acc,k=>k acc
 | (off,t)::r,acc,k=>cond (Nat.beq off acc.length&&Ac4 P t) (EF P t (c.drop off) org fun v=>SH P c org r (acc++[v]) k) none
def ZF {R:Type} (P:Program) (co:Bool) (t:TypeId) (v:AV) (k:AV→O R):O R :=
 match co,v with
 | true,.pagg c org=>SH P c org (yx P 4 t 0) [] fun l=>cond (Nat.beq c.length l.length) (k (.agg l)) none
 | _,v=>k v
def nu {R:Type} (P:Program) (d:Nat) (t:TypeId) (len cap:AV) (k:AV→C9→O R):O R :=
 match P.underlying t,len,cap with
 | some (.slice el),.int .i64 l,.int .i64 c=>(Bd P el).bind fun sz=>(qM P el).bind fun by_=>(SD P el).bind fun z =>
  cond (decide (0≤l)&&(decide (l≤c)&&(decide (c≤140737488355328)&&decide (c*(by_:Int)≤140737488355328)))) (
   k (.own (nid d) 0 l.toNat) (Md d true false sz (Db l.toNat z))) none
 | _,_,_=>none
def yy (g:A0) (sz:Nat) (s:AV):Option (LA×Nat×Bool×C9) :=
 match s with
 | .nsl=>some ([],0,false,[])
 | .imm _ n _ true _=>cond (Nat.beq n 0) (some ([],0,false,[])) none
 | .own b off n=>(D3 g b).bind fun x=>cond (x.pure&&(!x.sealed&&Nat.beq sz x.sz)) (some ((x.cells.drop off).take (n*sz),n,x.taint,[(b,none)])) none
 | _=>none
def bs (P:Program) (g:A0) (el tx:TypeId) (s:AV):Option (Nat×Nat) :=
 match s with
 | .nsl=>match P.underlying tx with | some .string=>some (el,0) | _=>none
 | .own b off _=>(D3 g b).bind fun x=>(x.ty).bind fun q=>cond (Nat.beq q.1 el&&(Nat.beq q.2 0&&Nat.beq off 0)) (some (el,0)) none
 | _=>none
def qT (P:Program) (t:TypeId):Bool:=match P.underlying t with | some (.slice _)=>true | some .string=>true | _=>false
def JF {R:Type} (P:Program) (g:A0) (d:Nat) (t tx:TypeId) (s x:AV) (k:AV→C9→O R):O R :=
 match P.underlying t with
 | some (.slice el)=>cond (qT P tx) ( (Bd P el).bind fun sz=>(qM P el).bind fun by_=>(SD P el).bind fun _ =>
  (yy g sz s).bind fun old=>PX P el g sz x fun new =>
  cond (Nat.ble (old.2.1+new.2.1) 140737488355328&&Nat.ble ((old.2.1+new.2.1)*by_) 140737488355328) (
   k (.own (nid d) 0 (old.2.1+new.2.1)) (old.2.2.2++[(nid d,some { dead:=false,sealed:=false,pure:=true,taint:=old.2.2.1||new.2.2,sz,cells:=old.1++new.1,ty:=bs P g el tx s })])) none) none
 | _=>none
def nv {R:Type} (P:Program) (g:A0) (t:TypeId) (s x:AV) (k:AV→C9→O R):O R :=
 match P.underlying t,s with
 | some (.slice el),.own b off n=>(Bd P el).bind fun sz=>(D3 g b).bind fun y=>PX P el g sz x fun new =>
  cond (y.pure&&(!y.sealed&&Nat.beq sz y.sz)) (
   k (.int .i64 (min new.2.1 n:Nat)) [(b,some { y with cells:=Gf y.cells off (new.1.take ((min new.2.1 n)*sz)),taint:=y.taint||new.2.2 })]) none
 | some (.slice el),.nsl=>(Bd P el).bind fun sz=>PX P el g sz x fun _=>k (.int .i64 0) []
 | _,_=>none
def ZG {R:Type} (P:Program) (g:A0) (t:TypeId) (s:AV) (k:AV→C9→O R):O R :=
 match P.underlying t,s with
 | some (.slice el),.own b off n=>(Bd P el).bind fun sz=>(SD P el).bind fun z=>(D3 g b).bind fun y =>
  cond (y.pure&&(!y.sealed&&Nat.beq sz y.sz)) (k (.tup []) [(b,some { y with cells:=Gf y.cells off (Db n z) })]) none
 | _,_=>none
def nw {R:Type} (P:Program) (g:A0) (d:Nat) (src dst:TypeId) (x:AV) (k:AV→C9→O R):O R :=
 match P.underlying dst with
 | some (.int kd)=>match x with | .int _ n=>cond (P.underlying src).isSome (k (.int kd (kd.wrap n)) []) none | _=>none
 | some .string=>match P.underlying src with
  | some .string=>match x with | .str s=>k (.str s) [] | _=>none
  | some (.slice el)=>match P.underlying el with
   | some (.int .u8)=>match x with
    | .str _=>none
    | x=>(gT g 1 x).bind fun q=>(SE q.1).bind fun s=>k (.str s) []
   | _=>none
  | _=>none
 | some (.slice el)=>match P.underlying src,P.underlying el,x with
  | some (.slice _),some (.int .u8),.own b off n=>cond (Nat.beq src dst&&Nat.ble 1 n) ((D3 g b).bind fun x=>cond x.sealed none (k (.own b off n) [])) none
  | some .string,some (.int .u8),.str s=>k (.own (nid d) 0 s.length) (Md d true false 1 (s.map fun b=>.int .u8 (b.toNat:Int)))
  | _,_,_=>none
 | _=>none
def ZH {R:Type} (P:Program) (g:A0) (d:Nat) (src dst:TypeId) (x:AV) (k:AV→C9→O R):O R :=
 match P.underlying dst with
 | some .unsafePointer=>match P.underlying src,x with
  | some (.pointer t),.optr b off=>(Bd P t).bind fun n=>(D3 g b).bind fun y=>cond (!(Nat.beq n 0)&&Nat.blt off y.cells.length) (k (.optr b off) []) none
  | _,_=>none
 | some (.pointer u)=>match P.underlying src,x with
  | some .unsafePointer,.optr b off=>(Bd P u).bind fun _=>(D3 g b).bind fun y=>(y.ty).bind fun q =>
    cond (Nat.blt 0 q.2&&(Nat.blt 0 y.cells.length&&liesAt P P.depth q.1 (q.2/P.cellsOf q.1) off u 1)) (k (.optr b off) []) none
  | _,_=>none
 | _=>nw P g d src dst x k
def gD:AV→Option UInt8
 | .int .u8 n=>cond (decide (((UInt8.ofNat n.toNat).toNat:Int)=n)) (some (UInt8.ofNat n.toNat)) none
 | _=>none
def O8:LA→Option (List UInt8)
 | []=>some []
 | x::r=>(gD x).bind fun b=>(O8 r).bind fun l=>some (b::l)
def No {R:Type} (g:A0) (x:AV) (k:AV→C9→O R):O R :=
 match x with
 | .nsl=>k .nilptr []
 | .own b off n=>(D3 g b).bind fun _=>cond (Nat.blt 0 n) (k (.optr b off) []) none
 | _=>none
def Np {R:Type} (P:Program) (g:A0) (t:TypeId) (x n:AV) (k:AV→C9→O R):O R :=
 match x,n with
 | .nilptr,.int .i64 n=>cond (n==0) (k (.str []) []) none
 | .optr b off,.int .i64 n=>(D3 g b).bind fun y=>(y.ty).bind fun q=>match P.underlying t with
  | some (.pointer e)=>cond (Nat.beq q.1 e&&(Nat.beq (P.cellsOf e) 1&&(y.pure&&(!y.sealed&&(Nat.beq off 0&&(decide (0<n)&&(decide (n≤(y.cells.length:Int))&&decide (n≤9223372036854775807))))))))
    ((O8 (y.cells.take n.toNat)).bind fun s=>k (.str s) [(b,none)]) none
  | _=>none
 | _,_=>none
def gX:LA→Int→Bool
 | [],_=>false
 | .int _ m::r,n=>cond (n==m) true (gX r n)
 | _::r,n=>gX r n
def Ac5 (c:LA) (n:Int):LA:=cond (gX c n) c (c++[.int .i64 n])
def qU (P:Program) (t:TypeId):Bool:=match P.underlying t with
 | some (.map k e)=>(match P.underlying k with | some (.int .i64)=>true | _=>false)&&(match gQ P e with | some (.bool false)=>true | _=>false)
 | _=>false
def Rw {R:Type} (d:Nat) (r:Option AV) (k:AV→C9→O R):O R :=
 match r with
 | none=>k (.omap (nid d)) [(nid d,some { dead:=false,sealed:=false,pure:=true,taint:=false,sz:=0,cells:=[],mp:=true })]
 | some _=>none
def ZI {R:Type} (P:Program) (g:A0) (t:TypeId) (m key val:AV) (k:AV→C9→O R):O R :=
 match m,key,val with
 | .omap b,.int .i64 n,.bool true=>cond (qU P t) ((D3 g b).bind fun x=>cond (x.mp&&Nat.beq x.sz 0) (k .undef [(b,some { x with cells:=Ac5 x.cells n })]) none) none
 | _,_,_=>none
def nx {R:Type} (P:Program) (g:A0) (t:TypeId) (m key:AV) (comma:Bool) (k:AV→O R):O R :=
 match m,key,comma with
 | .omap b,.int .i64 n,false=>cond (qU P t) ((D3 g b).bind fun x=>cond (x.mp&&Nat.beq x.sz 0) (k (.bool (gX x.cells n))) none) none
 | _,_,_=>none
def W2 (s:List UInt8) (p:Int):Nat×Nat:=Utf8.decode ⟨⟨s⟩⟩ p.toNat
def ZJ {R:Type} (P:Program) (d:Nat) (t:TypeId) (x:AV) (k:AV→C9→O R):O R :=
 match P.underlying t,x with
 | some .string,.str s=>k (.omap (nid d)) [(nid d,some { dead:=false,sealed:=false,pure:=true,taint:=false,sz:=1,cells:=[.str s,.int .i64 0],mp:=true })]
 | _,_=>none
def ny {R:Type} (g:A0) (it:AV) (isString:Bool) (k:AV→C9→O R):O R :=
 match it,isString with
 | .omap b,true=>(D3 g b).bind fun x=>cond (x.mp&&Nat.beq x.sz 1)
  (match x.cells with
   | [.str s,.int .i64 p]=>cond (decide (p<(s.length:Int)))
     (k (.tup [.bool true,.int .i64 p,.int .i32 ((W2 s p).1:Nat)]) [(b,some { x with cells:=[.str s,.int .i64 (p+((W2 s p).2:Nat))] })]) (k (.tup [.bool false]) [])
   | _=>none) none
 | _,_=>none
def Ac6 (g:A0) (x y:AV):Option Bool :=
 match x,y with
 | .nilptr,.nilptr=>some true
 | .nilptr,.optr _ _=>some false
 | .optr _ _,.nilptr=>some false
 | .nilptr,.iptr _ _=>some false
 | .iptr _ _,.nilptr=>some false
 | .optr b o,.optr b' o'=>(D3 g b).bind fun _=>cond (Nat.beq b b') (some (Nat.beq o o')) none
 | _,_=>none
def wi (P:Program) (t:TypeId):Bool:=match P.underlying t with
 | some (.pointer e)=>match Bd P e with | some n=>!(Nat.beq n 0) | none=>false
 | _=>false
def nz {R:Type} (P:Program) (g:A0) (t:TypeId) (op:BinOp) (x y:AV) (r:AV→O R):O R :=
 match Ac6 g x y with
 | some b=>cond (wi P t) (match op with
  | .eql=>r (.bool b)
  | .neq=>r (.bool (!b))
  | _=>none) none
 | none=>nq P t op x y r
mutual
def Ew:AV→List Nat
 | .own b _ _=>[b]
 | .optr b _=>[b]
 | .omap b=>[b]
 | .agg c=>Fw c
 | .tup c=>Fw c
 | .fn _ c=>Fw c
 | _=>[]
def Fw:List AV→List Nat
 | []=>[]
 | v::r=>Ew v++Fw r
end
mutual
def KU (ρ:Nat→Nat):AV→AV
 | .own b off n=>.own (ρ b) off n
 | .optr b off=>.optr (ρ b) off
 | .omap b=>.omap (ρ b)
 | .agg c=>.agg (P6 ρ c)
 | .tup c=>.tup (P6 ρ c)
 | .fn f c=>.fn f (P6 ρ c)
 | v=>v
def P6 (ρ:Nat→Nat):List AV→List AV
 | []=>[]
 | v::r=>KU ρ v::P6 ρ r
end
def Y3 (g:A0):AV→Option (AV×Bool)
 | .own b off n=>(D3 g b).bind fun x=>cond x.pure (some (.imm ((x.cells.drop off).take (n*x.sz)) n x.sz false (!x.sealed||x.taint),!x.sealed||x.taint)) none
 | .imm c n sz _ org=>some (.imm c n sz false org,org)
 | .iptr c org=>some (.iptr c org,org)
 | .optr .. | .agg _ | .tup _ | .undef | .fn .. | .pagg .. | .omap _=>none
 | v=>some (v,false)
def EI (g:A0):LA→Option (LA×Bool)
 | []=>some ([],false)
 | v::r=>(Y3 g v).bind fun p=>(EI g r).bind fun q=>some (p.1::q.1,p.2||q.2)
def qV (g:A0):AV→Option (AV×Bool)
 | .own b off n=>(D3 g b).bind fun x=>cond x.pure (some (.imm ((x.cells.drop off).take (n*x.sz)) n x.sz false (!x.sealed||x.taint),!x.sealed)) none
 | .imm c n sz _ org=>some (.imm c n sz false org,false)
 | .optr b off=>(D3 g b).bind fun x=>cond x.pure (some (.iptr (x.cells.drop off) (!x.sealed||x.taint),!x.sealed)) none
 | .agg c=>(EI g c).bind fun q=>some (.pagg q.1 q.2,true)
 | .fn f []=>some (.fn f [],false)
 | .fn _ _ | .tup _ | .undef | .omap _=>none
 | v=>some (v,false)
def Gb (d:Nat):List (Nat×Nat)→Nat→Nat
 | [],_=>d
 | (i,x)::r,b=>cond (Nat.beq i b) x (Gb d r b)
def Fx:List Nat→Nat→Bool
 | [],_=>false
 | i::r,b=>cond (Nat.beq i b) true (Fx r b)
def bu:List Nat→List Nat→List Nat
 | [],acc=>acc.reverse
 | i::r,acc=>cond (Fx acc i) (bu r acc) (bu r (i::acc))
def EJ:List Nat→Bool
 | []=>true
 | i::r=>!Fx r i&&EJ r
def Ar (base:Nat):List Nat→List (Nat×Nat)
 | []=>[]
 | i::r=>(i,base)::Ar (base+1) r
def Hi (g:A0):List Nat→List Nat
 | []=>[]
 | b::r=>(match g b with | some x=>cond x.pure [] (Fw x.cells) | none=>[])++Hi g r
def Rx (g:A0) (ids:List Nat):List Nat:=bu (ids++Hi g (ids++Hi g ids)) []
def EK (g:A0):List Nat→Bool
 | []=>true
 | b::r=>(match g b with | some x=>!x.dead | none=>false)&&EK g r
def T7 (ρ:Nat→Nat) (x:Blk):Blk:={ x with cells:=cond x.pure x.cells (P6 ρ x.cells) }
def sub (g:A0) (ρ:Nat→Nat):List Nat→Ah
 | []=>[]
 | b::r=>match g b with
  | some x=>Dk (sub g ρ r) (ρ b) (T7 ρ x)
  | none=>sub g ρ r
structure Tw where
 runK:{R:Type}→List AV→Ah→(AV→Ah→O R)→O R
 eq:∀ {R:Type} (args:List AV) (h:Ah) (k:AV→Ah→O R),runK args h k=(runK args h fun v h'=>some (v,h')).bind fun p=>k p.1 p.2
def SI {R:Type}:List (Nat×Tw)→Nat→LA→Ah→(AV→Ah→O R)→O R
 | [],_,_,_,_=>none
 | (g,t)::r,f,args,h,k=>cond (Nat.beq g f) (t.runK args h k) (SI r f args h k)
structure Env where
 P:Program
 nt:Nat
 muts:Nat→List Bool
 nils:List (Nat×Nat)
 free:List Nat
 cob:List Nat
 tbl:List (Nat×Tw)
mutual
def V4:AV→Bool
 | .imm _ _ _ _ o=>o
 | .iptr _ o=>o
 | .pagg _ o=>o
 | .agg c=>Ol c
 | .tup c=>Ol c
 | .fn _ c=>Ol c
 | _=>false
def Ol:List AV→Bool
 | []=>false
 | v::r=>V4 v||Ol r
end
def SK:Ah→Bool
 | []=>false
 | (_,x)::r=>x.taint||(cond x.pure false (Ol x.cells))||SK r
def Gy (g:A0):LA→List Nat
 | []=>[]
 | .own b _ _::r=>match g b with | some x=>cond x.sealed (Gy g r) (b::Gy g r) | none=>Gy g r
 | _::r=>Gy g r
def W3 (g:A0):AV→List Nat
 | .own b _ _=>match g b with | some x=>cond x.sealed [] [b] | none=>[]
 | .optr b _=>match g b with | some x=>cond x.sealed [] [b] | none=>[]
 | .agg c=>Gy g c
 | _=>[]
def W4 (g:A0):List Bool→LA→Option (LA×List Nat×List Nat)
 | _,[]=>some ([],[],[])
 | ms,v::r =>
  cond (ms.headD false)
   ((W4 g ms.tail r).bind fun q=>some (v::q.1,Ew v++q.2.1,q.2.2))
   ((qV g v).bind fun p=>(W4 g ms.tail r).bind fun q=>some (p.1::q.1,q.2.1,W3 g v++q.2.2))
def BF (ids:List Nat):List Nat→Bool
 | []=>true
 | b::r=>Fx ids b&&BF ids r
def tD:List Nat→List Nat→Bool
 | [],_=>true
 | i::r,l=>!Fx l i&&tD r l
def qW:List Nat→Bool
 | []=>true
 | _=>false
def oA {R:Type} (E:Env) (g:A0) (d:Nat) (f:Nat) (args:LA) (k:AV→C9→O R):O R :=
 (W4 g (E.muts f) args).bind fun q =>
 let ids:=Rx g q.2.1
 let tin:=Ar 100000 ids
 let outs:=tin.map (·.2)
 cond (EK g ids&&(BF ids q.2.1&&(BF ids (Hi g ids)&&(tD q.2.2 ids&&(EJ (ids.map (Gb 0 tin))&&Nat.ble ids.length 100000))))) (
  SI E.tbl f (P6 (Gb 0 tin) q.1) (sub g (Gb 0 tin) ids) fun rv rh =>
  let all:=Rx (Ak rh) (Ew rv++outs)
  let new:=all.filter fun b=>!Fx outs b
  let tnew:=Ar (nid d) new
  let σ:=Gb 0 ((tin.map fun p=>(p.2,p.1))++tnew)
  cond (!qW q.2.2&&(V4 rv||SK rh)) none
   (cond (EK (Ak rh) new&&(Nat.ble new.length 16&&(BF all (Ew rv)&&(BF all outs&&(BF all (Hi (Ak rh) all)&&EJ (all.map σ))))))
    (k (KU σ rv) ((tin.map fun p=>(p.1,(Ak rh p.2).map (T7 σ)))++tnew.map fun p=>(p.2,(Ak rh p.1).map (T7 σ)))) none)) none
def oB {R:Type} (c a b:AV) (k:AV→O R):O R :=
 match c,a,b with
 | .bool t,.bool x,.bool y=>k (.bool (cond t x y))
 | .bool t,x,.tup []=>cond t (k x) none
 | .bool t,.tup [],y=>cond t none (k y)
 | .bool t,x,y=>cond t (k x) (k y)
 | _,_,_=>none
def qX (P : Program) (f : Nat) : Bool := match P.funcs[f]? with | some fn => fn.body.isSome && !(fn.name == "runtime.NumGoroutine") | none => false
def Ac7 (P : Program) (f : Nat) : Bool := match P.funcs[f]? with | some fn => fn.body.isNone && (fn.name == "internal/abi.NoEscape" && fn.origin == "") | none => false
def zd (a b:Int):Int:=cond (decide (b<a)) b a
def PZ (a b:Int):Int:=cond (decide (b>a)) b a
def ze:AV→AV→Option AV
 | .int k a,.int _ b=>some (.int k (zd a b))
 | _,_=>none
def zf:AV→AV→Option AV
 | .int k a,.int _ b=>some (.int k (PZ a b))
 | _,_=>none
def mW {R:Type} (E:Env) (g:A0) (d:Nat) (v:Operand→AV) (o:Op) (k:AV→C9→O R):O R :=
 match o with
 | .move x=>k (v x) []
 | .assign x=>k (v x) []
 | .pick c a b=>oB (v c) (v a) (v b) fun r=>k r []
 | .alloc t=>cond (Fx E.cob (d+1000000)) (JE E.P g d t k) (ZE E.P g (Fx E.cob d) d t k)
 | .box t x=>ZF E.P (Fx E.cob d) t (v x) fun u=>tB E.P g d t u k
 | .build t parts=>qS E.P t (parts.toList.map fun p=>(p.1,v p.2)) fun r=>zc E.P t (Fx E.cob d) d r k
 | .buildSlice t len parts=>cond ((parts.toList.map fun p=>(p.1,v p.2)).any fun p=>Ac3 p.2) (Nn E.P g d t len (parts.toList.map fun p=>(p.1,v p.2)) k) (Lo E.P g d t len (parts.toList.map fun p=>(p.1,v p.2)) k)
 | .load t a=>gS E.P g t (v a) fun r=>k r []
 | .store t a x=>ZD E.P g t (v a) (v x) k
 | .nilCheck x=>match v x with | .iptr c o=>k (.iptr c o) [] | .optr b o=>k (.optr b o) [] | _=>none
 | .binOp op t x y _=>nz E.P g t op (v x) (v y) fun r=>k r []
 | .unOp op _ x=>(Ai6 op (v x)).bind fun r=>k r []
 | .convert s t x=>ZH E.P g d s t (v x) k
 | .makeFunc (.func f) first caps=>cond (Nat.blt f 1000000) (k (.fn (f+1000000*first.toList.length) ((first.toList++caps.toList).map v)) []) none
 | .makeSlice t l c=>nu E.P d t (v l) (v c) k
 | .slice t x lo hi mx=>ZC E.P g t (v x) (lo.map v) (hi.map v) (mx.map v) fun r=>k r []
 | .fieldAddr t x f=>Nm E.P t (v x) f fun r=>k r []
 | .field t x f=>ZA E.P t (v x) f fun r=>k r []
 | .indexAddr t x i=>Nl E.P t (v x) (v i) fun r=>k r []
 | .index t x i=>ZB E.P t (v x) (v i) fun r=>k r []
 | .makeMap _ r=>Rw d (r.map v) k
 | .mapUpdate t m x y=>ZI E.P g t (v m) (v x) (v y) k
 | .lookup t m x c=>nx E.P g t (v m) (v x) c fun r=>k r []
 | .range t x=>ZJ E.P d t (v x) k
 | .next it s=>ny g (v it) s k
 | .extract t i=>match v t with | .tup vs=>(vs[i]?).bind fun r=>k r [] | _=>none
 | .call c=>match c.callee with
  | .builtin .len=>match c.args.toList,c.argTypes.toList with | [x],[t]=>(Agw E.P t (v x)).bind fun r=>k r [] | _,_=>none
  | .builtin .append=>match c.args.toList,c.argTypes.toList with | [s,x],[t,tx]=>JF E.P g d t tx (v s) (v x) k | _,_=>none
  | .builtin .copy=>match c.args.toList,c.argTypes.toList with | [s,x],[t,_]=>nv E.P g t (v s) (v x) k | _,_=>none
  | .builtin .clear=>match c.args.toList,c.argTypes.toList with | [x],[t]=>ZG E.P g t (v x) k | _,_=>none
  | .builtin .min=>match c.args.toList with | [x,y]=>(ze (v x) (v y)).bind fun r=>k r [] | [x,y,z]=>(ze (v x) (v y)).bind fun q=>(ze q (v z)).bind fun r=>k r [] | _=>none
  | .builtin .max=>match c.args.toList with | [x,y]=>(zf (v x) (v y)).bind fun r=>k r [] | [x,y,z]=>(zf (v x) (v y)).bind fun q=>(zf q (v z)).bind fun r=>k r [] | _=>none
  | .builtin .unsafeSliceData=>match c.args.toList with | [x]=>No g (v x) k | _=>none
  | .builtin .unsafeString=>match c.args.toList,c.argTypes.toList with | [x,y],[t,_]=>Np E.P g t (v x) (v y) k | _,_=>none
  | .value fo=>match v fo with
   | .fn f caps=>cond (qX E.P (f%1000000)) (oA E g d (f%1000000) (caps.take (f/1000000)++(c.args.toList.map v++caps.drop (f/1000000))) k)
     (cond (Ac7 E.P (f%1000000)) (match caps,c.args.toList.map v with | [],[x]=>k x [] | _,_=>none) none)
   | _=>none
  | _=>none
 | _=>none
structure Foot where
 r:List Nat
 w:Option Nat
 f:List Nat
 u:List Nat
def P_:List Operand→List Nat
 | []=>[]
 | .tmp t::r=>t::P_ r
 | _::r=>P_ r
def Ai:C9→Ah→Ah
 | [],h=>h
 | (b,some x)::r,h=>Ai r (Dk h b x)
 | (b,none)::r,h=>Ai r (match Ak h b with | some x=>Dk h b { x with dead:=true,pure:=true,cells:=[] } | none=>h)
def JG (ops:Array Oper) (o:Oper):Option (Nat×Bool) :=
 match o.guard with
 | none=>none
 | some (j,want)=>((ops[j]?).bind (·.dst)).map fun t=>(t,want)
def Y4 (ops:Array Oper) (s:Ev) (o:Oper):Option Bool :=
 match o.guard with
 | none=>some true
 | some (j,want)=>match (ops[j]?).bind (·.dst) with
  | some t=>match D2 s t with
   | .bool b=>some (b==want)
   | .tup []=>some false
   | _=>none
  | none=>some false
def wk (nt:Nat) (s:Ev) (d:Option Nat) (v:AV):Ev:=match d with | some d=>cond (Nat.blt d nt) (PW s d v) s | none=>s
def yz:Op→Bool
 | .binOp op ..=>match op with | .eql | .neq=>true | _=>false
 | .move _ | .assign _ | .pick .. | .build .. | .unOp .. | .makeFunc .. | .fieldAddr .. | .field .. | .indexAddr .. | .index .. | .extract .. | .nilCheck _=>false
 | .call c=>match c.callee with
  | .builtin .len | .builtin .min | .builtin .max=>false
  | _=>true
 | _=>true
def zA:Op→Bool
 | .load .. | .binOp ..=>true
 | _=>false
def Pw (h:Ah) (op:Op) (vals:LA):List Nat:=cond (yz op) (cond (zA op) (bu (Fw vals) []) (Rx (Ak h) (Fw vals))) []
def W5 (d b:Nat):Bool:=Nat.ble (nid d) b&&Nat.blt b (nid d+16)
def LB (d:Nat) (F:List Nat) (h:Ah):C9→Bool
 | []=>true
 | (b,_)::r=>cond (W5 d b) (Ak h b).isNone (Fx F b&&(Ak h b).isSome)&&LB d F h r
def tE {R:Type} (E:Env) (ops:Array Oper) (o:Oper) (st:St) (k:St→Foot→O R):O R :=
 (Y4 ops st.s o).bind fun wanted=>cond wanted (
  mW E (fun b=>cond (Fx (Pw st.h o.op (o.op.operands.toList.map (ev st.s))) b) (Ak st.h b) none) (o.dst.getD 50000) (ev st.s) o.op fun v ups =>
  cond (LB (o.dst.getD 50000) (Pw st.h o.op (o.op.operands.toList.map (ev st.s))) st.h ups)
   (k { s:=wk E.nt st.s o.dst v,h:=Ai ups st.h } { r:=(match JG ops o with | some p=>[p.1] | none=>[])++P_ o.op.operands.toList,w:=o.dst,f:=Pw st.h o.op (o.op.operands.toList.map (ev st.s)),u:=ups.map (·.1) }) none)
  (k { st with s:=wk E.nt st.s o.dst (.tup []) } { r:=(match JG ops o with | some p=>[p.1] | none=>[]),w:=o.dst,f:=[],u:=[] })
def ZK {R:Type} (ops:Array Oper) (o:Oper) (st:St) (k:St→O R):O R :=
 match o.guard with
 | none=>k st
 | some (j,want)=>match (ops[j]?).bind (·.dst) with
  | none=>k st
  | some t=>match D2 st.s t with
   | .bool b=>cond (b==want) (k { s:=PW st.s t (.bool want),h:=st.h }) (k { s:=PW st.s t (.bool (!want)),h:=st.h })
   | _=>k st
def gY {R:Type} (E:Env) (ops:Array Oper):List Oper→St→List Foot→(St→List Foot→O R)→O R
 | [],st,tr,k=>k st tr
 | o::r,st,tr,k=>ZK ops o st fun st=>tE E ops o st fun st f=>gY E ops r st (f::tr) k
def Ai0:Option Nat→List Nat→Bool
 | none,_=>false
 | some d,l=>Fx l d
def bw (a b:Foot):Bool :=
 !Ai0 a.w b.r&&!Ai0 b.w a.r&&(match a.w,b.w with | some x,some y=>!Nat.beq x y | _,_=>true)&&tD a.u (b.f++b.u)&&tD b.u a.f
def EL (e:Edge):Bool:=match e.ground with | .textOnly _=>false | .gcOnly _=>false | _=>true
def Y5 (o:Oper):List Nat:=(o.after.toList.filter EL).map (·.on)
def qY {α:Type}:List Nat→(List Nat→α)→α
 | [],k=>k []
 | i::r,k=>qY r fun s=>k (i::s)
theorem W6 {α:Type}:∀ (l:List Nat) (k:List Nat→α),qY l k=k l
 | [],_=>rfl
 | i::r,k=>by rw[qY,W6 r]
def Es:List Oper→List (List Nat)→List (List Nat)
 | [],acc=>acc
 | o::r,acc=>qY (bu (Y5 o++((Y5 o).flatMap fun i=>(acc[i]?).getD [])) []) fun a=>Es r (acc++[a])
def Re:Nat→List Oper→Bool
 | _,[]=>true
 | i,o::r=>(o.after.toList.all fun e=>!EL e||Nat.blt e.on i)&&Re (i+1) r
def SL (f:Foot) (anc:List Nat):Nat→List Foot→Bool
 | _,[]=>true
 | i,g::r=>(Fx anc i||bw g f)&&SL f anc (i+1) r
def JH:List Foot→List (List Nat)→List Foot→Bool
 | [],_,_=>true
 | f::r,a::az9,seen=>SL f a 0 seen&&JH r az9 (seen++[f])
 | _::_,[],_=>false
def Hj (b:Nat):Nat:=cond (Nat.ble Fc b) (b - Fc) b
mutual
def Ry (g:A0):AV→AV
 | .own b off n=>match D3 g b with | some _=>.own (Hj b) off n | none=>.undef
 | .optr b off=>match D3 g b with | some _=>.optr (Hj b) off | none=>.undef
 | .omap b=>match D3 g b with | some _=>.omap (Hj b) | none=>.undef
 | .agg c=>.agg (Gz g c)
 | .tup c=>.tup (Gz g c)
 | .fn f c=>.fn f (Gz g c)
 | v=>v
def Gz (g:A0):List AV→List AV
 | []=>[]
 | v::r=>Ry g v::Gz g r
end
def ZL (g:A0) (K:List Nat):Ev→Ev
 | []=>[]
 | (t,v)::r=>cond (Fx K t) ((t,Ry g v)::ZL g K r) (ZL g K r)
def gZ (K:List Nat):Ev→List Nat
 | []=>[]
 | (t,v)::r=>cond (Fx K t) (Ew v++gZ K r) (gZ K r)
def Rz (g:A0):List Nat→Ah
 | []=>[]
 | b::r=>match D3 g b with
  | some x=>Dk (Rz g r) (Hj b) { x with cells:=cond x.pure x.cells (Gz g x.cells) }
  | none=>Rz g r
def Ua (g:A0) (ids:List Nat):List Nat:=ids.filter fun b=>match D3 g b with | some _=>true | none=>false
def g8 (g:A0) (ids:List Nat):List Nat→Bool
 | []=>true
 | b::r=>(Fx ids b||(D3 g b).isNone)&&g8 g ids r
def zB:List Nat→Bool
 | []=>true
 | b::r=>cond (Nat.ble Fc b) (Nat.blt (Hj b) 100000) true&&zB r
def clean (K roots:List Nat) (st:St):Option St :=
 let g:=Ak st.h
 let ids:=Ua g (Rx g (gZ K st.s++roots))
 cond (EJ (ids.map Hj)&&(g8 g ids (gZ K st.s)&&(g8 g ids (Hi g ids)&&zB ids))) (some { s:=ZL g K st.s,h:=Rz g ids }) none
def JI {R:Type} (E:Env) (roots:List Nat) (ops:Array Oper) (draw:Bool) (st:St) (k:St→O R):O R :=
 gY E ops ops.toList st [] fun st tr =>
  cond (!draw||(Re 0 ops.toList&&JH tr.reverse (Es ops.toList []) [])) ((clean (st.s.map (·.1)) roots st).bind k) none
def g9 (b:Nat):Bool:=Nat.ble 100000 b&&Nat.blt b 200000
def Y6 (live:List Nat):List (Nat×Nat)→St→Option St
 | [],st=>some st
 | (t,sz)::r,st=>cond (Nat.ble 1000000 sz)
  (match Fx live t,D2 st.s t with
  | true,.nsl=>Y6 live r { s:=PW st.s t (.imm [] 0 (sz - 1000000) false false),h:=st.h }
  | true,.own b off n=>(K' (Ak st.h) (.own b off n)).bind fun q=>Y6 live r { s:=PW st.s t q.1,h:=Ai q.2.1 st.h }
  | _,_=>Y6 live r st)
  (match Fx live t,D2 st.s t with
  | true,.nsl=>cond (Ak st.h (nid t+15)).isSome none (Y6 live r { s:=PW st.s t (.own (nid t+15) 0 0),h:=Dk st.h (nid t+15) (D4 sz) })
  | _,_=>Y6 live r st)
def W7 (free:List Nat) (b:Nat):Bool:=g9 b&&!Fx free b
def Ac8 (free ids:List Nat):List (Nat×Nat):=Ar 300000 (ids.filter fun b=>!W7 free b)
def R3 (free ids:List Nat) (b:Nat):Nat:=cond (W7 free b) b (Gb 0 (Ac8 free ids) b)
def Ac9 (ρ:Nat→Nat) (K:List Nat):Ev→Ev
 | []=>[]
 | (t,v)::r=>cond (Fx K t) ((t,KU ρ v)::Ac9 ρ K r) (Ac9 ρ K r)
def SM (E:Env) (live roots:List Nat) (st:St):Option St :=
 (Y6 live E.nils st).bind fun st =>
 let g:=Ak st.h
 let ids:=Ua g (Rx g (gZ live st.s++roots))
 cond (EJ (ids.map (R3 E.free ids))&&(BF ids (gZ live st.s)&&(BF ids (Hi g ids)&&Nat.ble ids.length 100000))) (some { s:=Ac9 (R3 E.free ids) live st.s,h:=sub g (R3 E.free ids) ids }) none
inductive Hint where
 | leaf
 | node (live:List Nat) (a b:Hint)
 | join (live:List Nat) (a b:Hint)
def Hint.live:Hint→List Nat
 | .leaf=>[]
 | .node l _ _=>l
 | .join l _ _=>l
def Hint.a:Hint→Hint
 | .leaf=>.leaf
 | .node _ a _=>a
 | .join _ a _=>a
def Hint.b:Hint→Hint
 | .leaf=>.leaf
 | .node _ _ b=>b
 | .join _ _ b=>b
def Hint.isJoin:Hint→Bool
 | .join _ _ _=>true
 | _=>false
noncomputable def Ag {α:Type} (a:α):{ x:α // x=a }:=Classical.choice ⟨⟨a,rfl⟩⟩
noncomputable def Ada {R:Type} (j:Bool) (f:St→O R):St→O R:=cond j (Ag f).1 f
theorem Ub {R:Type} (j:Bool) (f:St→O R):Ada j f=f:=by cases j;rfl;exact(Ag f).2
noncomputable def zg {R:Type} (E:Env) (roots:List Nat) (H:Hint) (f:St→O R) (st:St):O R:=cond H.isJoin ((SM E H.live roots st).bind (Ada true f)) (f st)
def EM {R:Type} (cn:St→Option St) (body:(St→O R)→St→O R):Nat→St→O R
 | 0,_=>none
 | n+1,st=>body (fun st=>(cn st).bind (EM cn body n)) st
noncomputable def D5 {R:Type} (E:Env) (roots:List Nat) (N:Nat):Code→Hint→(St→O R)→(Nat→St→O R)→(St→O R)→St→O R
 | .skip,_,k,_,_,st=>k st
 | .region _ ops draw,_,k,_,_,st=>JI E roots ops draw st k
 | .seq a b,H,k,x,r,st=>D5 E roots N a H.a (zg E roots H fun st=>D5 E roots N b H.b k x r st) x r st
 | .cond c a b,H,k,x,r,st=>match ev st.s c with
  | .bool t=>cond t (D5 E roots N a H.a k x r st) (D5 E roots N b H.b k x r st)
  | _=>none
 | .block id c,H,k,x,r,st=>D5 E roots N c H.a k (fun j st=>cond (Nat.beq j id) (k st) (x j st)) r st
 | .loop c,H,_,x,r,st=>(SM E H.live roots st).bind (Ada true (EM (SM E H.live roots) (fun k st=>D5 E roots N c H.a k x r st) N))
 | .exit id,_,_,x,_,st=>x id st
 | .ret,_,_,_,r,st=>r st
 | _,_,_,_,_,_=>none
def Jj {R:Type} (E:Env) (st:St):List ResultVar→LA→(LA→O R)→O R
 | [],acc,k=>k acc.reverse
 | .tmp t::r,acc,k=>Jj E st r (D2 st.s t::acc) k
 | .cell a t::r,acc,k=>gS E.P (Ak st.h) t (D2 st.s a) fun v=>Jj E st r (v::acc) k
def Agx (g:A0) (i:Nat) (m:Nat×Nat) (v:AV):Option (AV×C9) :=
 cond (Nat.beq m.1 0) (some (v,[]))
 (cond (Nat.beq m.1 1) (match v with
  | .nsl=>some (.imm [] 0 m.2 false false,[])
  | .imm c n sz _ o=>some (.imm c n sz false o,[])
  | .own b off n=>(K' g (.own b off n)).bind fun q=>some (q.1,q.2.1)
  | _=>none)
 (cond (Nat.beq m.1 2) (match v with
  | .nsl=>cond (g (nid 90000+i)).isSome none (some (.own (nid 90000+i) 0 0,[(nid 90000+i,some (D4 m.2))]))
  | v=>some (v,[]))
 (match v with
  | .agg c=>(Rv g c).bind fun q=>some (.pagg q.1 q.2.2,q.2.1)
  | .pagg c o=>some (.pagg c o,[])
  | _=>none)))
def tF (h:Ah):Nat→List (Nat×Nat)→LA→Option (LA×Ah)
 | _,_,[]=>some ([],h)
 | i,ms,v::r=>(Agx (Ak h) i (ms.headD (0,0)) v).bind fun p=>(tF (Ai p.2 h) (i+1) ms.tail r).bind fun q=>some (p.1::q.1,q.2)
def Agy (l:LA):AV:=match l with | [v]=>v | l=>.tup l
def Qm {R:Type} (E:Env) (fn:Func) (modes:List (Nat×Nat)) (outs:List Nat) (k:AV→Ah→O R) (st:St):O R :=
 Jj E st fn.results.toList [] fun l =>
 (tF st.h 0 modes l).bind fun q =>
 let v:=Agy q.1
 let g:=Ak q.2
 let ids:=Ua g (Rx g (Ew v++outs))
 cond (EJ (ids.map (R3 E.free ids))&&(BF ids (Ew v)&&(BF ids (Hi g ids)&&Nat.ble ids.length 100000))) (k (KU (R3 E.free ids) v) (sub g (R3 E.free ids) ids)) none
def oC:Nat→LA→Ev
 | _,[]=>[]
 | i,v::r=>(i,v)::oC (i+1) r
structure Hints where
 H:Hint
 nils:List (Nat×Nat):=[]
 modes:List (Nat×Nat):=[]
 free:List Nat:=[]
 cob:List Nat:=[]
def gE:Ah→Bool
 | []=>true
 | (b,_)::r=>g9 b&&gE r
noncomputable def BG {R:Type} (P:Program) (muts:Nat→List Bool) (T:List (Nat×Tw)) (hs:Hints) (N f:Nat) (args:LA) (h:Ah) (k:AV→Ah→O R):O R :=
 match P.funcs[f]? with
 | none=>none
 | some fn=>match fn.body with
  | none=>none
  | some c =>
   let E:Env:={ P,nt:=fn.ntmps,muts,nils:=hs.nils,free:=hs.free,cob:=hs.cob,tbl:=T }
   let outs:=h.map (·.1)
   let fin:=Qm E fn hs.modes outs k
   cond (Nat.ble args.length fn.ntmps&&gE h) (D5 E outs N c hs.H fin (fun _ _=>none) fin { s:=oC 0 args,h }) none
end Gx

namespace Gx
open Go
mutual
def RepC (J:Nat→Prop) (w:World):AV→Value→Prop
 | .int k n,v=>v=.int k n
 | .bool b,v=>v=.bool b
 | .str s,v=>v=.string ⟨⟨s⟩⟩
 | .nsl,v=>v=.slice none 0 0
 | .imm c len sz tight _,v=>c.length=len*sz∧∃ A cap,v=.slice A len cap∧len≤cap∧(tight=true→cap=len) ∧
   (len=0∨∃ a,A=some a∧J a.block∧RepCs J w c (fun j=>w.cell? (a.add j)) 0)
 | .iptr c _,v=>∃ a,v=.pointer (some a)∧J a.block∧RepCs J w c (fun j=>w.cell? (a.add j)) 0
 | .nilptr,v=>v=.pointer none
 | .nilfn,v=>v=.nilFunc
 | .fn f [],v=>v=.func (.func (f%1000000)) #[] #[]
 | _,_=>False
def RepCs (J:Nat→Prop) (w:World):List AV→(Nat→Option Value)→Nat→Prop
 | [],_,_=>True
 | x::r,rd,i=>(∃ u,rd i=some u∧RepC J w x u)∧RepCs J w r rd (i+1)
end
theorem Bi {J:Nat→Prop} {w:World}:∀ {c:LA} {rd:Nat→Option Value} {i:Nat},
  RepCs J w c rd i↔∀ j x,c[j]?=some x→∃ u,rd (i+j)=some u∧RepC J w x u:=by
 intro c
 induction c with
 | nil=>intro rd i;simp[RepCs]
 | cons x r d =>
  intro rd i
  rw[RepCs,d]
  constructor
  ·rintro⟨e,f⟩ j y b
   cases j with
   | zero=>simp at b;subst b;simpa using e
   | succ j=>have:=f j y (by simpa using b);rwa [show i+1+j=i+(j+1) by omega] at this
  ·intro h
   refine⟨by simpa using h 0 x (by simp),fun j y b=>?_⟩
   have:=h (j+1) y (by simpa using b)
   rwa [show i+(j+1)=i+1+j by omega] at this
def tG (J:Nat→Prop) (w w':World):Prop:=∀ k,J k→w'.heap[k]?=w.heap[k]?
theorem ZM {J:Nat→Prop} {w w':World} (h:tG J w w') {a:Addr} (b:J a.block):w'.cell? a=w.cell? a:=by
 unfold World.cell?;rw[h a.block b]
theorem Nq (a:Addr) (n:Nat):(a.add n).block=a.block:=by unfold Addr.add;split<;>rfl
mutual
theorem RepC.keep {J J':Nat→Prop} {w w':World} (hJ:∀ k,J k→J' k) (hk:tG J w w'):∀ {x:AV} {v:Value},RepC J w x v→RepC J' w' x v
 | .int ..,_,h=>h
 | .bool _,_,h=>h
 | .str _,_,h=>h
 | .nsl,_,h=>h
 | .imm c _ _ _ _,_,h=>by
  rw[RepC] at h ⊢
  obtain⟨h1,A,cap,h2,h3,h4,h5⟩:=h
  refine⟨h1,A,cap,h2,h3,h4,?_⟩
  rcases h5 with h5 | ⟨a,ha,hj,hc⟩
  ·exact .inl h5
  ·refine .inr ⟨a,ha,hJ _ hj,RepCs.keep hJ hk (c:=c) (fun j=>?_) hc⟩
   exact ZM hk (by rw[Nq];exact hj)
 | .iptr c _,_,h=>by
  rw[RepC] at h ⊢
  obtain⟨a,ha,hj,hc⟩:=h
  exact⟨a,ha,hJ _ hj,RepCs.keep hJ hk (c:=c) (fun j=>ZM hk (by rw[Nq];exact hj)) hc⟩
 | .nilptr,_,h=>h
 | .nilfn,_,h=>h
 | .fn _ [],_,h=>h
 | .fn _ (_::_),_,h=>by simp[RepC] at h
 | .pagg ..,_,h=>by simp[RepC] at h
 | .agg _,_,h=>by simp[RepC] at h
 | .tup _,_,h=>by simp[RepC] at h
 | .own ..,_,h=>by simp[RepC] at h
 | .optr ..,_,h=>by simp[RepC] at h
 | .undef,_,h=>by simp[RepC] at h
 | .omap _,_,h=>by simp[RepC] at h
theorem RepCs.keep {J J':Nat→Prop} {w w':World} (hJ:∀ k,J k→J' k) (hk:tG J w w'):∀ {c:List AV} {rd rd':Nat→Option Value} {i:Nat},(∀ j,rd' j=rd j)→RepCs J w c rd i→RepCs J' w' c rd' i
 | [],_,_,_,_,_=>trivial
 | x::r,rd,rd',i,he,h=>by
  rw[RepCs] at h ⊢
  obtain⟨⟨u,hu,hx⟩,hr⟩:=h
  exact⟨⟨u,by rw[he];exact hu,RepC.keep hJ hk (x:=x) hx⟩,RepCs.keep hJ hk (c:=r) he hr⟩
end
abbrev Bl:=Nat→Option (Nat×Nat)
def A1 (w:World) (k:Nat):Nat:=match w.heap[k]? with | some (.cells cs _ _)=>cs.size | _=>0
def Ah9 (sz k:Nat):Value:=match sz with | 0=>.map (some k) | _+1=>.pointer (some ⟨k,0,none⟩)
mutual
def Rep (J:Bool→Nat→Prop) (β:Bl) (h:Ah) (w:World):AV→Value→Prop
 | .own b off n,v=>∃ x A cap,(Ak h b=some x∧x.mp=false)∧v=.slice A n cap∧n≤cap∧(cap=0∨∃ k o,A=some ⟨k,o+off,none⟩ ∧
   (x.dead=true∨(β b=some (k,o)∧o+off+cap*x.sz≤A1 w k∧off+n*x.sz≤x.cells.length)))
 | .omap b,v=>∃ x k,(Ak h b=some x∧x.mp=true)∧(x.dead=true∨(β b=some (k,0)∧v=Ah9 x.sz k))
 | .optr b off,v=>∃ x k o,(Ak h b=some x∧x.mp=false)∧v=.pointer (some ⟨k,o+off,none⟩)∧(x.dead=true∨β b=some (k,o))
 | .pagg c org,v=>∃ cs,v=.agg ⟨cs⟩∧cs.length=c.length∧RepCs (J org) w c (fun j=>cs[j]?) 0
 | .agg c,v=>∃ cs,v=.agg ⟨cs⟩∧Reps J β h w c cs
 | .tup c,v=>∃ cs,v=.tuple ⟨cs⟩∧Reps J β h w c cs
 | .fn f c,v=>∃ cs:List Value,v=.func (.func (f%1000000)) ⟨cs.take (f/1000000)⟩ ⟨cs.drop (f/1000000)⟩∧Reps J β h w c cs
 | .undef,_=>True
 | .imm c n sz t org,v=>RepC (J org) w (.imm c n sz t org) v
 | .iptr c org,v=>RepC (J org) w (.iptr c org) v
 | .int k n,v=>v=.int k n
 | .bool b,v=>v=.bool b
 | .str s,v=>v=.string ⟨⟨s⟩⟩
 | .nsl,v=>v=.slice none 0 0
 | .nilptr,v=>v=.pointer none
 | .nilfn,v=>v=.nilFunc
def Reps (J:Bool→Nat→Prop) (β:Bl) (h:Ah) (w:World):List AV→List Value→Prop
 | [],cs=>cs=[]
 | x::r,cs=>∃ u us,cs=u::us∧Rep J β h w x u∧Reps J β h w r us
end
structure Ext (J:Bool→Nat→Prop) (β:Bl) (h:Ah) (w:World) (J':Bool→Nat→Prop) (β':Bl) (h':Ah) (w':World):Prop where
 jsub:∀ o k,J o k→J' o k
 keep:∀ o,tG (J o) w w'
 blk:∀ b x,Ak h b=some x→∃ x',(Ak h' b=some x'∧x'.mp=x.mp)∧(x'.dead=true∨(x.dead=false∧β' b=β b∧x'.sz=x.sz∧(x.mp=false→x'.cells.length=x.cells.length)))
 size:∀ b k o,β b=some (k,o)→A1 w k≤A1 w' k
mutual
theorem Rep.ext {J J':Bool→Nat→Prop} {β β':Bl} {h h':Ah} {w w':World} (E:Ext J β h w J' β' h' w'):∀ {x:AV} {v:Value},Rep J β h w x v→Rep J' β' h' w' x v
 | .own b off n,v,hr=>by
  rw[Rep] at hr ⊢
  obtain⟨x,A,cap,⟨hx,hm⟩,h1,h2,hr⟩:=hr
  obtain⟨x',⟨hx',hm'⟩,hd⟩:=E.blk b x hx
  refine⟨x',A,cap,⟨hx',by rw[hm',hm]⟩,h1,h2,?_⟩
  rcases hr with hr | ⟨k,o,h3,hr⟩
  ·exact .inl hr
  ·refine .inr ⟨k,o,h3,?_⟩
   rcases hd with hd | ⟨hd,hβ,hs,hl⟩
   ·exact .inl hd
   ·rcases hr with hr | ⟨h4,h5,h6⟩
    ·simp[hd] at hr
    ·exact .inr ⟨by rw[hβ];exact h4,by rw[hs];exact Nat.le_trans h5 (E.size b k o h4),by rw[hs,hl hm];exact h6⟩
 | .optr b off,v,hr=>by
  rw[Rep] at hr ⊢
  obtain⟨x,k,o,⟨hx,hm⟩,h1,hr⟩:=hr
  obtain⟨x',⟨hx',hm'⟩,hd⟩:=E.blk b x hx
  refine⟨x',k,o,⟨hx',by rw[hm',hm]⟩,h1,?_⟩
  rcases hd with hd | ⟨hd,hβ,hs,hl⟩
  ·exact .inl hd
  ·rcases hr with hr | hr
   ·simp[hd] at hr
   ·exact .inr (by rw[hβ];exact hr)
 | .omap b,v,hr=>by
  rw[Rep] at hr ⊢
  obtain⟨x,k,⟨hx,hm⟩,hr⟩:=hr
  obtain⟨x',⟨hx',hm'⟩,hd⟩:=E.blk b x hx
  refine⟨x',k,⟨hx',by rw[hm',hm]⟩,?_⟩
  rcases hd with hd | ⟨hd,hβ,hs,hl⟩
  ·exact .inl hd
  ·rcases hr with hr | ⟨hr,hv⟩
   ·simp[hd] at hr
   ·exact .inr ⟨by rw[hβ];exact hr,by rw[hs];exact hv⟩
 | .pagg c org,v,hr=>by
  rw[Rep] at hr ⊢
  obtain⟨cs,h1,h2,h3⟩:=hr
  exact⟨cs,h1,h2,RepCs.keep (E.jsub org) (E.keep org) (fun _=>rfl) h3⟩
 | .agg c,v,hr=>by
  rw[Rep] at hr ⊢
  obtain⟨cs,h1,h2⟩:=hr
  exact⟨cs,h1,Reps.ext E (c:=c) h2⟩
 | .tup c,v,hr=>by
  rw[Rep] at hr ⊢
  obtain⟨cs,h1,h2⟩:=hr
  exact⟨cs,h1,Reps.ext E (c:=c) h2⟩
 | .fn f c,v,hr=>by
  rw[Rep] at hr ⊢
  obtain⟨cs,h1,h2⟩:=hr
  exact⟨cs,h1,Reps.ext E (c:=c) h2⟩
 | .undef,_,_=>by rw[Rep];trivial
 | .imm c n sz t org,v,hr=>by rw[Rep] at hr ⊢;exact RepC.keep (E.jsub org) (E.keep org) hr
 | .iptr c org,v,hr=>by rw[Rep] at hr ⊢;exact RepC.keep (E.jsub org) (E.keep org) hr
 | .int ..,_,hr=>hr
 | .bool _,_,hr=>hr
 | .str _,_,hr=>hr
 | .nsl,_,hr=>hr
 | .nilptr,_,hr=>hr
 | .nilfn,_,hr=>hr
theorem Reps.ext {J J':Bool→Nat→Prop} {β β':Bl} {h h':Ah} {w w':World} (E:Ext J β h w J' β' h' w'):∀ {c:List AV} {cs:List Value},Reps J β h w c cs→Reps J' β' h' w' c cs
 | [],_,hr=>hr
 | x::r,cs,hr=>by
  rw[Reps] at hr ⊢
  obtain⟨u,us,h1,h2,h3⟩:=hr
  exact⟨u,us,h1,Rep.ext E (x:=x) h2,Reps.ext E (c:=r) h3⟩
end
end Gx

namespace Gx
open Go
def zC:List (Nat×List Value):=[(3,(List.range 20).map fun i=>.int .u64 ((10 ^ i:Nat):Int))]
def wl:List Nat:=[0]
end Gx

namespace Gx
open Go
def CellsRep (J:Bool→Nat→Prop) (β:Bl) (h:Ah) (w:World) (x:Blk) (rd:Nat→Option Value):Prop :=
 (x.pure=true→RepCs (J x.taint) w x.cells rd 0) ∧
 (x.pure=false→∀ j c,x.cells[j]?=some c→∃ u,rd j=some u∧Rep J β h w c u∧u.oneCell'=true)
def FrOk (n:Nat) (fr:Nat×Nat):Prop:=fr.1=fr.2∨n≤fr.1
theorem FrOk.at {n:Nat} {fr:Nat×Nat} (h:FrOk n fr) (j:Nat) (b:j<n):¬ (fr.1≤j∧j<fr.2):=by rcases h with h | h<;>omega
def TyOk (X:Option (Nat×Nat)) (ty:TypeId) (o n:Nat):Prop:=∀ t m,X=some (t,m)→ty=t∧o=0∧(m=0∨n=m)
def FrTy (X:Option (Nat×Nat)) (ty:TypeId) (o n:Nat) (fr:Nat×Nat):Prop:=FrOk n fr∧TyOk X ty o n
theorem TyOk.none {ty:TypeId} {o n:Nat}:TyOk .none ty o n:=fun _ _ h=>by cases h
theorem FrOk.un {n:Nat} {fr:Nat×Nat} (h:FrOk n fr) {ty:TypeId} {o:Nat}:FrTy .none ty o n fr:=⟨h,TyOk.none⟩
theorem FrTy.un0 {ty:TypeId} {o n a:Nat}:FrTy .none ty o n (a,a):=⟨.inl rfl,TyOk.none⟩
def Agz (J:Bool→Nat→Prop) (β:Bl) (h:Ah) (w:World) (b:Nat) (x:Blk):Prop :=
 (β b=none∧x.cells=[])∨∃ k o cs ty fr,β b=some (k,o)∧w.heap[k]?=some (.cells cs ty fr) ∧
  FrTy x.ty ty o cs.size fr∧o+x.cells.length≤cs.size∧CellsRep J β h w x (fun j=>cs[o+j]?) ∧
  (x.sealed=false→∀ g,¬ J g k)∧(x.sealed=true→J x.taint k)
def Ag0 (c:LA) (es:Array MapEntry):Prop:=∃ l:List Int,c=l.map (fun n=>.int .i64 n)∧es.toList.map (fun e=>(e.key,e.val))=l.map (fun n=>(.int .i64 n,.bool true))
def ObjIs (x:Blk) (ob:Obj):Prop:=(x.sz=0∧∃ es clk,ob=.map es clk∧Ag0 x.cells es)∨(x.sz=1∧∃ s pos,ob=.stringIter ⟨⟨s⟩⟩ pos∧x.cells=[.str s,.int .i64 ((pos:Nat):Int)])
def MapRep (J:Bool→Nat→Prop) (β:Bl) (w:World) (b:Nat) (x:Blk):Prop :=
 x.pure=true∧x.sealed=false∧∃ k ob,β b=some (k,0)∧w.heap[k]?=some ob∧ObjIs x ob∧∀ g,¬ J g k
theorem ObjIs.row {x:Blk} {ob:Obj} (h:ObjIs x ob) {cs:Array Value} {ty:TypeId} {fr:Nat×Nat}:ob≠.cells cs ty fr:=by
 rcases h with⟨_,es,clk,rfl,_⟩ | ⟨_,s,pos,rfl,_⟩<;>exact fun h=>by cases h
def GlobOk (J:Bool→Nat→Prop) (w:World):Prop:=(∀ p ∈ zC,J false p.1∧∃ ty fr,w.heap[p.1]?=some (.cells p.2.toArray ty fr))∧∀ g ∈ wl,J false g∧∃ m,w.cell? ⟨g,0,none⟩=some (.int .i64 m)
theorem GlobOk.to {J J':Bool→Nat→Prop} {w w':World} (h:GlobOk J w) (d:∀ k,J false k→J' false k) (e:tG (J false) w w'):GlobOk J' w':=⟨fun p b =>
 ⟨d _ (h.1 p b).1,by rw[e _ (h.1 p b).1];exact(h.1 p b).2⟩,fun g c=>⟨d _ (h.2 g c).1,by rw[ZM e (by exact(h.2 g c).1)];exact(h.2 g c).2⟩⟩
theorem GlobOk.ext {J J':Bool→Nat→Prop} {β β':Bl} {h h':Ah} {w w':World} (G:GlobOk J w) (E:Ext J β h w J' β' h' w'):GlobOk J' w':=G.to (E.jsub false) (E.keep false)
structure SimH (J:Bool→Nat→Prop) (β:Bl) (h:Ah) (w:World):Prop where
 jlt:∀ o k,J o k→k<w.heap.size
 jft:∀ k,J false k→J true k
 gl:GlobOk J w
 blk:∀ b x,Ak h b=some x→x.dead=false→x.mp=false→Agz J β h w b x
 mblk:∀ b x,Ak h b=some x→x.dead=false→x.mp=true→MapRep J β w b x
 sep:∀ b b' x x' k o o',Ak h b=some x→Ak h b'=some x'→x.dead=false→x'.dead=false→x.sealed=false→β b=some (k,o)→β b'=some (k,o')→b=b'
mutual
theorem Y7 {J:Bool→Nat→Prop} {β:Bl} {h:Ah} {w:World}:∀ v:Value,Rep J β h w (YZ v) v
 | .int ..=>by simp[YZ,Rep]
 | .bool _=>by simp[YZ,Rep]
 | .string ⟨⟨s⟩⟩=>by simp[YZ,Rep]
 | .slice none 0 0=>by simp[YZ,Rep]
 | .slice none 0 (_+1)=>by simp[YZ,Rep]
 | .slice none (_+1) _=>by simp[YZ,Rep]
 | .slice (some _) _ _=>by simp[YZ,Rep]
 | .pointer none=>by simp[YZ,Rep]
 | .pointer (some _)=>by simp[YZ,Rep]
 | .nilFunc=>by simp[YZ,Rep]
 | .agg ⟨cs⟩=>by rw[YZ,Rep];exact⟨cs,rfl,JJ cs⟩
 | .float ..=>by simp[YZ,Rep]
 | .complex ..=>by simp[YZ,Rep]
 | .map _=>by simp[YZ,Rep]
 | .chan _=>by simp[YZ,Rep]
 | .func ..=>by simp[YZ,Rep]
 | .iface ..=>by simp[YZ,Rep]
 | .nilIface=>by simp[YZ,Rep]
 | .tuple _=>by simp[YZ,Rep]
theorem JJ {J:Bool→Nat→Prop} {β:Bl} {h:Ah} {w:World}:∀ cs:List Value,Reps J β h w (H6 cs) cs
 | []=>by simp[H6,Reps]
 | v::r=>by rw[H6,Reps];exact⟨v,r,rfl,Y7 v,JJ r⟩
end
structure SimS (J:Bool→Nat→Prop) (β:Bl) (h:Ah) (w:World) (s:Ev) (t:Array Value):Prop where
 slot:∀ i v,t[i]?=some v→Rep J β h w (D2 s i) v
 out:∀ i,t.size≤i→D2 s i=.undef
theorem Az {J:Bool→Nat→Prop} {β:Bl} {h:Ah} {w:World} {s:Ev} {a:Act} (H:SimS J β h w s a.tmps) (x:Operand):Rep J β h w (ev s x) (a.eval x):=by
 cases x with
 | tmp t =>
  rw[ev,Act.eval,Array.getD_eq_getD_getElem?]
  cases b:a.tmps[t]? with
  | some v=>exact H.slot t v b
  | none =>
   have:a.tmps.size≤t:=by simpa using b
   rw[H.out t this];simp[Rep]
 | const v=>exact Y7 v
 | global g=>simp[ev,Rep]
 | func f =>
  rw[ev]
  cases c:Nat.blt f 1000000 with
  | false=>simp[Rep]
  | true =>
   have:f<1000000:=by simpa using c
   simp[Rep,Act.eval,Reps,Nat.mod_eq_of_lt this]
section
variable {R:Type} {r:R} {P:Program} {J:Bool→Nat→Prop} {β:Bl} {h:Ah} {w:World}
theorem qZ {t:TypeId} {op:BinOp} {k:IntKind} {a b:Int} {v:AV} (c:Y_ op k a b=some v) :
  ∃ vc,(binOp op t (.int k a) (.int k b)).run P w=.ok vc w∧Rep J β h w v vc:=by
 cases op<;>simp[Y_] at c<;>subst c<;>simp[binOp,Op.intArith,Op.intBits,Op.intCmp,Rep]
theorem wm {op:BinOp} {t:TypeId} {x y:AV} {k:AV→O R} {vx vy:Value} (c:zb P t op x y k=some r) (n:Rep J β h w x vx) (q:Rep J β h w y vy) (ox oy:Operand) :
  ∃ v vc,k v=some r∧(do eqGuard op t ox oy vx vy;binOp op t vx vy:Sem Value).run P w=.ok vc w∧Rep J β h w v vc:=by
 unfold zb at c
 split at c
 ·rename_i j a m b
  rw[Rep] at n q;subst n q
  have f:(eqGuard op t ox oy (.int j a) (.int m b)).run P w=.ok () w:=by
   unfold eqGuard;cases op<;>simp
  split at c
  ·cases e:decide (b<0)<;>rw[e] at c<;>simp at c e
   refine⟨_,_,c,?_,by rw[Rep]⟩
   simp[f,binOp,Op.shift];intro A;omega
  ·cases e:decide (b<0)<;>rw[e] at c<;>simp at c e
   refine⟨_,_,c,?_,by rw[Rep]⟩
   simp[f,binOp,Op.shift];intro A;omega
  ·cases l:Mc j m<;>rw[l] at c<;>simp at c
   have i:j=m:=by simpa[Mc] using l
   subst i
   cases e:(b==0)<;>rw[e] at c<;>simp at c e
   refine⟨_,_,c,?_,by rw[Rep]⟩
   simp[f,binOp,Op.intDiv,e]
  ·cases l:Mc j m<;>rw[l] at c<;>simp at c
   have i:j=m:=by simpa[Mc] using l
   subst i
   cases e:(b==0)<;>rw[e] at c<;>simp at c e
   refine⟨_,_,c,?_,by rw[Rep]⟩
   simp[f,binOp,Op.intDiv,e]
  ·cases l:Mc j m<;>rw[l] at c<;>simp at c
   have i:j=m:=by simpa[Mc] using l
   subst i
   cases s:Y_ op j a b with
   | none=>rw[s] at c;simp at c
   | some v =>
    rw[s] at c
    obtain⟨vc,B,C⟩:=qZ (P:=P) (J:=J) (β:=β) (h:=h) (w:=w) (t:=t) s
    exact⟨v,vc,by simpa using c,by simp[f,B],C⟩
 ·rename_i a b
  rw[Rep] at n q;subst n q
  split at c
  ·cases e:JD P t<;>rw[e] at c<;>simp at c
   have u:P.underlying t=some .bool:=by unfold JD at e;split at e<;>simp_all
   refine⟨_,_,c,?_,by rw[Rep]⟩
   have z:(Op.equal t (.bool a) (.bool b)).run P w=.ok (a==b) w:=by
    have:∀ d,(Op.equalIn (d+1) t (.bool a) (.bool b)).run P w=.ok (a==b) w:=fun d=>by
     unfold Op.equalIn;simp only[Sem.run_bind,run_underlying u,Result.andThen_ok,Sem.run_pure]
    exact this 9999
   have f:∀ op,(eqGuard op t ox oy (.bool a) (.bool b)).run P w=.ok () w:=fun op=>by unfold eqGuard;cases op<;>simp
   simp only[Sem.run_bind,f,Result.andThen_ok,binOp,z,Sem.run_pure]
  ·cases e:JD P t<;>rw[e] at c<;>simp at c
   have u:P.underlying t=some .bool:=by unfold JD at e;split at e<;>simp_all
   refine⟨_,_,c,?_,by rw[Rep]⟩
   have z:(Op.equal t (.bool a) (.bool b)).run P w=.ok (a==b) w:=by
    have:∀ d,(Op.equalIn (d+1) t (.bool a) (.bool b)).run P w=.ok (a==b) w:=fun d=>by
     unfold Op.equalIn;simp only[Sem.run_bind,run_underlying u,Result.andThen_ok,Sem.run_pure]
    exact this 9999
   have f:∀ op,(eqGuard op t ox oy (.bool a) (.bool b)).run P w=.ok () w:=fun op=>by unfold eqGuard;cases op<;>simp
   simp only[Sem.run_bind,f,Result.andThen_ok,binOp,z,Sem.run_pure]
  ·simp at c
 ·rename_i a b
  rw[Rep] at n q;subst n q
  have D:(⟨⟨a⟩⟩:ByteArray).toList=a:=by simp[ByteArray.toList_eq]
  have eb:(⟨⟨b⟩⟩:ByteArray).toList=b:=by simp[ByteArray.toList_eq]
  have f:∀ op,(eqGuard op t ox oy (.string ⟨⟨a⟩⟩) (.string ⟨⟨b⟩⟩)).run P w=.ok () w:=fun op=>by unfold eqGuard;cases op<;>simp
  split at c
  ·cases e:Nat.ble (a.length+b.length) 140737488355328<;>rw[e] at c<;>simp at c e
   refine⟨_,_,c,?_,by rw[Rep]⟩
   have F:¬ (((⟨⟨a⟩⟩:ByteArray).size+(⟨⟨b⟩⟩:ByteArray).size:Nat):Int)>IntKind.i64.max:=by
    show ¬ ((a.length+b.length:Nat):Int)>9223372036854775807
    omega
   have G:(⟨⟨a⟩⟩:ByteArray)++⟨⟨b⟩⟩=⟨⟨a++b⟩⟩:=by
    apply ByteArray.ext;simp[ByteArray.data_append]
   simp only[Sem.run_bind,f,Result.andThen_ok,binOp,Op.stringOp,if_neg F,Sem.run_pure,G]
  all_goals first
   | (refine⟨_,_,c,?_,by rw[Rep]⟩;simp only[Sem.run_bind,f,Result.andThen_ok,binOp,Op.stringOp,Sem.run_pure,D,eb];done)
   | simp at c
 ·simp at c
end
end Gx

namespace Gx
open Go
section
variable {R:Type} {r:R} {P:Program} {J:Bool→Nat→Prop} {β:Bl} {h:Ah} {w:World}
theorem ub {α:Type} {o:Option α} {f:α→O R} (b:o.bind f=some r):∃ x,o=some x∧f x=some r:=by
 cases o with
 | none=>simp at b
 | some x=>exact⟨x,rfl,by simpa using b⟩
theorem uc {b:Bool} {x:O R} (c:cond b x none=some r):b=true∧x=some r:=by
 cases b<;>simp at c;exact⟨rfl,c⟩
theorem wn {b:Bool} {x:O R} (c:cond b none x=some r):b=false∧x=some r:=by
 cases b<;>simp at c;exact⟨rfl,c⟩
theorem zh {op:UnOp} {x v:AV} {vx:Value} (c:Ai6 op x=some v) (e:Rep J β h w x vx) :
  ∃ vc,(Op.unary op vx).run P w=.ok vc w∧Rep J β h w v vc:=by
 unfold Ai6 at c
 split at c
 ·rename_i k n
  rw[Rep] at e;subst e;simp at c;subst c
  refine⟨.int k (k.wrap (-n)),by simp[Op.unary,Op.intArith],?_⟩
  rw[Rep]
 ·rename_i k n
  rw[Rep] at e;subst e
  have d:=c
  rw[Y_] at d
  simp only[Option.some.injEq] at d;subst d
  refine⟨_,rfl,?_⟩
  rw[Rep];cases k.signed<;>rfl
 ·rename_i b
  rw[Rep] at e;subst e;simp at c;subst c
  exact⟨.bool (!b),by simp[Op.unary],by rw[Rep]⟩
 ·simp at c
def bx (P:Program) (J:Bool→Nat→Prop) (β:Bl) (h:Ah) (w:World) (t:TypeId) (rd:Nat→Option Value) (v:AV):Prop :=
 (∃ d,P.underlying t=some d∧d.isRow=false∧∃ u,rd 0=some u∧Rep J β h w v u) ∨
 (∃ d,P.underlying t=some d∧d.isRow=true∧∃ us:List Value,(P.info? t).map (·.size)=some us.length∧(∀ j u,us[j]?=some u→rd j=some u)∧Rep J β h w v (.agg us.toArray))
theorem RepCs.at {J:Nat→Prop} {c:LA} {rd:Nat→Option Value} (b:RepCs J w c rd 0) {j:Nat} {x:AV} (d:c[j]?=some x):∃ u,rd j=some u∧RepC J w x u:=by
 have:=Bi.1 b j x d;simpa using this
theorem RepCs.drop {J:Nat→Prop} {c:LA} {rd:Nat→Option Value} (b:RepCs J w c rd 0) (n:Nat):RepCs J w (c.drop n) (fun j=>rd (n+j)) 0:=by
 rw[Bi] at b ⊢
 intro j x d
 rw[List.getElem?_drop] at d
 simpa using b (n+j) x d
theorem RepCs.take {J:Nat→Prop} {c:LA} {rd:Nat→Option Value} (d:RepCs J w c rd 0) (n:Nat):RepCs J w (c.take n) rd 0:=by
 rw[Bi] at d ⊢
 intro j x b
 rw[List.getElem?_take] at b
 split at b
 ·exact d j x b
 ·simp at b
theorem RepCs.list {J:Nat→Prop} {c:LA} {rd:Nat→Option Value} (i:RepCs J w c rd 0) :
  ∃ e:List Value,e.length=c.length∧(∀ j u,e[j]?=some u→rd j=some u)∧RepCs J w c (fun j=>e[j]?) 0:=by
 refine⟨c.zipIdx.map fun p=>(rd p.2).getD undef,by simp,fun j u b=>?_,?_⟩
 ·rw[List.getElem?_map,List.getElem?_zipIdx] at b
  cases f:c[j]? with
  | none=>rw[f] at b;simp at b
  | some x =>
   rw[f] at b
   obtain⟨l,d,_⟩:=i.at f
   simp[d] at b
   rw[d,b]
 ·rw[Bi]
  intro j x b
  obtain⟨u,d,k⟩:=i.at b
  refine⟨u,?_,k⟩
  simp[b,d]
theorem bz {J1 J2:Nat→Prop}:∀ {c:LA} {rd:Nat→Option Value} {i:Nat},Cw c=true→RepCs J1 w c rd i→RepCs J2 w c rd i
 | [],_,_,_,_=>trivial
 | x::r,rd,i,b,d=>by
  rw[RepCs] at d ⊢
  obtain⟨⟨u,e,k⟩,f⟩:=d
  have j:Cw r=true:=by unfold Cw at b;split at b<;>simp_all
  refine⟨⟨u,e,?_⟩,bz j f⟩
  unfold Cw at b
  split at b<;>simp_all[RepC]
theorem LC {t:TypeId} {c:LA} {org:Bool} {k:Bool→O R} {rd:Nat→Option Value} {i:Nat} (b:Qk P t c org k=some r) (d:RepCs (J org) w c rd i):∃ o,k o=some r∧RepCs (J o) w c rd i:=by
 unfold Qk at b
 cases e:yv P t with
 | true=>rw[e] at b;exact⟨org,b,d⟩
 | false =>
  rw[e,cond_false] at b
  obtain⟨f,j⟩:=uc b
  refine⟨false,j,?_⟩
  cases org with
  | false=>exact d
  | true=>exact bz (by simpa using f) d
theorem O9 {t:TypeId} {c:LA} {org:Bool} {k:AV→O R} {rd:Nat→Option Value} (b:EF P t c org k=some r) (s:RepCs (J org) w c rd 0) :
  ∃ v,k v=some r∧bx P J β h w t rd v:=by
 unfold EF at b
 have agg:∀ {d:TypeDesc},P.underlying t=some d→d.isRow=true→((Bd P t).bind fun n=>cond (Nat.ble n c.length) (Qk P t (c.take n) org fun o=>k (.pagg (c.take n) o)) none)=some r →
   ∃ v,k v=some r∧bx P J β h w t rd v:=by
  intro d j K b
  obtain⟨n,f,b⟩:=ub b
  obtain⟨C,b⟩:=uc b
  have I:n≤c.length:=by simpa using C
  obtain⟨D,l,i,F⟩:=(s.take n).list
  have L:D.length=n:=by rw[l];simp;omega
  obtain⟨o,b,G⟩:=LC b F
  refine⟨_,b,.inr ⟨d,j,K,D,?_,i,?_⟩⟩
  ·rw[L];exact f
  ·rw[Rep];exact⟨D,rfl,by rw[l],G⟩
 split at b
 ·rename_i U j
  obtain⟨x,m,b⟩:=ub b
  obtain⟨n,f,b⟩:=ub b
  obtain⟨u,l,i⟩:=s.at (by rw[←List.head?_eq_getElem?];exact m)
  refine⟨_,b,.inl ⟨_,j,rfl,u,l,?_⟩⟩
  unfold bp at f
  split at f
  ·obtain⟨y,z⟩:=uc f
   simp[Mc] at y z;subst y;subst z
   rw[RepC] at i;rw[Rep];exact i
  ·simp at f
 ·rename_i j
  obtain⟨x,m,b⟩:=ub b
  obtain⟨n,f,b⟩:=ub b
  obtain⟨u,l,i⟩:=s.at (by rw[←List.head?_eq_getElem?];exact m)
  refine⟨_,b,.inl ⟨_,j,rfl,u,l,?_⟩⟩
  unfold asBool at f
  split at f
  ·simp at f;subst f
   rw[RepC] at i;rw[Rep];exact i
  ·simp at f
 ·rename_i j
  obtain⟨x,m,b⟩:=ub b
  obtain⟨n,f,b⟩:=ub b
  obtain⟨u,l,i⟩:=s.at (by rw[←List.head?_eq_getElem?];exact m)
  refine⟨_,b,.inl ⟨_,j,rfl,u,l,?_⟩⟩
  unfold gR at f
  split at f
  ·simp at f;subst f
   rw[RepC] at i;rw[Rep];exact i
  ·simp at f
 ·rename_i e j
  obtain⟨sz,M,b⟩:=ub b
  obtain⟨x,m,b⟩:=ub b
  obtain⟨p,q,b⟩:=ub b
  obtain⟨u,l,i⟩:=s.at (by rw[←List.head?_eq_getElem?];exact m)
  refine⟨_,b,.inl ⟨_,j,rfl,u,l,?_⟩⟩
  unfold Ae6 at q
  rw[Rep,RepC]
  split at q
  ·obtain⟨y,B⟩:=uc q
   simp at y B;subst y;subst B
   rw[RepC] at i
   obtain⟨F,A,cap,G,S,V,T⟩:=i
   exact⟨F,A,cap,G,S,by simp,T⟩
  ·simp at q;subst q
   rw[RepC] at i
   exact⟨by simp,none,0,i,by simp,by simp,.inl rfl⟩
  ·simp at q
 ·rename_i j;exact agg j rfl b
 ·rename_i j;exact agg j rfl b
 ·simp at b
theorem Bm:∀ {c:LA} {cs:List Value},Reps J β h w c cs↔cs.length=c.length∧∀ (j:Nat) (x:AV) (u:Value),c[j]?=some x→cs[j]?=some u→Rep J β h w x u
 | [],cs=>by rw[Reps];simp
 | x::r,cs=>by
  rw[Reps]
  constructor
  ·rintro⟨u,i,rfl,e,f⟩
   rw[Bm] at f
   refine⟨by simp[f.1],fun j y v b d=>?_⟩
   cases j with
   | zero=>simp at b d;subst b d;exact e
   | succ j=>exact f.2 j y v (by simpa using b) (by simpa using d)
  ·rintro⟨k,e⟩
   cases cs with
   | nil=>simp at k
   | cons u i =>
    refine⟨u,i,rfl,e 0 x u (by simp) (by simp),?_⟩
    rw[Bm]
    exact⟨by simpa using k,fun j y v b d=>e (j+1) y v (by simpa using b) (by simpa using d)⟩
theorem EN {t:TypeId} {c:LA} {k:AV→O R} {rd:Nat→Option Value} (b:bq P t c k=some r)
  (q:∀ j x,c[j]?=some x→∃ u,rd j=some u∧Rep J β h w x u) :
  ∃ v,k v=some r∧bx P J β h w t rd v:=by
 unfold bq at b
 have agg:∀ {d:TypeDesc},P.underlying t=some d→d.isRow=true→((Bd P t).bind fun n=>cond (Nat.ble n c.length) (k (.agg (c.take n))) none)=some r →
   ∃ v,k v=some r∧bx P J β h w t rd v:=by
  intro d f y b
  obtain⟨n,z,b⟩:=ub b
  obtain⟨s,b⟩:=uc b
  have m:n≤c.length:=by simpa using s
  refine⟨_,b,.inr ⟨d,f,y,(c.take n).zipIdx.map fun p=>(rd p.2).getD undef,?_,fun j u l=>?_,?_⟩⟩
  ·simp;rw[Nat.min_eq_left m];exact Option.map_eq_some_iff.1 z
  ·rw[List.getElem?_map,List.getElem?_zipIdx] at l
   cases e:(c.take n)[j]? with
   | none=>rw[e] at l;simp at l
   | some x =>
    rw[e] at l
    rw[List.getElem?_take] at e
    split at e
    ·obtain⟨A,i,_⟩:=q j x e
     simp[i] at l
     rw[i,l]
    ·simp at e
  ·rw[Rep]
   refine⟨_,rfl,Bm.2 ⟨by simp,fun j x u e f=>?_⟩⟩
   simp[e] at f
   rw[List.getElem?_take] at e
   split at e
   ·obtain⟨A,i,B⟩:=q j x e
    simp[i] at f;subst f;exact B
   ·simp at e
 split at b
 ·rename_i f;exact agg f rfl b
 ·rename_i f;exact agg f rfl b
 ·rename_i d _ _ f
  obtain⟨x,e,b⟩:=ub b
  obtain⟨u,C,D⟩:=q 0 x (by rw[←List.head?_eq_getElem?];exact e)
  refine⟨x,b,.inl ⟨d,f,?_,u,C,D⟩⟩
  cases d<;>simp_all
 ·simp at b
theorem oD {n:Nat} {k:AV→O R}:∀ {c:LA} {i:Nat},Y1 n k c i=some r→i≤n∧∃ x,c[n - i]?=some x∧k x=some r
 | [],i,b=>by simp[Y1] at b
 | v::c,i,b=>by
  rw[Y1] at b
  cases d:Nat.beq n i with
  | true =>
   rw[d] at b
   have:n=i:=Nat.eq_of_beq_eq_true d
   subst this
   exact⟨Nat.le_refl _,v,by simp,b⟩
  | false =>
   rw[d] at b
   obtain⟨j,x,e,f⟩:=oD (c:=c) b
   refine⟨by omega,x,?_,f⟩
   rw[show n - i=(n - (i+1))+1 by omega];simpa using e
theorem SN {t:TypeId} {c:LA} {off:Nat} {k:AV→O R} (b:EG P t c off k=some r):bq P t (c.drop off) k=some r:=by
 unfold EG at b
 unfold bq
 split at b
 ·exact b
 ·exact b
 ·rename_i d j l m
  obtain⟨_,x,e,f⟩:=oD b
  have i:(c.drop off).head?=some x:=by rw[List.head?_eq_getElem?,List.getElem?_drop];simpa using e
  rw[i];exact f
 ·simp at b
theorem JK {t:TypeId} {d:TypeDesc} (b:P.underlying t=some d):(isAgg t).run P w=.ok d.isRow w:=by
 unfold isAgg
 rw[Sem.run_bind,run_underlying b w]
 cases d<;>simp
theorem LD {t:TypeId} {a:Addr} {v:AV} (m:bx P J β h w t (fun j=>w.cell? (a.add j)) v):∃ vc,(loadVar t a).run P w=.ok vc w∧Rep J β h w v vc:=by
 rcases m with⟨d,c,e,u,b,f⟩ | ⟨d,c,e,l,b,f,n⟩
 ·refine⟨u,?_,f⟩
  have k:w.cell? a=some u:=by simpa[Addr.add] using b
  simp[loadVar,JK c,e,k]
 ·refine⟨_,?_,n⟩
  have q:=run_loadCells_list (P:=P) w a l f
  cases hq:P.info? t with
  | none=>simp[hq] at b
  | some i =>
   have s:i.size=l.length:=by simpa[hq] using b
   simp[loadVar,Sem.run_bind,JK c,e,Go.sizeOf,typeInfo,hq,s,q]
theorem Om {t:TypeId} {cs:List Value} {off:Nat} {v:AV} (m:bx P J β h w t (fun j=>cs[off+j]?) v):∃ vc,(part t ⟨cs⟩ off).run P w=.ok vc w∧Rep J β h w v vc:=by
 rcases m with⟨d,c,e,u,b,f⟩ | ⟨d,c,e,k,b,f,n⟩
 ·refine⟨u,?_,f⟩
  simp at b
  simp[part,JK c,e,b]
 ·refine⟨_,?_,n⟩
  cases hq:P.info? t with
  | none=>simp[hq] at b
  | some i =>
   have q:i.size=k.length:=by simpa[hq] using b
   have:(⟨cs⟩:Array Value).extract off (off+k.length)=k.toArray:=by
    apply Array.ext'
    simp
    apply List.ext_getElem?
    intro j
    rw[List.getElem?_take,List.getElem?_drop]
    split
    ·rename_i l
     rw[List.getElem?_eq_getElem l]
     exact f j _ (List.getElem?_eq_getElem l)
    ·rename_i l
     rw[List.getElem?_eq_none (by omega)]
   simp only[part,Sem.run_bind,JK c,e,Go.sizeOf,typeInfo,run_program,Result.andThen_ok,hq,Sem.run_pure,q,if_true,this]
end
end Gx

namespace Gx
open Go
section
variable {R:Type} {r:R} {P:Program} {J:Bool→Nat→Prop} {β:Bl} {h:Ah} {w:World} {g:A0}
theorem Mf {k:Nat} {cs:Array Value} {ty:TypeId} {fr:Nat×Nat} (b:w.heap[k]?=some (.cells cs ty fr)) (i:Nat):w.cell? ⟨k,i,none⟩=cs[i]?:=by
 simp[World.cell?,b]
def Looks (g:A0) (h:Ah):Prop:=∀ b x,g b=some x→Ak h b=some x
theorem Cr {b:Nat} {x:Blk} (d:Looks g h) (c:D3 g b=some x):Ak h b=some x∧x.dead=false:=by
 unfold D3 at c
 obtain⟨y,e,c⟩:=ub c
 obtain⟨f,c⟩:=wn c
 simp at c;subst c
 exact⟨d b _ e,f⟩
theorem q8 {b off:Nat} {x:Blk} {v:Value} (S:SimH J β h w) (i:Ak h b=some x) (l:x.dead=false) (d:Rep J β h w (.optr b off) v) :
  ∃ k o cs ty fr,β b=some (k,o)∧v=.pointer (some ⟨k,o+off,none⟩)∧w.heap[k]?=some (.cells cs ty fr) ∧
  FrTy x.ty ty o cs.size fr∧o+x.cells.length≤cs.size∧CellsRep J β h w x (fun j=>cs[o+j]?) ∧
  (x.sealed=false→∀ g,¬ J g k)∧(x.sealed=true→J x.taint k):=by
 rw[Rep] at d
 obtain⟨y,k,o,⟨e,n⟩,q,d⟩:=d
 rw[i] at e;simp at e;subst e
 rcases d with d | f
 ·simp[l] at d
 ·rcases S.blk b x i l n with⟨m,_⟩ | ⟨C,o',cs,ty,fr,c,s,t,u,z,A,B⟩
  ·rw[f] at m;simp at m
  ·rw[f] at c;simp at c;obtain⟨rfl,rfl⟩:=c
   exact⟨k,o,cs,ty,fr,f,q,s,t,u,z,A,B⟩
theorem CellsRep.reads {t:TypeId} {x:Blk} {cs:Array Value} {o off:Nat} {k:AV→O R} (f:CellsRep J β h w x (fun j=>cs[o+j]?))
  (b:cond x.pure (EF P t (x.cells.drop off) x.taint k) (EG P t x.cells off k)=some r) :
  ∃ v,k v=some r∧bx P J β h w t (fun j=>cs[o+off+j]?) v:=by
 cases c:x.pure with
 | true =>
  rw[c] at b
  have:=(f.1 c).drop off
  obtain⟨v,d,e⟩:=O9 (β:=β) (h:=h) b this
  exact⟨v,d,by simpa[Nat.add_assoc] using e⟩
 | false =>
  rw[c] at b
  obtain⟨v,d,e⟩:=EN (J:=J) (β:=β) (h:=h) (w:=w) (rd:=fun j=>cs[o+(off+j)]?) (SN b) (fun j y i=>by
   rw[List.getElem?_drop] at i
   obtain⟨u,l,m,_⟩:=f.2 c _ _ i
   exact⟨u,l,m⟩)
  exact⟨v,d,by simpa[Nat.add_assoc] using e⟩
theorem cA {t:TypeId} {p:AV} {vp:Value} {k:AV→O R} (S:SimH J β h w) (s:Looks g h) (d:gS P g t p k=some r) (e:Rep J β h w p vp) :
  ∃ v vc,k v=some r∧(Instr.loadAt t vp).run P w=.ok vc w∧Rep J β h w v vc:=by
 unfold gS at d
 split at d
 ·rename_i c org
  rw[Rep,RepC] at e
  obtain⟨a,rfl,_,f⟩:=e
  obtain⟨v,i,l⟩:=O9 (β:=β) (h:=h) d f
  obtain⟨vc,m,n⟩:=LD l
  exact⟨v,vc,i,by simp[Instr.loadAt,Instr.sureAddr,m],n⟩
 ·rename_i b off
  obtain⟨x,u,d⟩:=ub d
  obtain⟨y,z⟩:=Cr s u
  obtain⟨kk,o,cs,ty,fr,B,rfl,A,_,_,f,_⟩:=q8 S y z e
  obtain⟨v,i,l⟩:=f.reads d
  have q:bx P J β h w t (fun j=>w.cell? ((⟨kk,o+off,none⟩:Addr).add j)) v:=by
   simpa only[Addr.add_mid,Mf A] using l
  obtain⟨vc,m,n⟩:=LD q
  exact⟨v,vc,i,by simp[Instr.loadAt,Instr.sureAddr,m],n⟩
 ·simp at d
theorem B7 {t:TypeId} {n:Nat} (b:Bd P t=some n) (w:World):(Go.sizeOf t).run P w=.ok n w:=by
 unfold Bd at b
 cases hq:P.info? t with
 | none=>simp[hq] at b
 | some i=>simp[hq] at b;simp[Go.sizeOf,typeInfo,hq,b]
theorem Nr {i:Int} {n:Nat} (b:Aj i n=true):0≤i∧i<(n:Int):=by simpa[Aj] using b
theorem SO {J:Nat→Prop} {c:LA} {a:Addr} (b:RepCs J w c (fun j=>w.cell? (a.add j)) 0) (n:Nat):RepCs J w (c.drop n) (fun j=>w.cell? ((a.add n).add j)) 0:=by
 have e:∀ j,(a.add n).add j=a.add (n+j):=fun j=>by
  unfold Addr.add
  by_cases d:n=0<;>by_cases f:j=0<;>simp[d,f,Nat.add_assoc]
 simpa[e] using b.drop n
theorem Ae7 {b off n:Nat} {v:Value} (m:Nat) (c:Rep J β h w (.own b off n) v) (e:n≠0) :
  ∃ k o cap,v=.slice (some ⟨k,o,none⟩) n cap∧Rep J β h w (.optr b (off+m)) (.pointer (some ⟨k,o+m,none⟩)):=by
 rw[Rep] at c
 obtain⟨x,A,cap,d,rfl,f,c⟩:=c
 rcases c with c | ⟨k,o,rfl,c⟩
 ·omega
 ·refine⟨k,o+off,cap,rfl,?_⟩
  rw[Rep];exact⟨x,k,o,d,by rw[Nat.add_assoc],c.imp id (·.1)⟩
theorem LE {t b:TypeId} {c:IntKind} {i:Int} {len cap sz:Nat} {a:Addr} (d:P.underlying t=some (.slice b)) (e:Bd P b=some sz) (f:Aj i len=true) :
  (Instr.indexAt t (.slice (some a) len cap) (.int c i)).run P w=.ok (.pointer (some (a.add (i.toNat*sz)))) w:=by
 obtain⟨j,k⟩:=Nr f
 simp[Instr.indexAt,asIntOf,run_underlying d,j,k,B7 e]
theorem LF {t b:TypeId} {c:IntKind} {i:Int} {len sz:Nat} {a:Addr} (d:P.underlying t=some (.array len b)) (e:Bd P b=some sz) (f:Aj i len=true) :
  (Instr.indexAt t (.pointer (some a)) (.int c i)).run P w=.ok (.pointer (some (a.add (i.toNat*sz)))) w:=by
 obtain⟨j,k⟩:=Nr f
 simp[Instr.indexAt,asIntOf,run_underlying d,j,k,B7 e,Instr.sureAddr]
theorem ZN {t:TypeId} {x i:AV} {vx vi:Value} {k:AV→O R} (f:Nl P t x i k=some r) (j:Rep J β h w x vx) (e:Rep J β h w i vi) :
  ∃ v vc,k v=some r∧(Instr.indexAt t vx vi).run P w=.ok vc w∧Rep J β h w v vc:=by
 unfold Nl at f
 split at f
 ·rename_i s c len sz tight org u i l
  obtain⟨z,m,n⟩:=ub f
  obtain⟨G,L⟩:=uc n
  obtain⟨d,q⟩:=uc L
  have B:z=sz:=by simp at G;exact G.symm
  subst B
  rw[Rep] at e;subst e
  rw[Rep,RepC] at j
  obtain⟨I,A,cap,rfl,K,_,hA⟩:=j
  rcases hA with hA | ⟨a,rfl,C,D⟩
  ·have:=Nr d;omega
  refine⟨_,_,q,LE l m d,?_⟩
  rw[Rep,RepC]
  exact⟨_,rfl,by rw[Nq];exact C,SO D _⟩
 ·rename_i s b off len u i l
  obtain⟨sz,m,n⟩:=ub f
  obtain⟨d,q⟩:=uc n
  rw[Rep] at e;subst e
  obtain⟨kk,o,cap,rfl,F⟩:=Ae7 (i.toNat*sz) j (by have:=Nr d;omega)
  exact⟨_,_,q,LE l m d,by rw[Addr.add_mid];exact F⟩
 ·rename_i len s c org u i l
  obtain⟨sz,m,n⟩:=ub f
  obtain⟨d,q⟩:=uc n
  rw[Rep] at e;subst e
  rw[Rep,RepC] at j
  obtain⟨a,rfl,C,D⟩:=j
  refine⟨_,_,q,LF l m d,?_⟩
  rw[Rep,RepC]
  exact⟨_,rfl,by rw[Nq];exact C,SO D _⟩
 ·rename_i len s b off u i l
  obtain⟨sz,m,n⟩:=ub f
  obtain⟨d,q⟩:=uc n
  rw[Rep] at e;subst e
  rw[Rep] at j
  obtain⟨y,kk,o,M,rfl,F⟩:=j
  refine⟨_,_,q,LF l m d,?_⟩
  rw[Rep,Addr.add_mid]
  exact⟨y,kk,o,M,by rw[Nat.add_assoc],F⟩
 ·simp at f
theorem SP {t:TypeId} {f:Nat} {p:Nat×TypeId} (b:gC P t f=some p):∃ fs fd,P.underlying t=some (.struct fs)∧fs[f]?=some fd∧fd.offset=p.1∧fd.type=p.2:=by
 unfold gC at b
 split at b
 ·rename_i fs c
  cases hq:fs[f]? with
  | none=>simp[hq] at b
  | some fd=>simp[hq] at b;subst b;exact⟨fs,fd,c,hq,rfl,rfl⟩
 ·simp at b
theorem ZO {t:TypeId} {x:AV} {f:Nat} {vx:Value} {k:AV→O R} (i:Nm P t x f k=some r) (b:Rep J β h w x vx) :
  ∃ v vc,k v=some r∧(Instr.fieldAt t vx f).run P w=.ok vc w∧Rep J β h w v vc:=by
 unfold Nm at i
 obtain⟨p,j,l⟩:=ub i
 obtain⟨n,m,q⟩:=ub l
 obtain⟨s,c⟩:=wn q
 obtain⟨fs,fd,u,z,A,B⟩:=SP j
 have d:n≠0:=by intro e;subst e;simp at s
 have run:∀ a:Addr,(Instr.fieldAt t (.pointer (some a)) f).run P w=.ok (.pointer (some (a.add p.1))) w:=fun a=>by
  simp[Instr.fieldAt,run_underlying u,z,Instr.sureAddr,fieldPlace,B,B7 m,d,A]
 split at c
 ·rw[Rep,RepC] at b
  obtain⟨a,rfl,C,D⟩:=b
  refine⟨_,_,c,run a,?_⟩
  rw[Rep,RepC]
  exact⟨_,rfl,by rw[Nq];exact C,SO D _⟩
 ·rw[Rep] at b
  obtain⟨y,kk,o,F,rfl,G⟩:=b
  refine⟨_,_,c,run _,?_⟩
  rw[Rep,Addr.add_mid]
  exact⟨y,kk,o,F,by rw[Nat.add_assoc],G⟩
 ·simp at c
theorem q9 {t:TypeId} {x:AV} {f:Nat} {vx:Value} {k:AV→O R} (s:ZA P t x f k=some r) (d:Rep J β h w x vx) :
  ∃ v vc,k v=some r∧(Instr.field t vx f).run P w=.ok vc w∧Rep J β h w v vc:=by
 unfold ZA at s
 obtain⟨p,C,e⟩:=ub s
 obtain⟨fs,fd,u,z,A,B⟩:=SP C
 split at e
 ·rename_i c org
  rw[Rep] at d
  obtain⟨cs,rfl,D,b⟩:=d
  obtain⟨v,i,l⟩:=O9 (β:=β) (h:=h) e (b.drop p.1)
  obtain⟨vc,m,n⟩:=Om l
  exact⟨v,vc,i,by simp[Instr.field,run_underlying u,z,asAgg,B,A,m],n⟩
 ·rename_i c
  rw[Rep] at d
  obtain⟨cs,rfl,b⟩:=d
  rw[Bm] at b
  obtain⟨v,i,l⟩:=EN (J:=J) (β:=β) (h:=h) (w:=w) (rd:=fun j=>cs[p.1+j]?) e (fun j y q=>by
   rw[List.getElem?_drop] at q
   have:p.1+j<cs.length:=by
    rw[b.1];exact(List.getElem?_eq_some_iff.1 q).1
   exact⟨cs[p.1+j],List.getElem?_eq_getElem this,b.2 _ _ _ q (List.getElem?_eq_getElem this)⟩)
  obtain⟨vc,m,n⟩:=Om l
  exact⟨v,vc,i,by simp[Instr.field,run_underlying u,z,asAgg,B,A,m],n⟩
 ·simp at e
theorem q_ {t:TypeId} {x i:AV} {vx vi:Value} {k:AV→O R} (b:ZB P t x i k=some r) (d:Rep J β h w x vx) (e:Rep J β h w i vi) :
  ∃ v vc,k v=some r∧(Instr.index t vx vi).run P w=.ok vc w∧Rep J β h w v vc:=by
 unfold ZB at b
 split at b
 ·rename_i s K i f
  obtain⟨l,m⟩:=uc b
  obtain⟨n,z⟩:=Nr l
  rw[Rep] at e;rw[Rep] at d;subst e d
  have q:i.toNat<s.length:=by omega
  refine⟨_,.int .u8 ((s.getD i.toNat 0).toNat:Int),m,?_,by rw[Rep]⟩
  have L:(⟨⟨s⟩⟩:ByteArray)[i.toNat]?=some s[i.toNat]:=by
   have:i.toNat<(⟨⟨s⟩⟩:ByteArray).size:=q
   rw[getElem?_pos (⟨⟨s⟩⟩:ByteArray) i.toNat this];rfl
  simp only[Instr.index,asIntOf,Sem.run_bind,Sem.run_pure,Result.andThen_ok,run_underlying f,n,if_true,L,List.getD_eq_getElem?_getD,List.getElem?_eq_getElem q,Option.getD_some]
 ·rename_i len M c org K i f
  obtain⟨sz,A,m⟩:=ub b
  obtain⟨l,z⟩:=uc m
  obtain⟨n,B⟩:=Nr l
  rw[Rep] at e;rw[Rep] at d;subst e
  obtain⟨cs,rfl,S,u⟩:=d
  obtain⟨v,C,D⟩:=O9 (β:=β) (h:=h) z (u.drop (i.toNat*sz))
  obtain⟨vc,F,G⟩:=Om D
  exact⟨v,vc,C,by simp[Instr.index,asIntOf,run_underlying f,n,B,B7 A,F],G⟩
 ·rename_i len M c K i f
  obtain⟨sz,A,m⟩:=ub b
  obtain⟨l,z⟩:=uc m
  obtain⟨n,B⟩:=Nr l
  rw[Rep] at e;rw[Rep] at d;subst e
  obtain⟨cs,rfl,u⟩:=d
  rw[Bm] at u
  obtain⟨v,C,D⟩:=EN (J:=J) (β:=β) (h:=h) (w:=w) (rd:=fun j=>cs[i.toNat*sz+j]?) (SN z) (fun j y I=>by
   rw[List.getElem?_drop] at I
   have:i.toNat*sz+j<cs.length:=by
    rw[u.1];exact(List.getElem?_eq_some_iff.1 I).1
   exact⟨cs[i.toNat*sz+j],List.getElem?_eq_getElem this,u.2 _ _ _ I (List.getElem?_eq_getElem this)⟩)
  obtain⟨vc,F,G⟩:=Om D
  exact⟨v,vc,C,by simp[Instr.index,asIntOf,run_underlying f,n,B,B7 A,F],G⟩
 ·simp at b
end
end Gx

namespace Gx
open Go
section
variable {R:Type} {r:R} {P:Program} {J:Bool→Nat→Prop} {β:Bl} {h:Ah} {w:World} {g:A0}
def T8 (J:Bool→Nat→Prop) (β:Bl) (h:Ah) (w:World):Option AV→Option Value→Prop
 | none,none=>True
 | some x,some v=>Rep J β h w x v
 | _,_=>False
theorem EO {o:Option AV} {vo:Option Value} {d:Nat} {i:Int} (b:SF o d=some i) (c:T8 J β h w o vo) :
  (o=none∧vo=none∧i=d)∨∃ k,vo=some (.int k i):=by
 unfold SF at b
 split at b
 ·simp at b;subst b
  cases vo with
  | none=>exact .inl ⟨rfl,rfl,rfl⟩
  | some v=>simp[T8] at c
 ·rename_i k j
  simp at b;subst b
  cases vo with
  | none=>simp[T8] at c
  | some v=>rw[T8,Rep] at c;subst c;exact .inr ⟨k,rfl⟩
 ·simp at b
theorem On {lo t mx:Option AV} {vlo vhi vmx:Option Value} {n cap:Nat} {k:Nat→Nat→O R} {isSlice:Bool} (x:Ql lo t mx n k=some r)
  (u:T8 J β h w lo vlo)
  (f:T8 J β h w t vhi)
  (j:T8 J β h w mx vmx) (z:n≤cap) :
  ∃ l d m,k l d=some r∧l≤d∧d≤n∧d≤m∧m≤cap∧(mx=none→m=cap)∧(∀ e i,vmx=some (.int e i)→(m:Int)=i)∧(∀ e i,vhi=some (.int e i)→(d:Int)=i)∧(t=none→d=n) ∧
   (Instr.sliceBounds isSlice n cap vlo vhi vmx).run P w=.ok (l,d,m) w:=by
 unfold Ql at x
 obtain⟨l,D,F⟩:=ub x
 obtain⟨c,G,I⟩:=ub F
 obtain⟨m,K,v⟩:=ub I
 obtain⟨A,v⟩:=wn v
 obtain⟨B,C⟩:=uc v
 simp at B A
 obtain⟨c1,L,M,S⟩:=B
 have run:∀ (e:IntKind) (i:Int) (y:Nat) (code:BoundsCode),0≤i→i≤(y:Int)→(Instr.sliceBound (.int e i) y code).run P w=.ok i.toNat w:=fun e i y code a b=>by
  simp[Instr.sliceBound,asIntOf,a,b]
 have bl:=EO (J:=J) (β:=β) (h:=h) (w:=w) D u
 have bh:=EO (J:=J) (β:=β) (h:=h) (w:=w) G f
 have bm:=EO (J:=J) (β:=β) (h:=h) (w:=w) K j
 rcases bm with⟨rfl,rfl,rfl⟩ | ⟨km,rfl⟩
 ·refine⟨l.toNat,c.toNat,cap,C,by omega,by omega,by omega,by omega,fun _=>rfl,by simp,?_,?_,?_⟩
  ·intro e i q
   rcases bh with⟨_,rfl,_⟩ | ⟨kh,rfl⟩
   ·simp at q
   ·simp at q;omega
  ·intro s
   rcases bh with⟨_,_,rfl⟩ | ⟨kh,rfl⟩
   ·simp
   ·subst s;simp[T8] at f
  ·rcases bh with⟨_,rfl,rfl⟩ | ⟨kh,rfl⟩<;>rcases bl with⟨_,rfl,rfl⟩ | ⟨kl,rfl⟩
   ·simp[Instr.sliceBounds]
   ·simp[Instr.sliceBounds,run _ l n _ c1 (by omega)]
   ·simp[Instr.sliceBounds,run _ c cap _ (by omega) (by omega)]
   ·simp[Instr.sliceBounds,run _ c cap _ (by omega) (by omega),run _ l c.toNat _ c1 (by omega)]
 ·rcases bh with⟨rfl,rfl,rfl⟩ | ⟨kh,rfl⟩
  ·have:mx.isSome=true:=by
    cases mx with
    | none=>simp[T8] at j
    | some _=>rfl
   have:=A this;simp at this
  ·refine⟨l.toNat,c.toNat,m.toNat,C,by omega,by omega,by omega,by omega,?_,?_,?_,?_,?_⟩
   ·intro s;subst s;simp[T8] at j
   ·intro e i q;simp at q;omega
   ·intro e i q;simp at q;omega
   ·intro s;subst s;simp[T8] at f
   ·rcases bl with⟨_,rfl,rfl⟩ | ⟨kl,rfl⟩
    ·simp[Instr.sliceBounds,run _ m cap _ (by omega) (by omega),run _ c m.toNat _ (by omega) (by omega)]
    ·simp[Instr.sliceBounds,run _ m cap _ (by omega) (by omega),run _ c m.toNat _ (by omega) (by omega),run _ l c.toNat _ c1 (by omega)]
theorem qa {t:TypeId} {x:AV} {lo hi mx:Option AV} {vx:Value} {vlo vhi vmx:Option Value} {k:AV→O R} (hl:Looks g h) (q:ZC P g t x lo hi mx k=some r)
  (B:Rep J β h w x vx) (u:T8 J β h w lo vlo) (e:T8 J β h w hi vhi) (f:T8 J β h w mx vmx) :
  ∃ v vc,k v=some r∧(Instr.sliceAt t vx vlo vhi vmx).run P w=.ok vc w∧Rep J β h w v vc:=by
 unfold ZC at q
 split at q
 ·rename_i s C
  obtain⟨hm,M⟩:=wn q
  have X:mx=none:=by cases mx<;>simp_all
  subst X
  have hv:vmx=none:=by cases vmx<;>simp_all[T8]
  subst hv
  rw[Rep] at B;subst B
  obtain⟨l,d,m,D,S,U,_,_,Y,_,_,_,V⟩:=On (P:=P) (isSlice:=false) M u e (vmx:=none) (by simp[T8]) (Nat.le_refl _)
  refine⟨_,_,D,?_,by rw[Rep]⟩
  have F:(⟨⟨s⟩⟩:ByteArray).size=s.length:=rfl
  have K:(⟨⟨s⟩⟩:ByteArray).extract l d=⟨⟨(s.drop l).take (d - l)⟩⟩:=by
   apply ByteArray.ext
   rw[ByteArray.data_extract]
   simp
  simp[Instr.sliceAt,Instr.slice,run_underlying C,F,V,K]
 ·rename_i el C
  rw[Rep] at B;subst B
  obtain⟨sz,F,q⟩:=ub q
  obtain⟨l,d,m,D,S,U,Y,V,_,_,_,_,h7⟩:=On (P:=P) (isSlice:=true) q u e f (Nat.le_refl _)
  have:l=0:=by omega
  have:d=0:=by omega
  have:m=0:=by omega
  subst l;subst d;subst m
  refine⟨_,.slice none 0 0,D,?_,by rw[Rep]⟩
  simp[Instr.sliceAt,Instr.slice,run_underlying C,h7,B7 F]
 ·rename_i el c n sz tight org C
  obtain⟨G,F,M⟩:=ub q
  obtain⟨K,D⟩:=uc M
  have z:G=sz:=by simp at K;exact K.symm
  subst z
  rw[Rep,RepC] at B
  obtain⟨T,A,cap,rfl,i,ht,hA⟩:=B
  obtain⟨l,d,m,S,U,Y,V,h7,h8,h9,h10,h11,h12⟩:=On (P:=P) (isSlice:=true) D u e f i
  refine⟨_,.slice (if m=l then A else A.map (·.add (l*G))) (d - l) (m - l),S,?_,?_⟩
  ·simp[Instr.sliceAt,Instr.slice,run_underlying C,h12,B7 F]
  ·rw[Rep,RepC]
   refine⟨?_,_,_,rfl,by omega,?_,?_⟩
   ·simp;rw[T,←Nat.sub_mul]
    exact Nat.min_eq_left (Nat.mul_le_mul_right _ (by omega))
   ·intro j
    unfold yw at j
    split at j
    ·have:=ht j
     have:=h8 rfl
     have:=h11 rfl
     omega
    ·rename_i ka a kb b
     cases vhi with
     | none=>simp[T8] at e
     | some u1=>cases vmx with
      | none=>simp[T8] at f
      | some u2 =>
       rw[T8,Rep] at e f;subst e f
       have e1:=h10 _ _ rfl
       have e2:=h9 _ _ rfl
       simp at j
       omega
    ·simp at j
   ·by_cases hz:d - l=0
    ·exact .inl hz
    ·right
     rcases hA with hA | ⟨a,rfl,hj,hc⟩
     ·omega
     ·refine⟨a.add (l*G),by rw[if_neg (by omega)];rfl,by rw[Nq];exact hj,(SO hc _).take _⟩
 ·rename_i el b off n C
  obtain⟨sz,F,M⟩:=ub q
  obtain⟨y,hy,D⟩:=ub M
  obtain⟨K,S⟩:=uc D
  obtain⟨hb,hd⟩:=Cr hl hy
  have z:sz=y.sz:=by simpa using K
  rw[Rep] at B
  obtain⟨x,A,cap,⟨I,hmp⟩,rfl,i,L⟩:=B
  rw[hb] at I;simp at I;subst I
  obtain⟨l,d,m,U,Y,V,h7,h8,_,_,_,_,h9⟩:=On (P:=P) (isSlice:=true) S u e f i
  refine⟨_,.slice (if m=l then A else A.map (·.add (l*sz))) (d - l) (m - l),U,?_,?_⟩
  ·simp[Instr.sliceAt,Instr.slice,run_underlying C,h9,B7 F]
  ·rw[Rep]
   refine⟨y,_,_,⟨hb,hmp⟩,rfl,by omega,?_⟩
   by_cases hz:m - l=0
   ·exact .inl hz
   ·right
    rcases L with L | ⟨kk,o,rfl,L⟩
    ·omega
    ·refine⟨kk,o,by rw[if_neg (by omega)];simp[Addr.add_mid,Nat.add_assoc],?_⟩
     rcases L with L | ⟨r1,r2,r3⟩
     ·simp[hd] at L
     ·refine .inr ⟨r1,?_,?_⟩
      ·have:l*sz+(m - l)*y.sz≤cap*y.sz:=by
        rw[z,←Nat.add_mul];exact Nat.mul_le_mul_right _ (by omega)
       omega
      ·have:l*sz+(d - l)*y.sz≤n*y.sz:=by
        rw[z,←Nat.add_mul];exact Nat.mul_le_mul_right _ (by omega)
       omega
 ·simp at q
theorem wo {t:TypeId} {x v:AV} {vx:Value} {ty:TypeId} (b:Agw P t x=some v) (d:Rep J β h w x vx) :
  ∃ vc,(Builtin.len_ #[t] ty #[vx]).run P w=.ok vc w∧Rep J β h w v vc:=by
 unfold Agw at b
 split at b
 ·rename_i c
  simp at b;subst b;rw[Rep] at d;subst d
  exact⟨.int .i64 0,by simp[Builtin.len_,run_underlying c,goInt],by rw[Rep]⟩
 ·rename_i n _ _ _ c
  simp at b;subst b;rw[Rep,RepC] at d
  obtain⟨_,A,cap,rfl,_⟩:=d
  exact⟨.int .i64 n,by simp[Builtin.len_,run_underlying c,goInt],by rw[Rep]⟩
 ·rename_i n c
  simp at b;subst b;rw[Rep] at d
  obtain⟨_,A,cap,_,rfl,_⟩:=d
  exact⟨.int .i64 n,by simp[Builtin.len_,run_underlying c,goInt],by rw[Rep]⟩
 ·rename_i s c
  simp at b;subst b;rw[Rep] at d;subst d
  refine⟨.int .i64 s.length,?_,by rw[Rep]⟩
  have e:(⟨⟨s⟩⟩:ByteArray).size=s.length:=rfl
  simp[Builtin.len_,run_underlying c,goInt,e]
 ·rename_i n _ c
  simp at b;subst b
  exact⟨.int .i64 n,by simp[Builtin.len_,run_underlying c,goInt],by rw[Rep]⟩
 ·simp at b
theorem SQ {J:Nat→Prop}:∀ {x:AV} {u:Value},RepC J w x u→u.oneCell'=true
 | .int ..,_,b=>by rw[RepC] at b;subst b;rfl
 | .bool _,_,b=>by rw[RepC] at b;subst b;rfl
 | .str _,_,b=>by rw[RepC] at b;subst b;rfl
 | .nsl,_,b=>by rw[RepC] at b;subst b;rfl
 | .imm ..,_,b=>by rw[RepC] at b;obtain⟨_,A,cap,rfl,_⟩:=b;rfl
 | .iptr ..,_,b=>by rw[RepC] at b;obtain⟨a,rfl,_⟩:=b;rfl
 | .nilptr,_,b=>by rw[RepC] at b;subst b;rfl
 | .nilfn,_,b=>by rw[RepC] at b;subst b;rfl
 | .fn _ [],_,b=>by rw[RepC] at b;subst b;rfl
 | .fn _ (_::_),_,b=>by simp[RepC] at b
 | .pagg ..,_,b=>by simp[RepC] at b
 | .agg _,_,b=>by simp[RepC] at b
 | .tup _,_,b=>by simp[RepC] at b
 | .own ..,_,b=>by simp[RepC] at b
 | .optr ..,_,b=>by simp[RepC] at b
 | .undef,_,b=>by simp[RepC] at b
 | .omap _,_,b=>by simp[RepC] at b
theorem RepCs.one {J:Nat→Prop} {c:LA} {d:List Value} (f:RepCs J w c (fun j=>d[j]?) 0) (m:d.length=c.length):∀ u ∈ d,u.oneCell'=true:=by
 intro u i
 obtain⟨j,k,rfl⟩:=List.getElem_of_mem i
 have e:j<c.length:=by omega
 obtain⟨n,b,l⟩:=f.at (List.getElem?_eq_getElem e)
 simp[List.getElem?_eq_getElem k] at b
 rw[b];exact SQ l
structure Yield (P:Program) (w:World) (sz:Nat) (vx:Value) (n:Nat) (us:List Value):Prop where
 len:∀ w':World,(Builtin.lenOf vx).run P w'=.ok n w'
 cells:∀ (w':World) (m:Nat),(∀ a,w'.cell? a=w.cell? a)→m≤n→(Builtin.firstCells sz m vx).run P w'=.ok (us.take (m*sz)).toArray w'
 length:us.length=n*sz
theorem cB {sz:Nat} {x:AV} {vx:Value} {q:LA×Nat×Bool} (S:SimH J β h w) (hl:Looks g h) (i:gT g sz x=some q) (l:Rep J β h w x vx) :
  ∃ e:List Value,Yield P w sz vx q.2.1 e∧q.1.length=e.length∧RepCs (J q.2.2) w q.1 (fun j=>e[j]?) 0:=by
 have ofSlice:∀ (a:Addr) (n cap:Nat) (e:List Value),e.length=n*sz→(∀ j u,e[j]?=some u→w.cell? (a.add j)=some u)→Yield P w sz (.slice (some a) n cap) n e:=fun a n cap e d hu =>
  ⟨fun _=>rfl,fun w' m f L=>by
   have hle:m*sz≤n*sz:=Nat.mul_le_mul_right _ L
   refine run_firstCells_some (P:=P) w' sz m a n cap (e.take (m*sz)) (by simp;omega) (fun j v D=>?_)
   rw[f]
   rw[List.getElem?_take] at D
   split at D
   ·exact hu j v D
   ·simp at D,d⟩
 have ofEmpty:∀ (A:Option Addr) (cap:Nat),Yield P w sz (.slice A 0 cap) 0 []:=fun A cap =>
  ⟨fun _=>rfl,fun w' m f L=>by
   have:m=0:=by omega
   subst this
   cases A with
   | none=>simp[run_firstCells_none]
   | some a=>have:=run_firstCells_some (P:=P) w' sz 0 a 0 cap [] (by simp) (fun j v D=>by simp at D);simpa using this,by simp⟩
 unfold gT at i
 split at i
 ·simp at i;subst i;rw[Rep] at l;subst l
  exact⟨[],ofEmpty _ _,rfl,by simp[RepCs]⟩
 ·rename_i c n M tight org
  obtain⟨f,z⟩:=uc i
  have O:M=sz:=by simp at f;exact f.symm
  subst O
  simp at z;subst z
  rw[Rep,RepC] at l
  obtain⟨d,A,cap,rfl,G,ht,hA⟩:=l
  rcases hA with rfl | ⟨a,rfl,I,hc⟩
  ·have:c=[]:=by simpa using d
   subst this
   exact⟨[],ofEmpty _ _,rfl,by simp[RepCs]⟩
  ·obtain⟨e,t,T,U⟩:=hc.list
   exact⟨e,ofSlice a n cap e (by rw[t,d]) T,t.symm,U⟩
 ·rename_i b off n
  obtain⟨y,hy,z⟩:=ub i
  obtain⟨f,t⟩:=uc z
  obtain⟨K,X⟩:=Cr hl hy
  simp at f t
  obtain⟨hp,f⟩:=f
  subst t;subst f
  rw[Rep] at l
  obtain⟨x,A,cap,⟨B,V⟩,rfl,G,F⟩:=l
  rw[K] at B;simp at B;subst B
  rcases F with F | ⟨kk,o,rfl,F⟩
  ·have:n=0:=by omega
   subst this
   exact⟨[],ofEmpty _ _,by simp,by simp[RepCs]⟩
  ·rcases F with F | ⟨Y,r2,r3⟩
   ·simp[X] at F
   ·rcases S.blk b y K X V with⟨hn,_⟩ | ⟨k',o',cs,ty,fr,C,g1,g2,g3,g4,g5,g6⟩
    ·rw[Y] at hn;simp at hn
    ·rw[Y] at C;simp at C;obtain⟨rfl,rfl⟩:=C
     obtain⟨e,t,T,U⟩:=(((g4.1 hp).drop off).take (n*y.sz)).list
     have d:e.length=n*y.sz:=by rw[t];simp;omega
     refine⟨e,ofSlice _ n cap e d (fun j u I=>?_),t.symm,U⟩
     have:=T j u I
     rw[Addr.add_mid,Mf g1,Nat.add_assoc];exact this
 ·rename_i s
  obtain⟨f,z⟩:=uc i
  simp at f z
  subst f;subst z
  rw[Rep] at l;subst l
  refine⟨s.map fun b=>.int .u8 (b.toNat:Int),⟨fun _=>rfl,fun w' m _ L=>?_,by simp⟩,by simp,?_⟩
  ·simp[Builtin.firstCells]
  ·rw[Bi]
   intro j x I
   simp at I
   obtain⟨b,K,rfl⟩:=I
   exact⟨_,by simp[K];rfl,by rw[RepC]⟩
 ·simp at i
theorem Y8 {f:TypeId} {sz:Nat} {x:AV} {vx:Value} {k:LA×Nat×Bool→O R} (S:SimH J β h w) (i:Looks g h) (e:PX P f g sz x k=some r) (l:Rep J β h w x vx) :
  ∃ (q:LA×Nat×Bool) (b:List Value),k q=some r∧Yield P w sz vx q.2.1 b∧q.1.length=b.length∧RepCs (J q.2.2) w q.1 (fun j=>b[j]?) 0:=by
 unfold PX at e
 obtain⟨q,hq,m⟩:=ub e
 obtain⟨b,Y,c,d⟩:=cB (P:=P) S i hq l
 obtain⟨o,n,s⟩:=LC m d
 exact⟨_,b,n,Y,c,s⟩
end
end Gx

namespace Gx
open Go
theorem EC {a b:Nat} (h:a≠b):Nat.beq a b=false:=by
 cases c:Nat.beq a b with
 | false=>rfl
 | true=>exact absurd (Nat.eq_of_beq_eq_true c) h
theorem P7 {a b:Nat} (h:Nat.beq a b=false):a≠b:=fun e=>by subst e;rw[Nat.beq_refl] at h;cases h
theorem Ae:∀ (h:Ah) (b:Nat) (y:Blk) (c:Nat),Ak (Dk h b y) c=if c=b then some y else Ak h c
 | [],b,y,c=>by
  by_cases e:c=b
  ·subst e;simp[Dk,Ak]
  ·have:Nat.beq b c=false:=EC (fun f=>e f.symm)
   simp[Dk,Ak,e,this]
 | (i,x)::r,b,y,c=>by
  rw[Dk]
  cases k:Nat.beq i b with
  | true =>
   have d:i=b:=by simpa using k
   subst d
   by_cases e:c=i
   ·subst e;simp[Ak]
   ·have:Nat.beq i c=false:=EC (fun f=>e f.symm)
    simp[Ak,e,this]
  | false =>
   have d:i≠b:=P7 k
   cases m:Nat.blt b i with
   | true =>
    by_cases e:c=b
    ·subst e;simp[Ak]
    ·have:Nat.beq b c=false:=EC (fun f=>e f.symm)
     simp[Ak,e,this]
   | false =>
    simp only[cond_false]
    rw[Ak]
    cases l:Nat.beq i c with
    | true =>
     have j:i=c:=by simpa using l
     subst j
     simp[Ak,d]
    | false=>simp[Ak,l,Ae r b y c]
theorem Jk:∀ (h:Ev) (b:Nat) (y:AV) (c:Nat),D2 (PW h b y) c=if c=b then y else D2 h c
 | [],b,y,c=>by
  by_cases e:c=b
  ·subst e;simp[PW,D2]
  ·have:Nat.beq b c=false:=EC (fun f=>e f.symm)
   simp[PW,D2,e,this]
 | (i,x)::r,b,y,c=>by
  rw[PW]
  cases k:Nat.beq i b with
  | true =>
   have d:i=b:=by simpa using k
   subst d
   by_cases e:c=i
   ·subst e;simp[D2]
   ·have:Nat.beq i c=false:=EC (fun f=>e f.symm)
    simp[D2,e,this]
  | false =>
   have d:i≠b:=P7 k
   cases m:Nat.blt b i with
   | true =>
    by_cases e:c=b
    ·subst e;simp[D2]
    ·have:Nat.beq b c=false:=EC (fun f=>e f.symm)
     simp[D2,e,this]
   | false =>
    simp only[cond_false]
    rw[D2]
    cases l:Nat.beq i c with
    | true =>
     have j:i=c:=by simpa using l
     subst j
     simp[D2,d]
    | false=>simp[D2,l,Jk r b y c]
def tH (β:Bl) (h:Ah) (k:Nat):Prop:=∃ b x o,Ak h b=some x∧x.dead=false∧x.sealed=false∧β b=some (k,o)
structure Step (J:Bool→Nat→Prop) (β:Bl) (h:Ah) (w:World) (J':Bool→Nat→Prop) (β':Bl) (h':Ah) (w':World):Prop where
 ext:Ext J β h w J' β' h' w'
 sim:SimH J' β' h' w'
 os:w'.os=w.os
 tape:w'.tape=w.tape
 output:w'.output=w.output
 size:w.heap.size≤w'.heap.size
 frame:∀ k,k<w.heap.size→¬ tH β h k→w'.heap[k]?=w.heap[k]?
 wr:∀ k,tH β' h' k→k<w.heap.size→tH β h k
 jup:∀ o k,J' o k→J o k∨tH β h k∨w.heap.size≤k
section
variable {J J' J'':Bool→Nat→Prop} {β β' β'':Bl} {h h' h'':Ah} {w w' w'':World}
theorem Ext.refl:Ext J β h w J β h w:=⟨fun _ _ c=>c,fun _ _ _=>rfl,fun b x d=>⟨x,⟨d,rfl⟩,by cases e:x.dead<;>simp⟩,fun _ _ _ _=>Nat.le_refl _⟩
theorem Ext.trans (A:Ext J β h w J' β' h' w') (B:Ext J' β' h' w' J'' β'' h'' w'') (i:∀ b k o,β b=some (k,o)→A1 w k≤A1 w'' k):Ext J β h w J'' β'' h'' w'' where
 jsub o k d:=B.jsub o k (A.jsub o k d)
 keep o k d:=(B.keep o k (A.jsub o k d)).trans (A.keep o k d)
 blk b x j:=by
  obtain⟨x',⟨l,m1⟩,e⟩:=A.blk b x j
  obtain⟨x'',⟨m,m3⟩,c⟩:=B.blk b x' l
  refine⟨x'',⟨m,m3.trans m1⟩,?_⟩
  rcases c with c | ⟨c,n,q,s⟩
  ·exact .inl c
  ·rcases e with e | ⟨t,u,v,y⟩
   ·simp[c] at e
   ·exact .inr ⟨t,n.trans u,q.trans v,fun f=>(s (m1.trans f)).trans (y f)⟩
 size:=i
theorem Step.refl (S:SimH J β h w):Step J β h w J β h w:=⟨Ext.refl,S,rfl,rfl,rfl,Nat.le_refl _,fun _ _ _=>rfl,fun _ b _=>b,fun _ _ c=>.inl c⟩
theorem Step.trans (A:Step J β h w J' β' h' w') (B:Step J' β' h' w' J'' β'' h'' w'') (i:∀ b k o,β b=some (k,o)→A1 w k≤A1 w'' k):Step J β h w J'' β'' h'' w'' where
 ext:=A.ext.trans B.ext i
 sim:=B.sim
 os:=B.os.trans A.os
 tape:=B.tape.trans A.tape
 output:=B.output.trans A.output
 size:=Nat.le_trans A.size B.size
 frame k c e:=(B.frame k (Nat.lt_of_lt_of_le c A.size) (fun f=>e (A.wr k f c))).trans (A.frame k c e)
 wr k e c:=A.wr k (B.wr k e (Nat.lt_of_lt_of_le c A.size)) c
 jup o k j:=by
  rcases B.jup o k j with d | d | d
  ·exact A.jup o k d
  ·by_cases c:k<w.heap.size
   ·exact .inr (.inl (A.wr k d c))
   ·exact .inr (.inr (by omega))
  ·exact .inr (.inr (Nat.le_trans A.size d))
theorem CellsRep.ext (E:Ext J β h w J' β' h' w') {x:Blk} {rd:Nat→Option Value} (d:CellsRep J β h w x rd):CellsRep J' β' h' w' x rd :=
 ⟨fun b=>RepCs.keep (E.jsub _) (E.keep _) (fun _=>rfl) (d.1 b),fun b j c e=>by
  obtain⟨u,f,i,k⟩:=d.2 b j c e
  exact⟨u,f,Rep.ext E i,k⟩⟩
theorem De {k:Nat} {cs:Array Value} {ty:TypeId} {fr:Nat×Nat} (b:w.heap[k]?=some (.cells cs ty fr)):A1 w k=cs.size:=by simp[A1,b]
theorem Y9 {k:Nat} {o:Obj} (d:w.heap[k]?=some o):k<w.heap.size:=by
 rcases Nat.lt_or_ge k w.heap.size with b | c
 ·exact b
 ·rw[Array.getElem?_eq_none c] at d;cases d
theorem MapRep.keep {b:Nat} {x:Blk} (M:MapRep J β w b x) (d:β' b=β b) (e:∀ k o,β b=some (k,o)→w'.heap[k]?=w.heap[k]?) (f:∀ g k o,β b=some (k,o)→J' g k→J g k):MapRep J' β' w' b x:=by
 obtain⟨i,j,k,ob,c,l,m,n⟩:=M
 exact⟨i,j,k,ob,by rw[d];exact c,by rw[e k 0 c];exact l,m,fun g q=>n g (f g k 0 c q)⟩
theorem Step.drew (S:SimH J β h w):Step J β h w J β h w.drew where
 ext:=⟨fun _ _ c=>c,fun _ _ _=>rfl,fun b x d=>⟨x,⟨d,rfl⟩,by cases e:x.dead<;>simp⟩,fun _ _ _ _=>Nat.le_refl _⟩
 sim:=by
  have E:Ext J β h w J β h w.drew:=⟨fun _ _ c=>c,fun _ _ _=>rfl,fun b x d=>⟨x,⟨d,rfl⟩,by cases e:x.dead<;>simp⟩,fun _ _ _ _=>Nat.le_refl _⟩
  refine⟨S.jlt,S.jft,S.gl.ext E,fun b x d e f=>?_,fun b x d e f=>(S.mblk b x d e f).keep rfl (fun _ _ _=>rfl) (fun _ _ _ _ c=>c),S.sep⟩
  rcases S.blk b x d e f with i | ⟨k,o,cs,ty,fr,i,j,l,m,n,q⟩
  ·exact .inl i
  ·exact .inr ⟨k,o,cs,ty,fr,i,j,l,m,n.ext E,q⟩
 os:=rfl
 tape:=rfl
 output:=rfl
 size:=Nat.le_refl _
 frame _ _ _:=rfl
 wr _ f _:=f
 jup _ _ c:=.inl c
theorem Ci (w:World) (o:Obj) {k:Nat} (b:k<w.heap.size):(w.alloc o).heap[k]?=w.heap[k]?:=by
 show(w.heap.push o)[k]?=_
 rw[Array.getElem?_push,if_neg (by omega)]
theorem Px (S:SimH J β h w) {b:Nat} {x:Blk} {k o:Nat} (f:Ak h b=some x) (i:x.dead=false) (d:β b=some (k,o)):k<w.heap.size:=by
 cases j:x.mp with
 | false =>
  rcases S.blk b x f i j with⟨l,_⟩ | ⟨m,o',cs,ty,fr,c,e,_⟩
  ·rw[d] at l;simp at l
  ·rw[d] at c;simp at c;obtain⟨rfl,rfl⟩:=c;exact Y9 e
 | true =>
  obtain⟨_,_,m,ob,c,e,_⟩:=S.mblk b x f i j
  rw[d] at c;simp at c;obtain⟨rfl,_⟩:=c;exact Y9 e
theorem Step.new (S:SimH J β h w) {d:Nat} {x:Blk} {cs:Array Value} {ty:TypeId} {fr:Nat×Nat} (O:Ak h d=none) (T:x.dead=false) (B:x.sealed=false)
  (C:FrTy x.ty ty 0 cs.size fr) (K:x.cells.length≤cs.size) (U:CellsRep J β h w x (fun j=>cs[j]?)) (D:x.mp=false:=by rfl) :
  Step J β h w J (fun b=>if b=d then some (w.heap.size,0) else β b) (Dk h d x) (w.alloc (.cells cs ty fr)):=by
 have ne:∀ {b y},Ak h b=some y→b≠d:=fun c e=>by subst e;rw[O] at c;cases c
 have E:Ext J β h w J (fun b=>if b=d then some (w.heap.size,0) else β b) (Dk h d x) (w.alloc (.cells cs ty fr)):=by
  refine⟨fun _ _ i=>i,fun o k i=>Ci w _ (S.jlt o k i),fun b y c=>⟨y,⟨by rw[Ae,if_neg (ne c)];exact c,rfl⟩,?_⟩,fun b k o f=>?_⟩
  ·cases n:y.dead
   ·exact .inr ⟨rfl,by simp[ne c],rfl,fun _=>rfl⟩
   ·exact .inl rfl
  ·by_cases s:k<w.heap.size
   ·simp[A1,Ci w _ s]
   ·simp[A1,Array.getElem?_eq_none (Nat.le_of_not_lt s)]
 have t:(w.alloc (.cells cs ty fr)).heap[w.heap.size]?=some (.cells cs ty fr):=by
  show(w.heap.push _)[_]?=_;simp
 have V:(w.alloc (.cells cs ty fr)).heap.size=w.heap.size+1:=by show(w.heap.push _).size=_;simp
 refine⟨E,⟨fun o k i=>by have:=S.jlt o k i;omega,S.jft,S.gl.ext E,fun b y c n z=>?_,fun b y c n z=>by
   rw[Ae] at c
   by_cases e:b=d
   ·rw[if_pos e] at c;simp at c;subst c;simp[D] at z
   ·rw[if_neg e] at c
    exact(S.mblk b y c n z).keep (by simp[e]) (fun k o f=>Ci w _ (Px S c n f)) (fun _ _ _ _ i=>i),?_⟩,rfl,rfl,rfl,by omega,fun k s _=>Ci w _ s,?_,fun _ _ i=>.inl i⟩
 ·rw[Ae] at c
  by_cases e:b=d
  ·subst e;simp at c;subst c
   exact .inr ⟨w.heap.size,0,cs,ty,fr,by simp,t,C,by omega,by simpa using U.ext E,fun _ g i=>by have:=S.jlt g _ i;omega,fun u=>by simp[B] at u⟩
  ·rw[if_neg e] at c
   rcases S.blk b y c n z with A | ⟨k,o,F,G,I,A,L,X,Y,h5,h6⟩
   ·exact .inl ⟨by simp[e,A.1],A.2⟩
   ·exact .inr ⟨k,o,F,G,I,by simp[e,A],by rw[Ci w _ (Y9 L)];exact L,X,Y,h5.ext E,h6⟩
 ·intro b M y y' k o o' c l n v u f m
  rw[Ae] at c l
  by_cases e:b=d<;>by_cases q:M=d
  ·rw[e,q]
  ·rw[if_neg q] at l
   simp[e] at f;simp[q] at m
   have:=Px S l v m;omega
  ·rw[if_neg e] at c
   simp[q] at m;simp[e] at f
   have:=Px S c n f;omega
  ·rw[if_neg e] at c;rw[if_neg q] at l
   simp[e] at f;simp[q] at m
   exact S.sep b M y y' k o o' c l n v u f m
 ·rintro k ⟨b,y,o,c,n,u,f⟩ s
  rw[Ae] at c
  by_cases e:b=d
  ·simp[e] at f;omega
  ·rw[if_neg e] at c;simp[e] at f
   exact⟨b,y,o,c,n,u,f⟩
theorem Step.newNone (S:SimH J β h w) {d:Nat} {x:Blk} (D:Ak h d=none) (F:x.cells=[]) (s:x.mp=false:=by rfl) :
  Step J β h w J (fun b=>if b=d then none else β b) (Dk h d x) w:=by
 have ne:∀ {b y},Ak h b=some y→b≠d:=fun c e=>by subst e;rw[D] at c;cases c
 have E:Ext J β h w J (fun b=>if b=d then none else β b) (Dk h d x) w:=by
  refine⟨fun _ _ m=>m,fun o k m=>rfl,fun b y c=>⟨y,⟨by rw[Ae,if_neg (ne c)];exact c,rfl⟩,?_⟩,fun b k o f=>Nat.le_refl _⟩
  cases i:y.dead
  ·exact .inr ⟨rfl,by simp[ne c],rfl,fun _=>rfl⟩
  ·exact .inl rfl
 refine⟨E,⟨S.jlt,S.jft,S.gl.ext E,fun b y c i n=>?_,fun b y c i n=>by
   rw[Ae] at c
   by_cases e:b=d
   ·rw[if_pos e] at c;simp at c;subst c;simp[s] at n
   ·rw[if_neg e] at c
    exact(S.mblk b y c i n).keep (by simp[e]) (fun k o f=>rfl) (fun _ _ _ _ m=>m),?_⟩,rfl,rfl,rfl,Nat.le_refl _,fun k G _=>rfl,?_,fun _ _ m=>.inl m⟩
 ·rw[Ae] at c
  by_cases e:b=d
  ·subst e;simp at c;subst c
   exact .inl ⟨by simp,F⟩
  ·rw[if_neg e] at c
   rcases S.blk b y c i n with q | ⟨k,o,t,u,v,q,I,K,L,M,O⟩
   ·exact .inl ⟨by simp[e,q.1],q.2⟩
   ·exact .inr ⟨k,o,t,u,v,by simp[e,q],I,K,L,M.ext E,O⟩
 ·intro b C y T k o o' c j i z A f l
  rw[Ae] at c j
  by_cases e:b=d
  ·simp[e] at f
  ·by_cases B:C=d
   ·simp[B] at l
   ·rw[if_neg e] at c;rw[if_neg B] at j
    simp[e] at f;simp[B] at l
    exact S.sep b C y T k o o' c j i z A f l
 ·rintro k ⟨b,y,o,c,i,A,f⟩ G
  rw[Ae] at c
  by_cases e:b=d
  ·simp[e] at f
  ·rw[if_neg e] at c;simp[e] at f
   exact⟨b,y,o,c,i,A,f⟩
theorem Step.newObj (S:SimH J β h w) {d:Nat} {x:Blk} {ob:Obj} (M:Ak h d=none) (O:x.dead=false) (z:x.sealed=false) (A:x.pure=true) (B:ObjIs x ob) (C:x.mp=true) :
  Step J β h w J (fun b=>if b=d then some (w.heap.size,0) else β b) (Dk h d x) (w.alloc ob):=by
 have ne:∀ {b y},Ak h b=some y→b≠d:=fun c e=>by subst e;rw[M] at c;cases c
 have E:Ext J β h w J (fun b=>if b=d then some (w.heap.size,0) else β b) (Dk h d x) (w.alloc ob):=by
  refine⟨fun _ _ i=>i,fun o k i=>Ci w _ (S.jlt o k i),fun b y c=>⟨y,⟨by rw[Ae,if_neg (ne c)];exact c,rfl⟩,?_⟩,fun b k o f=>?_⟩
  ·cases m:y.dead
   ·exact .inr ⟨rfl,by simp[ne c],rfl,fun _=>rfl⟩
   ·exact .inl rfl
  ·by_cases q:k<w.heap.size
   ·simp[A1,Ci w _ q]
   ·simp[A1,Array.getElem?_eq_none (Nat.le_of_not_lt q)]
 have s:(w.alloc ob).heap[w.heap.size]?=some ob:=by
  show(w.heap.push _)[_]?=_;simp
 have T:(w.alloc ob).heap.size=w.heap.size+1:=by show(w.heap.push _).size=_;simp
 refine⟨E,⟨fun o k i=>by have:=S.jlt o k i;omega,S.jft,S.gl.ext E,fun b y c m u=>?_,fun b y c m u=>?_,?_⟩,rfl,rfl,rfl,by omega,fun k q _=>Ci w _ q,?_,fun _ _ i=>.inl i⟩
 ·rw[Ae] at c
  by_cases e:b=d
  ·rw[if_pos e] at c;simp at c;subst c;simp[C] at u
  ·rw[if_neg e] at c
   rcases S.blk b y c m u with v | ⟨k,o,D,F,G,v,K,U,V,X,Y⟩
   ·exact .inl ⟨by simp[e,v.1],v.2⟩
   ·exact .inr ⟨k,o,D,F,G,by simp[e,v],by rw[Ci w _ (Y9 K)];exact K,U,V,X.ext E,Y⟩
 ·rw[Ae] at c
  by_cases e:b=d
  ·rw[if_pos e] at c;simp at c;subst c
   exact⟨A,z,w.heap.size,ob,by simp[e],s,B,fun g i=>by have:=S.jlt g _ i;omega⟩
  ·rw[if_neg e] at c
   exact(S.mblk b y c m u).keep (by simp[e]) (fun k o f=>Ci w _ (Px S c m f)) (fun _ _ _ _ i=>i)
 ·intro b L y y' k o o' c j m t I f l
  rw[Ae] at c j
  by_cases e:b=d<;>by_cases n:L=d
  ·rw[e,n]
  ·rw[if_neg n] at j
   simp[e] at f;simp[n] at l
   have:=Px S j t l;omega
  ·rw[if_neg e] at c
   simp[n] at l;simp[e] at f
   have:=Px S c m f;omega
  ·rw[if_neg e] at c;rw[if_neg n] at j
   simp[e] at f;simp[n] at l
   exact S.sep b L y y' k o o' c j m t I f l
 ·rintro k ⟨b,y,o,c,m,I,f⟩ q
  rw[Ae] at c
  by_cases e:b=d
  ·simp[e] at f;omega
  ·rw[if_neg e] at c;simp[e] at f
   exact⟨b,y,o,c,m,I,f⟩
theorem Step.kill (S:SimH J β h w) {d:Nat} {x y:Blk} (G:Ak h d=some x) (j:y.dead=true) (q:y.mp=x.mp:=by rfl):Step J β h w J β (Dk h d y) w:=by
 have E:Ext J β h w J β (Dk h d y) w:=by
  refine⟨fun _ _ l=>l,fun o k l=>rfl,fun b z c=>?_,fun b k o m=>Nat.le_refl _⟩
  by_cases e:b=d
  ·subst e;rw[G] at c;simp at c;subst c;exact⟨y,⟨by rw[Ae,if_pos rfl],q⟩,.inl j⟩
  ·refine⟨z,⟨by rw[Ae,if_neg e];exact c,rfl⟩,?_⟩
   cases i:z.dead
   ·exact .inr ⟨rfl,rfl,rfl,fun _=>rfl⟩
   ·exact .inl rfl
 refine⟨E,⟨S.jlt,S.jft,S.gl.ext E,fun b z c i s=>?_,fun b z c i s=>by
   rw[Ae] at c
   by_cases e:b=d
   ·rw[if_pos e] at c;simp at c;subst c;simp[j] at i
   ·rw[if_neg e] at c
    exact(S.mblk b z c i s).keep rfl (fun k o m=>rfl) (fun _ _ _ _ l=>l),?_⟩,rfl,rfl,rfl,Nat.le_refl _,fun k I _=>rfl,?_,fun _ _ l=>.inl l⟩
 ·rw[Ae] at c
  by_cases e:b=d
  ·rw[if_pos e] at c;simp at c;subst c;simp[j] at i
  ·rw[if_neg e] at c
   rcases S.blk b z c i s with t | ⟨k,o,u,v,A,t,K,L,M,O,T⟩
   ·exact .inl t
   ·exact .inr ⟨k,o,u,v,A,t,K,L,M,O.ext E,T⟩
 ·intro b D z U k o o' c f i n B m C
  rw[Ae] at c f
  by_cases e:b=d
  ·rw[if_pos e] at c;simp at c;subst c;simp[j] at i
  ·by_cases F:D=d
   ·rw[if_pos F] at f;simp at f;subst f;simp[j] at n
   ·rw[if_neg e] at c;rw[if_neg F] at f
    exact S.sep b D z U k o o' c f i n B m C
 ·rintro k ⟨b,z,o,c,i,B,m⟩ I
  rw[Ae] at c
  by_cases e:b=d
  ·rw[if_pos e] at c;simp at c;subst c;simp[j] at i
  ·rw[if_neg e] at c
   exact⟨b,z,o,c,i,B,m⟩
theorem Step.giveUp (S:SimH J β h w) {d k o:Nat} {x y:Blk} (A:Ak h d=some x) (B:x.dead=false) (D:x.sealed=false) (C:β d=some (k,o)) (F:x.mp=false) (M:y.dead=true)
  (other:∀ j,j≠k→w'.heap[j]?=w.heap[j]?) (size:w'.heap.size=w.heap.size) (os:w'.os=w.os) (tape:w'.tape=w.tape) (output:w'.output=w.output) (G:A1 w k≤A1 w' k) (I:y.mp=x.mp:=by rfl) :
  Step J β h w J β (Dk h d y) w':=by
 have nj:∀ g j,J g j→j≠k:=fun g j l e=>by
  subst e
  rcases S.blk d x A B F with⟨m,_⟩ | ⟨X,o',cs0,ty0,fr0,n,O,s,Y,h5,T,h7⟩
  ·rw[C] at m;simp at m
  ·rw[C] at n;simp at n;obtain⟨rfl,rfl⟩:=n
   exact T D g l
 have E:Ext J β h w J β (Dk h d y) w':=by
  refine⟨fun _ _ l=>l,fun o j l=>other j (nj o j l),fun b z c=>?_,fun b j oo c=>?_⟩
  ·by_cases e:b=d
   ·subst e;rw[A] at c;simp at c;subst c;exact⟨y,⟨by rw[Ae,if_pos rfl],I⟩,.inl M⟩
   ·refine⟨z,⟨by rw[Ae,if_neg e];exact c,rfl⟩,?_⟩
    cases B:z.dead
    ·exact .inr ⟨rfl,rfl,rfl,fun _=>rfl⟩
    ·exact .inl rfl
  ·by_cases e:j=k
   ·subst e;exact G
   ·simp[A1,other j e]
 have live:∀ {b z},Ak (Dk h d y) b=some z→z.dead=false→b≠d∧Ak h b=some z:=fun {b z} c f=>by
  rw[Ae] at c
  by_cases e:b=d
  ·rw[if_pos e] at c;simp at c;subst c;simp[M] at f
  ·rw[if_neg e] at c;exact⟨e,c⟩
 have apart:∀ {b z j oo},b≠d→Ak h b=some z→z.dead=false→β b=some (j,oo)→j≠k:=fun {b z j oo} e c f i ej=>by
  subst ej;exact e (S.sep d b x z j o oo A c B f D C i).symm
 refine⟨E,⟨fun g j l=>by rw[size];exact S.jlt g j l,S.jft,S.gl.ext E,fun b z c f t=>?_,fun b z c f t=>by
   obtain⟨e,c⟩:=live c f
   exact(S.mblk b z c f t).keep rfl (fun j oo i=>other j (apart e c f i)) (fun _ _ _ _ l=>l),fun b U z V j oo K c L f u q i v=>?_⟩,os,tape,output,by rw[size];exact Nat.le_refl _,fun j l t=>other j (fun e=>by subst e;exact t ⟨d,x,o,A,B,D,C⟩),?_,fun _ _ l=>.inl l⟩
 ·obtain⟨e,c⟩:=live c f
  rcases S.blk b z c f t with m | ⟨j,oo,cs,ty,fr,m,O,s⟩
  ·exact .inl m
  ·exact .inr ⟨j,oo,cs,ty,fr,m,by rw[other j (apart e c f m)];exact O,s.1,s.2.1,s.2.2.1.ext E,s.2.2.2⟩
 ·exact S.sep b U z V j oo K (live c f).2 (live L u).2 f u q i v
 ·rintro j ⟨b,z,oo,c,f,q,i⟩ _
  exact⟨b,z,oo,(live c f).2,f,q,i⟩
end
end Gx

namespace Gx
open Go
section
variable {J J' J'':Bool→Nat→Prop} {β β' β'':Bl} {h h' h'':Ah} {w w' w'':World}
theorem Step.shutB (S:SimH J β h w) {d:Nat} {x:Blk} (v:Ak h d=some x) (q:x.dead=false) (A:x.mp=false) :
  Step J β h w (fun o k=>J o k∨∃ o',β d=some (k,o')∧(x.taint=true→o=true)) β (Dk h d { x with sealed:=true }) w:=by
 have E:Ext J β h w (fun o k=>J o k∨∃ o',β d=some (k,o')∧(x.taint=true→o=true)) β (Dk h d { x with sealed:=true }) w:=by
  refine⟨fun _ _ j=>.inl j,fun o k j=>rfl,fun b z f=>?_,fun b k o i=>Nat.le_refl _⟩
  by_cases e:b=d
  ·subst e;rw[v] at f;simp at f;subst f
   exact⟨{ x with sealed:=true },⟨by rw[Ae,if_pos rfl],rfl⟩,.inr ⟨q,rfl,rfl,fun _=>rfl⟩⟩
  ·refine⟨z,⟨by rw[Ae,if_neg e];exact f,rfl⟩,?_⟩
   cases q:z.dead
   ·exact .inr ⟨rfl,rfl,rfl,fun _=>rfl⟩
   ·exact .inl rfl
 refine⟨E,⟨?_,?_,S.gl.ext E,fun b z f n F=>?_,fun b z f n F=>by
   rw[Ae] at f
   by_cases e:b=d
   ·rw[if_pos e] at f;simp at f;subst f;simp[A] at F
   ·rw[if_neg e] at f
    have M:=S.mblk b z f n F
    refine M.keep rfl (fun k o i=>rfl) (fun g k o i j=>?_)
    rcases j with j | ⟨o',B,_⟩
    ·exact j
    ·exact absurd (S.sep b d z x k o o' f v n q M.2.1 i B) e,?_⟩,rfl,rfl,rfl,Nat.le_refl _,fun k hk _=>rfl,?_,?_⟩
 ·rintro o k (j | ⟨o',i,_⟩)
  ·exact S.jlt o k j
  ·exact Px S v q i
 ·rintro k (j | ⟨o',i,ht⟩)
  ·exact .inl (S.jft k j)
  ·exact .inr ⟨o',i,fun _=>rfl⟩
 ·rw[Ae] at f
  by_cases e:b=d
  ·rw[if_pos e] at f;simp at f;subst f;subst e
   rcases S.blk b x v q A with l | ⟨k,o,s,t,u,l,G,I,K,L,T,O⟩
   ·exact .inl l
   ·exact .inr ⟨k,o,s,t,u,l,G,I,K,L.ext E,fun m=>by simp at m,fun _=>.inr ⟨o,l,id⟩⟩
  ·rw[if_neg e] at f
   rcases S.blk b z f n F with l | ⟨k,o,s,t,u,l,G,I,K,L,T,O⟩
   ·exact .inl l
   ·refine .inr ⟨k,o,s,t,u,l,G,I,K,L.ext E,fun m g j=>?_,fun m=>.inl (O m)⟩
    rcases j with j | ⟨o',i,_⟩
    ·exact T m g j
    ·exact e (S.sep b d z x k o o' f v n q m l i)
 ·intro b b' z z' k o o' f U V X m i B
  have get:∀ {c y},Ak (Dk h d { x with sealed:=true }) c=some y→y.dead=false→∃ Y,Ak h c=some Y∧Y.dead=false∧(y.sealed=false→Y.sealed=false):=by
   intro c y D hyd
   rw[Ae] at D
   by_cases e:c=d
   ·subst e;exact⟨x,v,q,fun m=>by simp at D;subst D;simp at m⟩
   ·rw[if_neg e] at D;exact⟨y,D,hyd,id⟩
  obtain⟨y1,g1,g2,g3⟩:=get f V
  obtain⟨y2,g4,g5,g6⟩:=get U X
  exact S.sep b b' y1 y2 k o o' g1 g4 g2 g5 (g3 m) i B
 ·rintro k ⟨b,z,o,f,n,m,i⟩ hk
  rw[Ae] at f
  by_cases e:b=d
  ·rw[if_pos e] at f;simp at f;subst f;simp at m
  ·rw[if_neg e] at f
   exact⟨b,z,o,f,n,m,i⟩
 ·rintro o k (j | ⟨o',i,ht⟩)
  ·exact .inl j
  ·cases m:x.sealed with
   | false=>exact .inr (.inl ⟨d,x,o',v,q,m,i⟩)
   | true =>
    left
    rcases S.blk d x v q A with⟨l,_⟩ | ⟨k',o1,s,t,u,l,G,I,K,L,T,O⟩
    ·rw[i] at l;simp at l
    ·rw[i] at l;simp at l;obtain⟨rfl,rfl⟩:=l
     have:=O m
     cases C:x.taint with
     | true=>rw[C] at this;rw[ht C];exact this
     | false =>
      rw[C] at this
      cases o
      ·exact this
      ·exact S.jft _ this
structure OnlyBlk (w w':World) (k:Nat) (cs cs':Array Value) (ty:TypeId) (fr:Nat×Nat):Prop where
 old:w.heap[k]?=some (.cells cs ty fr)
 new:w'.heap[k]?=some (.cells cs' ty fr)
 sz:cs'.size=cs.size
 other:∀ j,j≠k→w'.heap[j]?=w.heap[j]?
 size:w'.heap.size=w.heap.size
 os:w'.os=w.os
 tape:w'.tape=w.tape
 output:w'.output=w.output
theorem OnlyBlk.setCell {k i:Nat} {cs:Array Value} {ty:TypeId} {fr:Nat×Nat} (b:w.heap[k]?=some (.cells cs ty fr)) (u:Value) :
  OnlyBlk w (w.setCell ⟨k,i,none⟩ u) k cs (cs.setIfInBounds i u) ty fr:=by
 refine⟨b,?_,by simp,fun j c=>?_,by simp[World.setCell],rfl,rfl,rfl⟩
 ·simp[World.setCell,Array.getElem?_modify,b]
 ·simp only[World.setCell,Array.getElem?_modify];rw[if_neg (fun e=>c e.symm)]
theorem OnlyBlk.setCells {k:Nat} {ty:TypeId} {fr:Nat×Nat}:∀ (c:List Value) (i:Nat) (w:World) (cs:Array Value),w.heap[k]?=some (.cells cs ty fr) →
  ∃ b,OnlyBlk w (w.setCells k i c) k cs b ty fr∧∀ j,b[j]?=if i≤j∧j<i+c.length∧j<cs.size then c[j - i]? else cs[j]?
 | [],i,w,cs,d=>⟨cs,⟨d,d,rfl,fun _ _=>rfl,rfl,rfl,rfl,rfl⟩,fun j=>by rw[if_neg (by simp;omega)]⟩
 | u::c,i,w,cs,d=>by
  have A:=OnlyBlk.setCell (i:=i) d u
  obtain⟨b,B,hB⟩:=OnlyBlk.setCells c (i+1) (w.setCell ⟨k,i,none⟩ u) _ A.new
  refine⟨b,⟨d,B.new,B.sz.trans A.sz,fun j e=>(B.other j e).trans (A.other j e),B.size.trans A.size,B.os.trans A.os,B.tape.trans A.tape,B.output.trans A.output⟩,fun j=>?_⟩
  rw[hB j]
  simp only[Array.size_setIfInBounds,List.length_cons]
  by_cases e:j=i
  ·subst e
   rw[if_neg (by omega)]
   by_cases f:j<cs.size
   ·rw[if_pos (by omega)];simp[f]
   ·rw[if_neg (by omega)];simp[f]
  ·by_cases l:i+1≤j∧j<i+1+c.length∧j<cs.size
   ·rw[if_pos l,if_pos (by omega),show j - i=(j - (i+1))+1 by omega];simp
   ·rw[if_neg l,if_neg (by omega),Array.getElem?_setIfInBounds_ne (by omega)]
theorem Step.set (S:SimH J β h w) {d k o:Nat} {x x':Blk} {cs q:Array Value} {ty:TypeId} {fr:Nat×Nat} (s:Ak h d=some x) (m:x.dead=false) (t:x.sealed=false) (B:β d=some (k,o))
  (O:OnlyBlk w w' k cs q ty fr) (hd':x'.dead=false) (M:x'.sealed=false) (hz:x'.sz=x.sz) (hl:x'.cells.length=x.cells.length) (F:CellsRep J β h w x' (fun j=>q[o+j]?)) (G:x.mp=false) (n:x'.mp=x.mp:=by rfl) (hty:x'.ty=x.ty:=by rfl) :
  Step J β h w J β (Dk h d x') w':=by
 obtain⟨I,o',cs0,ty0,fr0,u,T,h3,h4,h5,h6,h7⟩:∃ I o' cs0 ty0 fr0,β d=some (I,o')∧w.heap[I]?=some (.cells cs0 ty0 fr0) ∧
   FrTy x.ty ty0 o' cs0.size fr0∧o'+x.cells.length≤cs0.size∧CellsRep J β h w x (fun j=>cs0[o'+j]?)∧(x.sealed=false→∀ g,¬ J g I)∧(x.sealed=true→J x.taint I):=by
  rcases S.blk d x s m G with⟨L,_⟩ | L
  ·rw[B] at L;simp at L
  ·exact L
 rw[B] at u;simp at u;obtain⟨rfl,rfl⟩:=u
 rw[O.old] at T;simp at T;obtain⟨rfl,rfl,rfl⟩:=T
 have nj:∀ g j,J g j→j≠k:=fun g j l e=>by subst e;exact h6 t g l
 have E:Ext J β h w J β (Dk h d x') w':=by
  refine⟨fun _ _ l=>l,fun o j l=>O.other j (nj o j l),fun b z f=>?_,fun b j oo f=>?_⟩
  ·by_cases e:b=d
   ·subst e;rw[s] at f;simp at f;subst f
    exact⟨_,⟨by rw[Ae,if_pos rfl],n⟩,.inr ⟨m,rfl,hz,fun _=>hl⟩⟩
   ·refine⟨z,⟨by rw[Ae,if_neg e];exact f,rfl⟩,?_⟩
    cases m:z.dead
    ·exact .inr ⟨rfl,rfl,rfl,fun _=>rfl⟩
    ·exact .inl rfl
  ·by_cases e:j=k
   ·subst e;rw[De O.old,De O.new,O.sz];exact Nat.le_refl _
   ·simp[A1,O.other j e]
 refine⟨E,⟨fun g j l=>by rw[O.size];exact S.jlt g j l,S.jft,S.gl.ext E,fun b z f i C=>?_,fun b z f i C=>by
   rw[Ae] at f
   by_cases e:b=d
   ·rw[if_pos e] at f;simp at f;subst f;simp[n,G] at C
   ·rw[if_neg e] at f
    exact(S.mblk b z f i C).keep rfl (fun v o2 A=>O.other v (fun U=>by subst U;exact e (S.sep d b x z v o o2 s f m i t B A).symm)) (fun _ _ _ _ l=>l),?_⟩,O.os,O.tape,O.output,by rw[O.size];exact Nat.le_refl _,fun j l C=>?_,?_,fun _ _ l=>.inl l⟩
 ·rw[Ae] at f
  by_cases e:b=d
  ·rw[if_pos e] at f;simp at f;subst f;subst e
   refine .inr ⟨k,o,q,ty,fr,B,O.new,?_,by rw[hl,O.sz];exact h4,F.ext E,fun _=>h6 t,fun hh=>by simp[M] at hh⟩
   rw[O.sz,hty];exact h3
  ·rw[if_neg e] at f
   rcases S.blk b z f i C with D | ⟨v,o2,cs2,ty2,fr2,D,V,X,Y,g5,g6,g7⟩
   ·exact .inl D
   ·have hne:v≠k:=fun U=>by
     subst U;exact e (S.sep d b x z v o o2 s f m i t B D).symm
    exact .inr ⟨v,o2,cs2,ty2,fr2,D,by rw[O.other v hne];exact V,X,Y,g5.ext E,g6,g7⟩
 ·intro b b' z z' kk oo oo' f hb' hd1 hd2 hs1 hβ1 A
  have get:∀ {c y},Ak (Dk h d x') c=some y→y.dead=false→∃ y',Ak h c=some y'∧y'.dead=false∧(y.sealed=false→y'.sealed=false):=by
   intro c y F hyd
   rw[Ae] at F
   by_cases e:c=d
   ·subst e;exact⟨x,s,m,fun _=>t⟩
   ·rw[if_neg e] at F;exact⟨y,F,hyd,id⟩
  obtain⟨y1,D,V,X⟩:=get f hd1
  obtain⟨y2,Y,g5,g6⟩:=get hb' hd2
  exact S.sep b b' y1 y2 kk oo oo' D Y V g5 (X hs1) hβ1 A
 ·exact O.other j (fun e=>C (by subst e;exact⟨d,x,o,s,m,t,B⟩))
 ·rintro j ⟨b,z,oo,f,i,hsz,K⟩ l
  rw[Ae] at f
  by_cases e:b=d
  ·subst e;exact⟨b,x,oo,s,m,t,K⟩
  ·rw[if_neg e] at f
   exact⟨b,z,oo,f,i,hsz,K⟩
theorem Step.setObj (S:SimH J β h w) {d k:Nat} {x x':Blk} {ob v:Obj} (C:Ak h d=some x) (A:x.dead=false) (I:x.mp=true) (D:β d=some (k,0))
  (old:w.heap[k]?=some ob) (new:w'.heap[k]?=some v) (other:∀ j,j≠k→w'.heap[j]?=w.heap[j]?) (size:w'.heap.size=w.heap.size) (os:w'.os=w.os) (tape:w'.tape=w.tape) (output:w'.output=w.output)
  (K:ObjIs x' v) (hx'd:x'.dead=false) (L:x'.sealed=false) (O:x'.pure=true) (T:x'.sz=x.sz) (u:x'.mp=true):Step J β h w J β (Dk h d x') w':=by
 have M:=S.mblk d x C A I
 have nJ:∀ g,¬ J g k:=by
  obtain⟨_,_,k',_,n,_,_,q⟩:=M
  rw[D] at n;simp at n;subst n;exact q
 have nj:∀ g j,J g j→j≠k:=fun g j i e=>by subst e;exact nJ g i
 have E:Ext J β h w J β (Dk h d x') w':=by
  refine⟨fun _ _ i=>i,fun o j i=>other j (nj o j i),fun b z f=>?_,fun b j oo f=>?_⟩
  ·by_cases e:b=d
   ·subst e;rw[C] at f;simp at f;subst f
    exact⟨_,⟨by rw[Ae,if_pos rfl],by rw[u,I]⟩,.inr ⟨A,rfl,T,fun h=>by simp[I] at h⟩⟩
   ·refine⟨z,⟨by rw[Ae,if_neg e];exact f,rfl⟩,?_⟩
    cases A:z.dead
    ·exact .inr ⟨rfl,rfl,rfl,fun _=>rfl⟩
    ·exact .inl rfl
  ·by_cases e:j=k
   ·subst e
    have r0:∀ cs ty fr,ob≠.cells cs ty fr:=by
     obtain⟨_,_,k',ob0,n,q,X,_⟩:=M
     rw[D] at n;simp at n;subst n
     rw[old] at q;simp at q;subst q
     exact fun _ _ _=>X.row
    have z0:A1 w j=0:=by
     unfold A1;rw[old]
     split
     ·rename_i e;simp at e;exact absurd e (r0 _ _ _)
     ·rfl
    rw[z0];exact Nat.zero_le _
   ·simp[A1,other j e]
 refine⟨E,⟨fun g j i=>by rw[size];exact S.jlt g j i,S.jft,S.gl.ext E,fun b z f l t=>?_,fun b z f l t=>?_,?_⟩,os,tape,output,by rw[size];exact Nat.le_refl _,fun j i I=>?_,?_,fun _ _ i=>.inl i⟩
 ·rw[Ae] at f
  by_cases e:b=d
  ·rw[if_pos e] at f;simp at f;subst f;simp[u] at t
  ·rw[if_neg e] at f
   rcases S.blk b z f l t with U | ⟨F,o2,cs2,ty2,fr2,U,G,Y,g4,g5,g6,g7⟩
   ·exact .inl U
   ·have hne:F≠k:=fun e2=>by
     subst e2;rw[old] at G;simp at G
     obtain⟨_,_,k',ob0,n,q,X,_⟩:=M
     rw[D] at n;simp at n;subst n
     rw[old] at q;simp at q;subst q
     exact absurd G X.row
    exact .inr ⟨F,o2,cs2,ty2,fr2,U,by rw[other F hne];exact G,Y,g4,g5.ext E,g6,g7⟩
 ·rw[Ae] at f
  by_cases e:b=d
  ·rw[if_pos e] at f;simp at f;subst f;subst e
   exact⟨O,L,k,v,D,new,K,nJ⟩
  ·rw[if_neg e] at f
   exact(S.mblk b z f l t).keep rfl (fun F o2 B=>other F (fun e2=>by subst e2;exact e (S.sep d b x z F 0 o2 C f A l M.2.1 D B).symm)) (fun _ _ _ _ i=>i)
 ·intro b b' z z' kk oo oo' f hb' hd1 hd2 hs1 hβ1 B
  have get:∀ {c y},Ak (Dk h d x') c=some y→y.dead=false→∃ y',Ak h c=some y'∧y'.dead=false∧(y.sealed=false→y'.sealed=false):=by
   intro c y K hyd
   rw[Ae] at K
   by_cases e:c=d
   ·subst e;exact⟨x,C,A,fun _=>M.2.1⟩
   ·rw[if_neg e] at K;exact⟨y,K,hyd,id⟩
  obtain⟨y1,U,G,Y⟩:=get f hd1
  obtain⟨y2,g4,g5,g6⟩:=get hb' hd2
  exact S.sep b b' y1 y2 kk oo oo' U g4 G g5 (Y hs1) hβ1 B
 ·exact other j (fun e=>I (by subst e;exact⟨d,x,0,C,A,M.2.1,D⟩))
 ·rintro j ⟨b,z,oo,f,l,hsz,V⟩ i
  rw[Ae] at f
  by_cases e:b=d
  ·subst e;exact⟨b,x,oo,C,A,M.2.1,V⟩
  ·rw[if_neg e] at f
   exact⟨b,z,oo,f,l,hsz,V⟩
theorem Step.mark (S:SimH J β h w) {d k o:Nat} {x:Blk} {cs:Array Value} {ty:TypeId} {fr m:Nat×Nat} (t:Ak h d=some x) (u:x.dead=false) (B:x.sealed=false) (v:β d=some (k,o))
  (old:w.heap[k]?=some (.cells cs ty fr)) (new:w'.heap[k]?=some (.cells cs ty m)) (M:FrOk cs.size m) (other:∀ j,j≠k→w'.heap[j]?=w.heap[j]?) (size:w'.heap.size=w.heap.size) (os:w'.os=w.os) (tape:w'.tape=w.tape) (output:w'.output=w.output) (s:x.mp=false) :
  Step J β h w J β h w':=by
 have nj:∀ g j,J g j→j≠k:=fun g j c e=>by
  subst e
  rcases S.blk d x t u s with⟨D,_⟩ | ⟨U,o',cs0,ty0,fr0,n,V,X,Y,h5,O,h7⟩
  ·rw[v] at D;simp at D
  ·rw[v] at n;simp at n;obtain⟨rfl,rfl⟩:=n
   exact O B g c
 have E:Ext J β h w J β h w':=by
  refine⟨fun _ _ c=>c,fun o j c=>other j (nj o j c),fun b z f=>⟨z,⟨f,rfl⟩,?_⟩,fun b j oo f=>?_⟩
  ·cases u:z.dead
   ·exact .inr ⟨rfl,rfl,rfl,fun _=>rfl⟩
   ·exact .inl rfl
  ·by_cases e:j=k
   ·subst e;rw[De old,De new];exact Nat.le_refl _
   ·simp[A1,other j e]
 refine⟨E,⟨fun g j c=>by rw[size];exact S.jlt g j c,S.jft,S.gl.ext E,fun b z f i l=>?_,fun b z f i l=>by
   refine(S.mblk b z f i l).keep rfl (fun q o2 C=>other q (fun T=>?_)) (fun _ _ _ _ c=>c)
   subst T
   have:=(S.sep d b x z q o o2 t f u i B v C)
   subst this
   rw[t] at f;simp at f;subst f;simp[s] at l,S.sep⟩,os,tape,output,by rw[size];exact Nat.le_refl _,fun j c l=>?_,fun _ l _=>l,fun _ _ c=>.inl c⟩
 ·rcases S.blk b z f i l with y | ⟨q,o2,cs2,ty2,fr2,y,A,F,G,I,K,L⟩
  ·exact .inl y
  ·by_cases e:q=k
   ·subst e
    rw[old] at A;simp at A;obtain⟨rfl,rfl,rfl⟩:=A
    exact .inr ⟨q,o2,cs,ty,m,y,new,⟨M,F.2⟩,G,I.ext E,K,L⟩
   ·exact .inr ⟨q,o2,cs2,ty2,fr2,y,by rw[other q e];exact A,F,G,I.ext E,K,L⟩
 ·exact other j (fun e=>l (by subst e;exact⟨d,x,o,t,u,B,v⟩))
theorem Step.move (S:SimH J β h w) {d d' k o o':Nat} {x x' y:Blk} {cs C:Array Value} {ty:TypeId} {fr:Nat×Nat} (n:Ak h d=some x) (u:x.dead=false) (v:x.sealed=false) (A:β d=some (k,o))
  (hn:Ak h d'=none) (hy:y.dead=true)
  (O:OnlyBlk w w' k cs C ty fr) (hd':x'.dead=false) (hs':x'.sealed=false) (hl:o'+x'.cells.length≤cs.size) (hc:CellsRep J β h w x' (fun j=>C[o'+j]?)) (hxm:x.mp=false) (hym:y.mp=x.mp:=by rfl) (L:x'.mp=false:=by rfl) (hty:TyOk x'.ty ty o' cs.size:=by exact TyOk.none) :
  Step J β h w J (fun b=>if b=d' then some (k,o') else β b) (Dk (Dk h d y) d' x') w':=by
 obtain⟨M,o1,cs0,ty0,fr0,D,h2,h3,h4,h5,h6,h7⟩:∃ M o' cs0 ty0 fr0,β d=some (M,o')∧w.heap[M]?=some (.cells cs0 ty0 fr0) ∧
   FrTy x.ty ty0 o' cs0.size fr0∧o'+x.cells.length≤cs0.size∧CellsRep J β h w x (fun j=>cs0[o'+j]?)∧(x.sealed=false→∀ g,¬ J g M)∧(x.sealed=true→J x.taint M):=by
  rcases S.blk d x n u hxm with⟨Y,_⟩ | Y
  ·rw[A] at Y;simp at Y
  ·exact Y
 rw[A] at D;simp at D;obtain⟨rfl,rfl⟩:=D
 rw[O.old] at h2;simp at h2;obtain⟨rfl,rfl,rfl⟩:=h2
 have nj:∀ g j,J g j→j≠k:=fun g j l e=>by subst e;exact h6 v g l
 have ndd:d≠d':=fun e=>by subst e;rw[hn] at n;cases n
 have ne:∀ {b z},Ak h b=some z→b≠d':=fun c e=>by subst e;rw[hn] at c;cases c
 have get:∀ b,Ak (Dk (Dk h d y) d' x') b=if b=d' then some x' else if b=d then some y else Ak h b:=fun b=>by rw[Ae,Ae]
 have E:Ext J β h w J (fun b=>if b=d' then some (k,o') else β b) (Dk (Dk h d y) d' x') w':=by
  refine⟨fun _ _ l=>l,fun o j l=>O.other j (nj o j l),fun b z c=>?_,fun b j oo c=>?_⟩
  ·by_cases e:b=d
   ·have hb0:=c;subst e;rw[n] at c;simp at c;subst c;exact⟨y,⟨by rw[get,if_neg (ne hb0),if_pos rfl],hym⟩,.inl hy⟩
   ·refine⟨z,⟨by rw[get,if_neg (ne c),if_neg e];exact c,rfl⟩,?_⟩
    cases u:z.dead
    ·exact .inr ⟨rfl,by simp[ne c],rfl,fun _=>rfl⟩
    ·exact .inl rfl
  ·by_cases e:j=k
   ·subst e;rw[De O.old,De O.new,O.sz];exact Nat.le_refl _
   ·simp[A1,O.other j e]
 have live:∀ {b z},Ak (Dk (Dk h d y) d' x') b=some z→z.dead=false→(b=d'∧z=x')∨(b≠d'∧b≠d∧Ak h b=some z):=by
  intro b z c hz
  rw[get] at c
  by_cases e:b=d'
  ·rw[if_pos e] at c;simp at c;exact .inl ⟨e,c.symm⟩
  ·rw[if_neg e] at c
   by_cases q:b=d
   ·rw[if_pos q] at c;simp at c;subst c;simp[hy] at hz
   ·rw[if_neg q] at c;exact .inr ⟨e,q,c⟩
 refine⟨E,⟨fun g j l=>by rw[O.size];exact S.jlt g j l,S.jft,S.gl.ext E,fun b z c f K=>?_,fun b z c f K=>by
   rcases live c f with⟨rfl,rfl⟩ | ⟨s,q,c⟩
   ·simp[L] at K
   ·exact(S.mblk b z c f K).keep (by simp[s]) (fun F o2 i=>O.other F (fun e=>by subst e;exact q (S.sep d b x z F o o2 n c u f v A i).symm)) (fun _ _ _ _ l=>l),?_⟩,O.os,O.tape,O.output,by rw[O.size];exact Nat.le_refl _,fun j l K=>?_,?_,fun _ _ l=>.inl l⟩
 ·rcases live c f with⟨rfl,rfl⟩ | ⟨s,q,c⟩
  ·refine .inr ⟨k,o',C,ty,fr,by simp,O.new,?_,by rw[O.sz];exact hl,hc.ext E,fun _=>h6 v,fun hh=>by simp[hs'] at hh⟩
   rw[O.sz];exact⟨h3.1,hty⟩
  ·rcases S.blk b z c f K with T | ⟨F,o2,cs2,ty2,fr2,T,g2,g3,g4,g5,g6,g7⟩
   ·exact .inl ⟨by simp[s,T.1],T.2⟩
   ·have hne:F≠k:=fun e=>by
     subst e;exact q (S.sep d b x z F o o2 n c u f v A T).symm
    exact .inr ⟨F,o2,cs2,ty2,fr2,by simp[s,T],by rw[O.other F hne];exact g2,g3,g4,g5.ext E,g6,g7⟩
 ·intro b b' z z' kk oo U c hb' G I hs1 m i
  rcases live c G with⟨e0,_⟩ | ⟨s,q,V⟩<;>rcases live hb' I with⟨X,_⟩ | ⟨e3,e4,B⟩
  ·rw[e0,X]
  ·simp[e0] at m;simp[e3] at i
   obtain⟨rfl,rfl⟩:=m
   exact absurd (S.sep d b' x z' k o U n B u I v A i).symm e4
  ·simp[X] at i;simp[s] at m
   obtain⟨rfl,rfl⟩:=i
   exact absurd (S.sep d b x z k o oo n V u G v A m).symm q
  ·simp[s] at m;simp[e3] at i
   exact S.sep b b' z z' kk oo U V B G I hs1 m i
 ·exact O.other j (fun e=>K (by subst e;exact⟨d,x,o,n,u,v,A⟩))
 ·rintro j ⟨b,z,oo,c,f,hsz,t⟩ l
  rcases live c f with⟨rfl,rfl⟩ | ⟨s,q,c⟩
  ·simp at t;obtain⟨rfl,rfl⟩:=t
   exact⟨d,x,o,n,u,v,A⟩
  ·simp[s] at t;exact⟨b,z,oo,c,f,hsz,t⟩
end
end Gx

namespace Gx
open Go
theorem Bq:∀ (a b:C9) (h:Ah),Ai (a++b) h=Ai b (Ai a h)
 | [],_,_=>rfl
 | (_,some _)::r,b,h=>by simp only[List.cons_append,Ai];exact Bq r b _
 | (_,none)::r,b,h=>by simp only[List.cons_append,Ai];exact Bq r b _
def LooksS (g:A0) (h:Ah):Prop:=∀ b x,g b=some x→∃ y,Ak h b=some y∧{ y with sealed:=true }={ x with sealed:=true }
theorem Looks.s {g:A0} {h:Ah} (c:Looks g h):LooksS g h:=fun b x d=>⟨x,c b x d,rfl⟩
section
variable {R:Type} {r:R} {P:Program} {J J':Bool→Nat→Prop} {β:Bl} {h:Ah} {w:World} {g:A0}
theorem LooksS.shutB (f:LooksS g h) {b:Nat} {x:Blk} (i:g b=some x):LooksS g (Dk h b { x with sealed:=true }):=by
 intro c y d
 rw[Ae]
 by_cases e:c=b
 ·subst e;rw[i] at d;simp at d;subst d
  exact⟨{ x with sealed:=true },by simp,rfl⟩
 ·rw[if_neg e];exact f c y d
theorem zD (S:SimH J β h w) {b off n:Nat} {y:Blk} {v:Value} (B:Ak h b=some y) (C:y.dead=false) (F:y.pure=true) (c:Rep J β h w (.own b off n) v)
  (hJ:∀ k o,β b=some (k,o)→J' y.taint k) (i:∀ o k,J o k→J' o k) (t o:Bool):RepC (J' y.taint) w (.imm ((y.cells.drop off).take (n*y.sz)) n y.sz t o) v↔(t=true→∃ A cap,v=.slice A n cap∧cap=n):=by
 rw[Rep] at c
 obtain⟨x,A,cap,⟨e,m⟩,rfl,d,c⟩:=c
 rw[B] at e;simp at e;subst e
 rw[RepC]
 constructor
 ·rintro⟨_,A',cap',q,_,s,_⟩ u
  exact⟨A',cap',q,s u⟩
 ·intro s
  have l:t=true→cap=n:=fun u=>by
   obtain⟨A',cap',q,L⟩:=s u
   simp at q;omega
  rcases c with c | ⟨kk,oo,rfl,c⟩
  ·have:n=0:=by omega
   subst this
   exact⟨by simp,A,cap,rfl,d,l,.inl rfl⟩
  ·rcases c with c | ⟨z,M,O⟩
   ·simp[C] at c
   ·rcases S.blk b y B C m with⟨D,_⟩ | ⟨T,o',cs,ty,fr,f,G,U,V,I,X,Y⟩
    ·rw[z] at D;simp at D
    ·rw[z] at f;simp at f;obtain⟨rfl,rfl⟩:=f
     refine⟨by simp;omega,_,cap,rfl,d,l,.inr ⟨_,rfl,hJ _ _ z,?_⟩⟩
     have:=((I.1 F).drop off).take (n*y.sz)
     refine RepCs.keep (fun k K=>i _ k K) (fun _ _=>rfl) (fun j=>?_) this
     rw[Addr.add_mid,Mf G,Nat.add_assoc]
theorem Adb {b off n:Nat} {y:Blk} {v:Value} (f:Ak h b=some y) (e:Rep J β h w (.own b off n) v):y.mp=false:=by
 rw[Rep] at e
 obtain⟨x,A,cap,⟨c,d⟩,_⟩:=e
 rw[f] at c;simp at c;subst c;exact d
theorem Ae8 {b off:Nat} {y:Blk} {v:Value} (f:Ak h b=some y) (e:Rep J β h w (.optr b off) v):y.mp=false:=by
 rw[Rep] at e
 obtain⟨x,k,o,⟨c,d⟩,_⟩:=e
 rw[f] at c;simp at c;subst c;exact d
theorem EP {v v':AV} {ups:C9} {org:Bool} {vc:Value} (S:SimH J β h w) (l:LooksS g h) (e:K' g v=some (v',ups,org)) (f:Rep J β h w v vc) :
    ∃ J',Step J β h w J' β (Ai ups h) w∧RepC (J' org) w v' vc∧LooksS g (Ai ups h):=by
  unfold K' at e
  split at e
  · rename_i b off n
    obtain⟨x,d,z⟩:=ub e
    obtain⟨B,q⟩:=uc z
    simp at q
    obtain⟨rfl,rfl,rfl⟩:=q
    unfold D3 at d
    obtain⟨x0,i,d⟩:=ub d
    obtain⟨s,d⟩:=wn d
    simp at d;subst d
    obtain⟨y,m,c⟩:=l b _ i
    have C:y.cells=x0.cells:=by have:=congrArg Blk.cells c;simpa using this
    have D:y.sz=x0.sz:=by have:=congrArg Blk.sz c;simpa using this
    have t:y.taint=x0.taint:=by have:=congrArg Blk.taint c;simpa using this
    have u:y.dead=x0.dead:=by have:=congrArg Blk.dead c;simpa using this
    have F:y.pure=x0.pure:=by have:=congrArg Blk.pure c;simpa using this
    have A:=Step.shutB S m (by rw[u];exact s) (Adb m f)
    refine⟨_,by simp only[Ai];rw[←c];exact A,?_,by simp only[Ai];exact l.shutB i⟩
    have:=(zD (J':=fun o k=>J o k∨∃ o',β b=some (k,o')∧(y.taint=true→o=true)) S m (by rw[u];exact s) (by rw[F];exact B) f (fun k o G=>.inr ⟨o,G,id⟩) (fun o k I=>.inl I) false x0.taint).2 (by simp)
    rw[C,D,t] at this
    rw[t]
    exact this
  all_goals first
    | (simp at e;done)
    | (simp at e; obtain ⟨rfl, rfl, rfl⟩ := e
       refine⟨J,Step.refl S,?_,l⟩
       first
         | (rw[Rep] at f;exact f)
         | skip)
  · cases v
    case imm=>rename_i j _ _;exact absurd rfl (j _ _ _ _ _)
    case iptr=>rename_i j _;exact absurd rfl (j _ _)
    case pagg=>rename_i j;exact absurd rfl (j _ _)
    all_goals first | (rw[Rep] at f;rw[RepC];exact f) | simp_all
theorem Mg:∀ {c c':LA} {ups:C9} {org:Bool} {cs:List Value} {J:Bool→Nat→Prop} {h:Ah},SimH J β h w→LooksS g h→Rv g c=some (c',ups,org)→Reps J β h w c cs →
  ∃ J',Step J β h w J' β (Ai ups h) w∧RepCs (J' org) w c' (fun j=>cs[j]?) 0∧c'.length=cs.length∧LooksS g (Ai ups h)
 | [],c',ups,org,cs,J,h,S,l,e,f=>by
  simp[Rv] at e;obtain⟨rfl,rfl,rfl⟩:=e
  rw[Reps] at f;subst f
  exact⟨J,Step.refl S,by simp[RepCs],rfl,l⟩
 | v::r,c',ups,org,cs,J,h,S,l,e,f=>by
  rw[Rv] at e
  obtain⟨⟨v1,u1,o1⟩,z,C⟩:=ub e
  obtain⟨⟨G,u2,o2⟩,hq,t⟩:=ub C
  simp at t
  obtain⟨rfl,rfl,rfl⟩:=t
  rw[Reps] at f
  obtain⟨u,D,rfl,m,n⟩:=f
  obtain⟨J1,A,hA,q⟩:=EP S l z m
  obtain⟨J2,B,hB,i,s⟩:=Mg A.sim q hq (Reps.ext A.ext n)
  refine⟨J2,by rw[Bq];exact A.trans B (fun _ _ _ _=>Nat.le_refl _),?_,by simp[i],by rw[Bq];exact s⟩
  have mono:∀ {a b:Bool} (k:Nat),J2 a k→J2 (a||b) k:=fun {a b} k d=>by
   cases a
   ·cases b
    ·exact d
    ·exact B.sim.jft k d
   ·exact d
  have mono':∀ {a b:Bool} (k:Nat),J2 b k→J2 (a||b) k:=fun {a b} k d=>by rw[Bool.or_comm];exact mono k d
  rw[RepCs]
  refine⟨⟨u,by simp,?_⟩,?_⟩
  ·exact RepC.keep (J:=J1 o1) (fun k d=>mono k (B.ext.jsub _ k d)) (fun _ _=>rfl) hA
  ·have:=RepCs.keep (J':=J2 (o1||o2)) (w':=w) (fun k d=>mono' k d) (fun _ _=>rfl) (rd':=fun j=>D[j]?) (fun _=>rfl) hB
   rw[Bi] at this ⊢
   intro j x F
   have y:=this j x F
   simp only[Nat.zero_add] at y
   rw[show 1+j=j+1 by omega]
   simpa using y
theorem BH {v:AV} {c':LA} {ups:C9} {org:Bool} {vc:Value} (S:SimH J β h w) (i:LooksS g h) (d:Rd g v=some (c',ups,org)) (e:Rep J β h w v vc) :
  ∃ J',Step J β h w J' β (Ai ups h) w∧RepCs (J' org) w c' (fun j=>vc.cells.toList[j]?) 0∧c'.length=vc.cells.toList.length∧LooksS g (Ai ups h):=by
 unfold Rd at d
 split at d
 ·rename_i c org'
  simp at d;obtain⟨rfl,rfl,rfl⟩:=d
  rw[Rep] at e
  obtain⟨cs,rfl,m,f⟩:=e
  exact⟨J,Step.refl S,f,by simp[Value.cells,m],i⟩
 ·rename_i c
  rw[Rep] at e
  obtain⟨cs,rfl,f⟩:=e
  exact Mg S i d f
 ·rename_i v m f
  obtain⟨J',A,hA,b,k⟩:=Mg (cs:=[vc]) S i d (by rw[Reps];exact⟨vc,[],rfl,e,by rw[Reps]⟩)
  have y:vc.oneCell'=true:=by
   have l:c'.length=1:=b
   cases n:c' with
   | nil=>simp[n] at l
   | cons x r =>
    obtain⟨u,q,s⟩:=hA.at (j:=0) (x:=x) (by simp[n])
    simp at q;subst q
    exact SQ s
  have t:vc.cells=#[vc]:=by cases vc<;>simp_all[Value.cells,Value.oneCell']
  rw[t]
  exact⟨J',A,hA,b,k⟩
end
end Gx

namespace Gx
open Go
theorem Br:∀ (ups:C9) (h:Ah) (b:Nat),Ax ups b=false→Ak (Ai ups h) b=Ak h b
 | [],_,_,_=>rfl
 | (i,some x)::r,h,b,c=>by
  rw[Ax] at c
  cases d:Nat.beq i b with
  | true=>rw[d] at c;simp at c
  | false =>
   rw[d] at c
   rw[Ai,Br r _ b c,Ae,if_neg (fun e=>P7 d e.symm)]
 | (i,none)::r,h,b,c=>by
  rw[Ax] at c
  cases d:Nat.beq i b with
  | true=>rw[d] at c;simp at c
  | false =>
   rw[d] at c
   rw[Ai,Br r _ b c]
   split
   ·rw[Ae,if_neg (fun e=>P7 d e.symm)]
   ·rfl
theorem Za {c vs:LA} {off:Nat} (e:off+vs.length≤c.length) (j:Nat):(Gf c off vs)[j]?=if off≤j∧j<off+vs.length then vs[j - off]? else c[j]?:=by
 unfold Gf
 rw[List.append_assoc,List.getElem?_append]
 simp only[List.length_take,Nat.min_eq_left (show off≤c.length by omega)]
 by_cases b:j<off
 ·rw[if_pos b,if_neg (by omega),List.getElem?_take,if_pos b]
 ·rw[if_neg b,List.getElem?_append]
  by_cases d:j - off<vs.length
  ·rw[if_pos d,if_pos (by omega)]
  ·rw[if_neg d,if_neg (by omega),List.getElem?_drop];congr 1;omega
theorem Oo {c vs:LA} {off:Nat} (b:off+vs.length≤c.length):(Gf c off vs).length=c.length:=by
 unfold Gf;simp;omega
theorem Zb {c vs:LA} {off:Nat} (b:off+vs.length≤c.length) (j:Nat):(setCells c off vs)[j]?=if off≤j∧j<off+vs.length then vs[j - off]? else c[j]?:=by
 unfold setCells
 split
 ·rename_i y
  simp at b
  rw[List.getElem?_set]
  by_cases e:off=j
  ·subst e;simp;omega
  ·rw[if_neg e,if_neg (by simp;omega)]
 ·exact Za b j
theorem K2 {c vs:LA} {off:Nat} (b:off+vs.length≤c.length):(setCells c off vs).length=c.length:=by
 unfold setCells
 split
 ·simp
 ·exact Oo b
section
variable {R:Type} {r:R} {P:Program} {J J':Bool→Nat→Prop} {β:Bl} {h:Ah} {w w':World} {g:A0}
theorem Jl {v:AV} {vc:Value} (c:W0 g v=true) (b:Rep J β h w v vc):vc.oneCell'=true:=by
 cases v<;>simp[W0] at c
 case own=>rw[Rep] at b;obtain⟨x,A,cap,_,rfl,_⟩:=b;rfl
 case optr=>rw[Rep] at b;obtain⟨x,k,o,_,rfl,_⟩:=b;rfl
 case fn=>rw[Rep] at b;obtain⟨cs,rfl,_⟩:=b;rfl
 case imm=>rw[Rep,RepC] at b;obtain⟨_,A,cap,rfl,_⟩:=b;rfl
 case iptr=>rw[Rep,RepC] at b;obtain⟨a,rfl,_⟩:=b;rfl
 all_goals (rw[Rep] at b;subst b;rfl)
theorem Qn:∀ {c:LA},Ji g c=true→∀ (j:Nat) (x:AV),c[j]?=some x→W0 g x=true
 | [],_,j,x,b=>by simp at b
 | v::r,d,j,x,b=>by
  rw[Ji] at d;simp at d
  cases j with
  | zero=>simp at b;subst b;exact d.1
  | succ j=>exact Qn d.2 j x (by simpa using b)
theorem wq {k:Nat} {cs b:Array Value} {ty:TypeId} {fr:Nat×Nat} (O:OnlyBlk w w' k cs b ty fr):∀ j,A1 w j≤A1 w' j:=fun j=>by
 by_cases e:j=k
 ·subst e;rw[De O.old,De O.new,O.sz];exact Nat.le_refl _
 ·simp[A1,O.other j e]
theorem EQ {t:TypeId} {k o:Nat} {vc:Value} {cs:Array Value} {ty:TypeId} {fr:Nat×Nat} (d:w.heap[k]?=some (.cells cs ty fr)) (e:FrOk cs.size fr)
  (f:Bd P t=some vc.cells.toList.length) (i:o+vc.cells.toList.length≤cs.size) (l:∀ u ∈ vc.cells.toList,u.oneCell'=true) :
  (Instr.storeAt t (.pointer (some ⟨k,o,none⟩)) vc).run P w=.ok () (w.setCells k o vc.cells.toList):=by
 have b:=run_storeCells_cells (P:=P) k o vc.cells.toList 0 w (fun j m=>by
   rw[Nat.add_zero,Mf d];simp;omega)
  (fun j m=>by
   rw[Nat.add_zero];simp only[World.frozen?,d]
   have:=e.at (o+j) (by omega)
   cases fr;simp at this ⊢;omega) l
 simp only[Nat.add_zero] at b
 have c:=B7 f w
 simp only[Array.length_toList] at c
 simp[Instr.storeAt,Instr.sureAddr,storeVar,c,b]
theorem qb {t:TypeId} {p v:AV} {vp vv:Value} {k:AV→C9→O R} (S:SimH J β h w) (hl:Looks g h) (I:ZD P g t p v k=some r) (hp:Rep J β h w p vp) (X:Rep J β h w v vv) :
  ∃ val ups,k val ups=some r∧∃ J' β' w',(Instr.storeAt t vp vv).run P w=.ok () w'∧Step J β h w J' β' (Ai ups h) w'∧val=.undef:=by
 unfold ZD at I
 split at I
 ·rename_i b off
  obtain⟨x,hx,h1⟩:=ub I
  obtain⟨n,hn,h2⟩:=ub h1
  obtain⟨hs,U⟩:=wn h2
  obtain⟨hb,V⟩:=Cr hl hx
  have q:=Ae8 hb hp
  cases K:x.pure with
  | true =>
   rw[K] at U
   obtain⟨⟨c',u1,org⟩,hq,h4⟩:=ub U
   obtain⟨i,Y⟩:=uc h4
   simp at i
   obtain⟨z,C,L⟩:=i
   obtain⟨J1,A,hA,l,_⟩:=BH S hl.s hq X
   have hb1:Ak (Ai u1 h) b=some x:=by rw[Br _ _ _ L];exact hb
   obtain⟨kk,o,cs,ty,fr,hβ,rfl,f,hf,hle,hcr,_,_⟩:=q8 A.sim hb1 V (Rep.ext A.ext hp)
   obtain⟨D,O,hO⟩:=OnlyBlk.setCells (k:=kk) vv.cells.toList (o+off) w cs f
   have F:off+c'.length≤x.cells.length:=by omega
   have hone:=RepCs.one hA l.symm
   have B:=Step.set (x':={ x with pure:=true,cells:=setCells x.cells off c',taint:=x.taint||org }) A.sim hb1 V hs hβ O V hs rfl (K2 F) (by
    refine⟨fun _=>?_,fun I=>by simp at I⟩
    have hold:=hcr.1 K
    rw[Bi]
    intro j y d
    simp only[Zb F] at d
    simp only[Nat.zero_add]
    have mono:∀ {a b:Bool} (k:Nat),J1 a k→J1 (a||b) k:=fun {a b} k f=>by
     cases a
     ·cases b
      ·exact f
      ·exact A.sim.jft k f
     ·exact f
    split at d
    ·rename_i hj'
     obtain⟨u,G,M⟩:=hA.at d
     refine⟨u,?_,RepC.keep (J:=J1 org) (fun k f=>by rw[Bool.or_comm];exact mono k f) (fun _ _=>rfl) M⟩
     rw[hO,if_pos (by omega),←G];congr 1;omega
    ·rename_i hj'
     obtain⟨u,G,M⟩:=hold.at d
     refine⟨u,?_,RepC.keep (J:=J1 x.taint) (fun k f=>mono k f) (fun _ _=>rfl) M⟩
     rw[hO,if_neg (by omega)];exact G)
   refine⟨_,_,Y,J1,β,_,EQ f hf.1 (by rw[←l,z];exact hn) (by omega) hone,?_,rfl⟩
   rw[Bq]
   exact A.trans (B q) (fun _ k _ _=>wq O k)
  | false =>
   rw[K] at U
   obtain⟨kk,o,cs,ty,fr,hβ,rfl,f,hf,hle,hcr,_,_⟩:=q8 S hb V hp
   have go:∀ (c:LA) (cells':LA),(∀ (j:Nat) (y:AV),c[j]?=some y→∃ u,vv.cells.toList[j]?=some u∧Rep J β h w y u∧u.oneCell'=true)→c.length=vv.cells.toList.length→c.length=n→off+c.length≤x.cells.length →
     cells'.length=x.cells.length→(∀ j:Nat,cells'[j]?=if off≤j∧j<off+c.length then c[j - off]? else x.cells[j]?) →
     ∃ J' β' w',(Instr.storeAt t (.pointer (some ⟨kk,o+off,none⟩)) vv).run P w=.ok () w'∧Step J β h w J' β' (Ai [(b,some { x with pure:=false,cells:=cells' })] h) w':=by
    intro c cells' i l hcn hoff hcl hget'
    obtain⟨D,O,hO⟩:=OnlyBlk.setCells (k:=kk) vv.cells.toList (o+off) w cs f
    have B:=Step.set (x':={ x with pure:=false,cells:=cells' }) S hb V hs hβ O V hs rfl hcl (by
     refine⟨fun I=>by simp at I,fun _ j y d=>?_⟩
     simp only[hget'] at d
     split at d
     ·rename_i hj'
      obtain⟨u,G,M,ho⟩:=i _ _ d
      refine⟨u,?_,M,ho⟩
      show D[o+j]?=some u
      rw[hO,if_pos (by omega),←G];congr 1;omega
     ·rename_i hj'
      obtain⟨u,G,M⟩:=hcr.2 K j y d
      refine⟨u,?_,M⟩
      show D[o+j]?=some u
      rw[hO,if_neg (by omega)];exact G)
    refine⟨J,β,_,EQ f hf.1 (by rw[hn,←hcn,l]) (by omega) (fun u G=>?_),B q⟩
    obtain⟨j,d,rfl⟩:=List.getElem_of_mem G
    obtain⟨u',hu',_,ho⟩:=i j c[j] (List.getElem?_eq_getElem (by omega))
    rw[List.getElem?_eq_getElem d] at hu';simp only[Option.some.injEq] at hu';rw[hu'];exact ho
   simp only[cond_false] at U
   split at U
   ·rename_i c
    obtain⟨i,Y⟩:=uc U
    simp at i
    obtain⟨z,C,L⟩:=i
    rw[Rep] at X
    obtain⟨us,rfl,e⟩:=X
    rw[Bm] at e
    obtain⟨J',β',w',g1,g2⟩:=go c (Gf x.cells off c) (fun j y d=>by
      have T:j<us.length:=by rw[e.1];exact(List.getElem?_eq_some_iff.1 d).1
      refine⟨us[j],by simp[Value.cells,List.getElem?_eq_getElem T],e.2 j y _ d (List.getElem?_eq_getElem T),Jl (Qn z j y d) (e.2 j y _ d (List.getElem?_eq_getElem T))⟩)
     (by simp[Value.cells,e.1]) C (by omega) (Oo (by omega)) (Za (by omega))
    exact⟨_,_,Y,J',β',w',g1,g2,rfl⟩
   ·rename_i c org
    obtain⟨i,Y⟩:=uc U
    simp at i
    obtain⟨rfl,C,L⟩:=i
    rw[Rep] at X
    obtain⟨us,rfl,e,hrc⟩:=X
    obtain⟨D,O,hO⟩:=OnlyBlk.setCells (k:=kk) us (o+0) w cs f
    have B:=Step.set (x':={ x with pure:=true,taint:=org,cells:=c }) S hb V hs hβ O V hs rfl (by simp;omega) (by
     refine⟨fun _=>?_,fun I=>by simp at I⟩
     rw[Bi]
     intro j y d
     obtain⟨u,G,M⟩:=hrc.at d
     have T:j<us.length:=by rw[e];exact(List.getElem?_eq_some_iff.1 d).1
     refine⟨u,?_,M⟩
     show D[o+(0+j)]?=some u
     rw[hO,if_pos (by omega),←G];congr 1;omega)
    exact⟨_,_,Y,J,β,_,EQ (vc:=.agg ⟨us⟩) f hf.1 (by simp[Value.cells];rw[e,C];exact hn) (by simp[Value.cells];omega) (by simpa[Value.cells] using RepCs.one hrc e),B q,rfl⟩
   ·rename_i hna
    obtain⟨i,Y⟩:=uc U
    simp at i
    obtain⟨z,C,L⟩:=i
    have ho:=Jl z X
    have m:vv.cells=#[vv]:=by cases vv<;>simp_all[Value.cells,Value.oneCell']
    obtain⟨J',β',w',g1,g2⟩:=go [v] (x.cells.set off v) (fun j y d=>by
      cases j with
      | zero=>simp at d;subst d;exact⟨vv,by simp[m],X,ho⟩
      | succ j=>simp at d) (by simp[m]) (by simp;omega) (by simp;omega) (by simp) (fun j=>by
      have:=Zb (c:=x.cells) (vs:=[v]) (off:=off) (by simp;omega) j
      simpa[setCells] using this)
    exact⟨_,_,Y,J',β',w',g1,g2,rfl⟩
 ·simp at I
end
end Gx

namespace Gx
open Go
section
variable {R:Type} {r:R} {P:Program} {J J':Bool→Nat→Prop} {β:Bl} {h:Ah} {w w':World} {g:A0}
theorem oE {v v':AV} {ups:C9} {org:Bool} (c:K' g v=some (v',ups,org)) (b:Nat) (i:Ax ups b=true):∃ x,g b=some x:=by
 unfold K' at c
 split at c
 ·rename_i j off n
  obtain⟨x,d,l⟩:=ub c
  obtain⟨m,k⟩:=uc l
  simp at k
  obtain⟨rfl,rfl,rfl⟩:=k
  unfold D3 at d
  obtain⟨x0,f,d⟩:=ub d
  have:j=b:=by
   cases e:Nat.beq j b with
   | true=>exact Nat.eq_of_beq_eq_true e
   | false=>simp[Ax,e] at i
  subst this;exact⟨x0,f⟩
 all_goals first
  | (simp at c;done)
  | (simp at c;obtain⟨rfl,rfl,rfl⟩:=c;simp[Ax] at i)
theorem Fn:∀ (a b:C9) (c:Nat),Ax (a++b) c=(Ax a c||Ax b c)
 | [],_,_=>by simp[Ax]
 | (i,_)::r,b,c=>by
  rw[List.cons_append,Ax,Ax,Fn r b c]
  cases Nat.beq i c<;>simp
theorem R4:∀ {c c':LA} {ups:C9} {org:Bool},Rv g c=some (c',ups,org)→∀ b,Ax ups b=true→∃ x,g b=some x
 | [],c',ups,org,d,b,e=>by simp[Rv] at d;obtain⟨rfl,rfl,rfl⟩:=d;simp[Ax] at e
 | v::r,c',ups,org,d,b,e=>by
  rw[Rv] at d
  obtain⟨⟨v1,u1,o1⟩,j,k⟩:=ub d
  obtain⟨⟨l,u2,o2⟩,hq,f⟩:=ub k
  simp at f
  obtain⟨rfl,rfl,rfl⟩:=f
  rw[Fn] at e
  cases i:Ax u1 b with
  | true=>exact oE j b i
  | false=>rw[i] at e;exact R4 hq b (by simpa using e)
theorem mX {v:AV} {c':LA} {ups:C9} {org:Bool} (d:Rd g v=some (c',ups,org)) (b:Nat) (e:Ax ups b=true):∃ x,g b=some x:=by
 unfold Rd at d
 split at d
 ·simp at d;obtain⟨rfl,rfl,rfl⟩:=d;simp[Ax] at e
 ·exact R4 d b e
 ·exact R4 d b e
theorem zE {ups:C9} {d:Nat} (e:Looks g h) (f:∀ b,Ax ups b=true→∃ x,g b=some x) (c:Ak h (nid d)=none):Ak (Ai ups h) (nid d)=none:=by
 rw[Br]
 ·exact c
 ·cases i:Ax ups (nid d) with
  | false=>rfl
  | true =>
   obtain⟨x,j⟩:=f _ i
   rw[e _ _ j] at c;cases c
def OpDone (J:Bool→Nat→Prop) (β:Bl) (h:Ah) (w:World) (ups:C9) (val:AV) (vc:Value) (w':World):Prop :=
 ∃ J' β',Step J β h w J' β' (Ai ups h) w'∧Rep J' β' (Ai ups h) w' val vc
def UpsFree (d:Nat) (h:Ah) (ups:C9):Prop:=∀ b,Ax ups b=true→W5 d b=true→Ak h b=none
theorem UpsFree.nid {d:Nat} {h:Ah} {ups:C9} (b:UpsFree d h ups) (c:Ax ups (nid d)=true):Ak h (nid d)=none:=b _ c (by
 have e:Nat.ble (Gx.nid d) (Gx.nid d)=true:=by simp
 have f:Nat.blt (Gx.nid d) (Gx.nid d+16)=true:=by simp
 rw[W5,e,f];rfl)
theorem JL {d:Nat} {x:Blk} {cs:Array Value} {ty:TypeId} (S:SimH J β h w) (e:Ak h (nid d)=none) (f:x.dead=false) (i:x.sealed=false) (b:x.cells.length≤cs.size) (k:CellsRep J β h w x (fun j=>cs[j]?)) (c:x.mp=false:=by rfl) (hty:TyOk x.ty ty 0 cs.size:=by exact TyOk.none) :
  OpDone J β h w [(nid d,some x)] (.optr (nid d) 0) (.pointer (some ⟨w.heap.size,0,none⟩)) (w.alloc (.cells cs ty)):=by
 have A:=Step.new (ty:=ty) (fr:=(0,0)) S e f i ⟨.inl rfl,hty⟩ b k c
 refine⟨_,_,A,?_⟩
 rw[Rep]
 exact⟨x,w.heap.size,0,⟨by simp[Ai,Ae],c⟩,rfl,.inr (by simp)⟩
theorem OpDone.after {ups ups':C9} {val:AV} {vc:Value} {J1:Bool→Nat→Prop} {β1:Bl} {b:World} (A:Step J β h w J1 β1 (Ai ups h) b) (B:OpDone J1 β1 (Ai ups h) b ups' val vc w')
  (c:∀ k,A1 w k≤A1 w' k):OpDone J β h w (ups++ups') val vc w':=by
 obtain⟨J2,β2,B1,B2⟩:=B
 exact⟨J2,β2,by rw[Bq];exact A.trans B1 (fun _ k _ _=>c k),by rw[Bq];exact B2⟩
theorem Lc (w:World) (o:Obj):∀ k,A1 w k≤A1 (w.alloc o) k:=fun k=>by
 by_cases b:k<w.heap.size
 ·simp[A1,Ci w _ b]
 ·simp[A1,Array.getElem?_eq_none (Nat.le_of_not_lt b)]
theorem Zc {t:TypeId} {vc:Value}:(Instr.box t vc).run P w=.ok (.pointer (some ⟨w.heap.size,0,none⟩)) (w.alloc (.cells vc.cells t)):=by
 simp[Instr.box,newVar,newRow]
theorem cC {c:LA} {org:Bool} {cs:List Value} (s:RepCs (J org) w c (fun j=>cs[j]?) 0):∀ {L:List (Nat×TypeId)} {b:LA} {k:LA→O R},SH P c org L b k=some r →
  (∀ (j:Nat) x,b[j]?=some x→∃ u,cs[j]?=some u∧Rep J β h w x u)→∃ l:LA,k l=some r∧∀ (j:Nat) x,l[j]?=some x→∃ u,cs[j]?=some u∧Rep J β h w x u
 | [],b,k,f,i=>⟨b,f,i⟩
 | (off,t)::L,b,k,f,i=>by
  rw[SH] at f
  obtain⟨m,A⟩:=uc f
  simp at m
  obtain⟨v,B,C⟩:=O9 (β:=β) (h:=h) A (s.drop off)
  refine cC s B (fun j x e=>?_)
  rw[List.getElem?_append] at e
  split at e
  ·exact i j x e
  ·have n:j=b.length:=by
    have:=(List.getElem?_eq_some_iff.1 e).1
    simp at this;omega
   subst n
   simp at e;subst e
   rcases C with⟨d,y,D,u,z,F⟩ | ⟨d,y,D,_⟩
   ·refine⟨u,?_,F⟩
    rw[m.1] at z;simpa using z
   ·exfalso
    have q:=m.2
    unfold Ac4 at q
    rw[y] at q
    split at q<;>simp_all[TypeDesc.isRow]
theorem qc {co:Bool} {t:TypeId} {v:AV} {vv:Value} {k:AV→O R} (d:ZF P co t v k=some r) (e:Rep J β h w v vv):∃ v',k v'=some r∧Rep J β h w v' vv:=by
 unfold ZF at d
 split at d
 ·rename_i c org
  rw[Rep] at e
  obtain⟨cs,rfl,B,f⟩:=e
  obtain⟨l,i,m⟩:=cC (β:=β) (h:=h) f d (fun j x n=>by simp at n)
  obtain⟨q,s⟩:=uc i
  simp at q
  refine⟨_,s,?_⟩
  rw[Rep]
  refine⟨cs,rfl,Bm.2 ⟨by omega,fun j x u y z=>?_⟩⟩
  obtain⟨C,b,A⟩:=m j x y
  rw[z] at b;simp at b;subst b;exact A
 ·exact⟨_,d,e⟩
theorem zi {t q m:Nat} (h:qP P t=some (q,m)):t=q∧Bd P t=some m:=by
 have key:∀ {o:Option Nat},o=Bd P t→(o.map fun n=>(t,n))=some (q,m)→t=q∧Bd P t=some m:=by
  intro o b h
  cases o with
  | none=>simp at h
  | some n=>simp at h;exact⟨h.1,by rw[←b,h.2]⟩
 unfold qP at h
 split at h
 ·obtain⟨f,_,h⟩:=ub h
  split at h
  ·obtain⟨_,h⟩:=uc h;exact key rfl h
  ·obtain⟨g,_,h⟩:=ub h
   split at h
   ·obtain⟨_,h⟩:=uc h;exact key rfl h
   ·cases h
  ·cases h
 ·cases h
theorem g_ {d:Nat} {t:TypeId} {v:AV} {vv:Value} {k:AV→C9→O R} (S:SimH J β h w) (F:Looks g h) (i:tB P g d t v k=some r) (x:Rep J β h w v vv) :
  ∃ val ups,k val ups=some r∧(UpsFree d h ups→∃ vc w',(Instr.box t vv).run P w=.ok vc w'∧OpDone J β h w ups val vc w'):=by
 unfold tB at i
 split at i
 ·rename_i c org
  refine⟨_,_,i,fun b=>⟨_,_,Zc,?_⟩⟩
  replace b:=b.nid (by simp[Md,Ax])
  rw[Rep] at x
  obtain⟨cs,rfl,D,l⟩:=x
  exact JL S b rfl rfl (by simp[Value.cells,D]) ⟨fun _=>by simpa[Value.cells] using l,fun n=>by simp at n⟩
 ·rename_i c
  cases n:yv P t with
  | true =>
   rw[n] at i
   obtain⟨f,i⟩:=uc i
   simp only[Bool.and_eq_true] at f
   obtain⟨f,u⟩:=f
   have u:=Nat.eq_of_beq_eq_true u
   refine⟨_,_,i,fun b=>⟨_,_,Zc,?_⟩⟩
   replace b:=b.nid (by simp[Ax])
   rw[Rep] at x
   obtain⟨cs,rfl,l⟩:=x
   rw[Bm] at l
   have hty:TyOk (qP P t) t 0 (Value.agg ⟨cs⟩).cells.size:=fun q m hq=>by
    obtain⟨G,I⟩:=zi hq
    refine⟨G,rfl,.inr ?_⟩
    rw[I] at u
    simp[Value.cells,l.1];simpa using u
   refine JL S b rfl rfl (by simp[Value.cells,l.1]) ⟨fun n=>by simp at n,fun _ j y z=>?_⟩ rfl hty
   have B:j<cs.length:=by rw[l.1];exact(List.getElem?_eq_some_iff.1 z).1
   exact⟨cs[j],by simp[Value.cells,B],l.2 j y _ z (List.getElem?_eq_getElem B),Jl (Qn f j y z) (l.2 j y _ z (List.getElem?_eq_getElem B))⟩
  | false =>
   rw[n] at i
   obtain⟨⟨c',u1,o1⟩,hq,D⟩:=ub i
   refine⟨_,_,D,fun b=>⟨_,_,Zc,?_⟩⟩
   replace b:=b.nid (by simp[Fn,Md,Ax])
   rw[Rep] at x
   obtain⟨cs,rfl,l⟩:=x
   obtain⟨J1,A,hA,C,_⟩:=Mg S F.s hq l
   refine OpDone.after A (JL A.sim (zE F (R4 hq) b) rfl rfl (by simp[Value.cells,C]) ⟨fun _=>?_,fun n=>by simp at n⟩) (Lc _ _)
   simpa[Value.cells] using hA
 ·rename_i v D l
  obtain⟨f,i⟩:=uc i
  refine⟨_,_,i,fun b=>⟨_,_,Zc,?_⟩⟩
  replace b:=b.nid (by simp[Md,Ax])
  have K:=Jl f x
  have e:vv.cells=#[vv]:=by cases vv<;>simp_all[Value.cells,Value.oneCell']
  refine JL S b rfl rfl (by simp[e]) ⟨fun n=>by simp at n,fun _ j y z=>?_⟩
  cases j with
  | zero=>simp at z;subst z;exact⟨vv,by simp[e],x,K⟩
  | succ j=>simp at z
end
end Gx

namespace Gx
open Go
theorem qd (z:LA):∀ (l j:Nat),j<l*z.length→(Db l z)[j]?=z[j%z.length]?:=by
 have flat:∀ (l j:Nat),j<l*z.length→((List.replicate l z).flatten)[j]?=z[j%z.length]?:=by
  intro l
  induction l with
  | zero=>intro j b;simp at b
  | succ l d =>
   intro j b
   rw[List.replicate_succ,List.flatten_cons,List.getElem?_append]
   by_cases c:j<z.length
   ·rw[if_pos c,Nat.mod_eq_of_lt c]
   ·rw[if_neg c,d _ (by rw[Nat.succ_mul] at b;omega)]
    rw[Nat.mod_eq_sub_mod (a:=j) (by omega)]
 intro l j b
 unfold Db
 split
 ·rename_i v
  simp at b
  simp[b,Nat.mod_one]
 ·exact flat l j b
theorem Dw (l:Nat) (z:LA):(Db l z).length=l*z.length:=by
 unfold Db
 split
 ·simp
 ·simp
section
variable {R:Type} {r:R} {P:Program} {J J':Bool→Nat→Prop} {β:Bl} {h:Ah} {w w':World} {g:A0}
theorem P' {J:Nat→Prop}:∀ {cs:List Value},Cw (H6 cs)=true→∀ (j:Nat) (u:Value),cs[j]?=some u→∃ x,(H6 cs)[j]?=some x∧RepC J w x u
 | [],_,j,u,b=>by simp at b
 | v::r,d,j,u,b=>by
  have key:∃ x,YZ v=x∧Cw (H6 r)=true∧RepC J w x v:=by
   rw[H6] at d
   have c:=Y7 (J:=fun _=>J) (β:=fun _=>none) (h:=[]) (w:=w) v
   cases e:YZ v<;>rw[e] at d c<;>simp[Cw] at d<;>refine⟨_,rfl,d,?_⟩<;>(rw[Rep] at c;rw[RepC];exact c)
  obtain⟨x,e,f,c⟩:=key
  cases j with
  | zero=>simp at b;subst b;exact⟨x,by simp[H6,e],c⟩
  | succ j =>
   obtain⟨y,i,k⟩:=P' (J:=J) (cs:=r) f j u (by simpa using b)
   exact⟨y,by simpa[H6] using i,k⟩
theorem Uc:∀ cs:List Value,(H6 cs).length=cs.length
 | []=>rfl
 | v::r=>by simp[H6,Uc r]
theorem Ns {t:TypeId} {z:LA} (c:SD P t=some z):∃ i v,P.info? t=some i∧i.zero=some v∧z=H6 v.cells.toList∧Cw z=true∧v.cells.size=i.size∧z.length=i.size:=by
 unfold SD at c
 obtain⟨i,e,f⟩:=ub c
 obtain⟨v,j,k⟩:=ub f
 obtain⟨b,d⟩:=uc k
 simp at d b
 subst d
 exact⟨i,v,e,j,rfl,b.1,by simpa using b.2,by rw[Uc];simpa using b.2⟩
theorem Zd {J:Nat→Prop} {v:Value} (m:Cw (H6 v.cells.toList)=true) (l n:Nat) (s:l*v.cells.size≤n) :
  RepCs J w (Db l (H6 v.cells.toList)) (fun j=>(madeCells v.cells n)[j]?) 0:=by
 rw[Bi]
 intro j x e
 have c:(H6 v.cells.toList).length=v.cells.size:=by rw[Uc];simp
 have b:j<l*(H6 v.cells.toList).length:=by
  have:=(List.getElem?_eq_some_iff.1 e).1
  rwa [Dw] at this
 rw[qd _ _ _ b] at e
 rw[c] at e b
 have d:0<v.cells.size:=by
  rcases Nat.eq_zero_or_pos v.cells.size with f | f
  ·rw[f] at b;simp at b
  ·exact f
 have k:j%v.cells.size<v.cells.size:=Nat.mod_lt _ d
 obtain⟨y,i,q⟩:=P' (w:=w) (J:=J) m (j%v.cells.size) v.cells[j%v.cells.size] (by simp[k])
 rw[e] at i;simp at i;subst i
 refine⟨_,?_,q⟩
 have:j<n:=by omega
 simp[madeCells,this,getElem!_pos,k]
theorem SR {d n cap sz:Nat} {x:Blk} {cs:Array Value} {ty:TypeId} {fr:Nat×Nat} (S:SimH J β h w) (m:Ak h (nid d)=none) (q:x.dead=false) (s:x.sealed=false) (k:x.sz=sz)
  (i:FrTy x.ty ty 0 cs.size fr) (b:x.cells.length=n*sz) (l:cap*sz≤cs.size) (c:n≤cap) (t:CellsRep J β h w x (fun j=>cs[j]?)) (e:x.mp=false:=by rfl) :
  OpDone J β h w [(nid d,some x)] (.own (nid d) 0 n) (.slice (some ⟨w.heap.size,0,none⟩) n cap) (w.alloc (.cells cs ty fr)):=by
 have u:n*sz≤cap*sz:=Nat.mul_le_mul_right _ c
 have A:=Step.new (ty:=ty) (fr:=fr) S m q s i (by omega) t e
 refine⟨_,_,A,?_⟩
 rw[Rep]
 refine⟨x,_,cap,⟨by simp[Ai,Ae],e⟩,rfl,c,.inr ⟨w.heap.size,0,rfl,.inr ⟨by simp,?_,by rw[k,b];omega⟩⟩⟩
 have f:(w.alloc (.cells cs ty fr)).heap[w.heap.size]?=some (.cells cs ty fr):=by show(w.heap.push _)[_]?=_;simp
 rw[De f,k];omega
theorem tI {d:Nat} {t:TypeId} {l c:AV} {vl vc:Value} {k:AV→C9→O R} (S:SimH J β h w) (e:nu P d t l c k=some r) (q:Rep J β h w l vl) (s:Rep J β h w c vc) :
  ∃ val ups,k val ups=some r∧(UpsFree d h ups→∃ u w',(Instr.makeSlice t vl vc).run P w=.ok u w'∧OpDone J β h w ups val u w'):=by
 unfold nu at e
 split at e
 ·rename_i A l c B
  obtain⟨sz,x,C⟩:=ub e
  obtain⟨by_,y,D⟩:=ub C
  obtain⟨z,F,G⟩:=ub D
  obtain⟨hq,I⟩:=uc G
  simp at hq
  obtain⟨K,L,X,Y⟩:=hq
  rw[Rep] at q s;subst q s
  obtain⟨i,v,f,M,rfl,j,T,U⟩:=Ns F
  have b:i.size=sz:=by simp[Bd,f] at x;exact x
  have m:i.bytes=by_:=by simp[qM,f] at y;exact y
  have n:Ax (Md d true false sz (Db l.toNat (H6 v.cells.toList))) (nid d)=true:=by simp[Md,Ax]
  refine⟨_,_,I,fun V=>⟨_,_,run_make w t A i v B f M _ _ l c K L (by rw[m,Int.mul_comm];omega) (by omega),?_⟩⟩
  refine SR (sz:=sz) S (V.nid n) rfl rfl rfl FrTy.un0 ?_ (by rw[size_madeCells,b];exact Nat.le_refl _) (by omega) ⟨fun _=>?_,fun j=>by simp at j⟩
  ·show(Db l.toNat (H6 v.cells.toList)).length=_
   rw[Dw,U,b]
  ·exact Zd j _ _ (by rw[T];exact Nat.mul_le_mul_right _ (by omega))
 ·simp at e
theorem Yield.src {sz n:Nat} {tx:TypeId} {vx:Value} {b:List Value} (Y:Yield P w sz vx n b) (c:qT P tx=true) (f:∀ u ∈ b,u.oneCell'=true):Src P sz tx vx n b w:=by
 refine⟨?_,Y.len,?_,?_,Y.length,f⟩
 ·unfold qT at c
  split at c
  ·rename_i e d;exact .inl ⟨e,d⟩
  ·rename_i d;exact .inr d
  ·simp at c
 ·have:=Y.cells w n (fun _=>rfl) (Nat.le_refl _)
  rwa [←Y.length,List.take_length] at this
 ·have:=Y.cells w.drew n (fun _=>rfl) (Nat.le_refl _)
  rwa [←Y.length,List.take_length] at this
theorem qe {J:Nat→Prop} {a b:LA} {e vs:List Value} (k:RepCs J w a (fun j=>e[j]?) 0) (l:RepCs J w b (fun j=>vs[j]?) 0) (m:a.length=e.length) (tail:List Value) :
  RepCs J w (a++b) (fun j=>(e++vs++tail)[j]?) 0:=by
 rw[Bi]
 intro j x c
 rw[List.getElem?_append] at c
 simp only[Nat.zero_add]
 by_cases i:j<a.length
 ·rw[if_pos i] at c
  obtain⟨u,d,f⟩:=k.at c
  refine⟨u,?_,f⟩
  rw[List.append_assoc,List.getElem?_append,if_pos (by omega)];exact d
 ·rw[if_neg i] at c
  obtain⟨u,d,f⟩:=l.at c
  refine⟨u,?_,f⟩
  have n:j - a.length<vs.length:=(List.getElem?_eq_some_iff.1 d).1
  rw[List.append_assoc,List.getElem?_append,if_neg (by omega),List.getElem?_append,if_pos (by omega),←m];exact d
theorem Ze (w:World) (k:Nat):A1 w.drew k=A1 w k:=rfl
theorem gc {d sz n1 n2 cap0:Nat} {t tx ty b:TypeId} {i:TypeInfo} {z vx:Value} {A:Option Addr} {olds news:List Value} {c1 c:LA} {o:Bool} (S:SimH J β h w) (F:Ak h (nid d)=none)
  (G:P.underlying t=some (.slice b)) (I:P.info? b=some i) (K:i.zero=some z) (v:i.size=sz) (y:z.cells.size=sz)
  (e:∀ w':World,(∀ a,w'.cell? a=w.cell? a)→(Builtin.firstCells sz n1 (.slice A n1 cap0)).run P w'=.ok olds.toArray w') (f:olds.length=n1*sz)
  (Y:Yield P w sz vx n2 news) (L:qT P tx=true) (M:∀ u ∈ news,u.oneCell'=true)
  (O:RepCs (J o) w c1 (fun j=>olds[j]?) 0) (l:c1.length=olds.length) (T:RepCs (J o) w c (fun j=>news[j]?) 0) (B:c.length=news.length)
  (D:cap0<n1+n2) (U:n1+n2≤140737488355328) (C:(n1+n2)*i.bytes≤140737488355328) {X:Option (Nat×Nat)} (hX:∀ q,X=some q→q=(b,0)) :
  ∃ u w',(Builtin.append_ #[t,tx] ty #[.slice A n1 cap0,vx]).run P w=.ok u w' ∧
   OpDone J β h w [(nid d,some { dead:=false,sealed:=false,pure:=true,taint:=o,sz:=sz,cells:=c1++c,ty:=X })] (.own (nid d) 0 (n1+n2)) u w'∧(∀ k,A1 w k≤A1 w' k):=by
 subst v
 have run:=run_append_grow_src (P:=P) w t tx ty b i z G I K A n1 cap0 olds (e w.drew (fun _=>rfl)) vx n2 news (Y.src L M) D (by omega) (growslice_fits D C)
 have s:n1+n2≤grownCap w (n1+n2) cap0 b:=by
  unfold grownCap;simp[Question.cut]
 refine⟨_,_,run,?_,?_⟩
 ·obtain⟨J',β',B1,B2⟩:=SR (d:=d) (n:=n1+n2) (cap:=grownCap w (n1+n2) cap0 b) (sz:=i.size) (ty:=b) (fr:=(0,0)) (x:={ dead:=false,sealed:=false,pure:=true,taint:=o,sz:=i.size,cells:=c1++c,ty:=X })
   (cs:=(olds++news).toArray++Builtin.zeroCells z.cells (grownCap w (n1+n2) cap0 b - (n1+n2))) (Step.drew S).sim F rfl rfl rfl ⟨.inl rfl,fun t m V=>by have:=hX _ V;simp at this;exact⟨this.1.symm,rfl,.inl this.2⟩⟩
   (by simp[l,B,f,Y.length,Nat.add_mul]) (by
    simp[Builtin.zeroCells,f,Y.length,y]
    rw[←Nat.add_mul,←Nat.add_mul];exact Nat.mul_le_mul_right _ (by omega)) s
   ⟨fun _=>by
    have:=qe O T l (Builtin.zeroCells z.cells (grownCap w (n1+n2) cap0 b - (n1+n2))).toList
    show RepCs (J o) w.drew (c1++c) _ 0
    refine RepCs.keep (J:=J o) (w:=w) (w':=w.drew) (fun _ hj=>hj) (fun _ _=>rfl) (fun j=>?_) this
    rw[←Array.getElem?_toList]
    simp,fun hp=>by simp at hp⟩
  exact⟨J',β',(Step.drew S).trans B1 (fun _ k _ _=>by rw[←Ze];exact Lc _ _ k),B2⟩
 ·intro k;rw[←Ze];exact Lc _ _ k
theorem JM {J:Bool→Nat→Prop} (d:∀ k,J false k→J true k) (a b:Bool) (k:Nat) (c:J a k):J (a||b) k:=by
 cases a
 ·cases b
  ·exact c
  ·exact d k c
 ·exact c
theorem gd {J:Bool→Nat→Prop} (c:∀ k,J false k→J true k) (a b:Bool) (k:Nat) (d:J b k):J (a||b) k:=by rw[Bool.or_comm];exact JM c b a k d
theorem tJ {d sz:Nat} {x:Blk} {A:Option Addr} (S:SimH J β h w) (c:Ak h (nid d)=none) (e:x.cells=[]) (b:x.mp=false:=by rfl) :
  OpDone J β h w [(nid d,some x)] (.own (nid d) 0 0) (.slice A 0 0) w:=by
 refine⟨_,_,Step.newNone S c e b,?_⟩
 rw[Rep]
 exact⟨x,A,0,⟨by simp[Ai,Ae],b⟩,rfl,Nat.le_refl _,.inl rfl⟩
theorem tK {g:A0} {b tx:TypeId} {s:AV} {q:Nat×Nat} (h:bs P g b tx s=some q):q=(b,0):=by
 unfold bs at h
 split at h
 ·split at h
  ·simp at h;exact h.symm
  ·cases h
 ·obtain⟨x,_,h⟩:=ub h
  obtain⟨y,_,h⟩:=ub h
  obtain⟨_,h⟩:=uc h
  simp at h;exact h.symm
 ·cases h
theorem Adc {g:A0} {d tx b off n o m:Nat} {ty:TypeId} {y:Blk} (f:D3 g b=some y) (i:TyOk y.ty ty o m):TyOk (bs P g d tx (.own b off n)) ty (o+off) m:=by
 intro t k h
 have e:=tK h
 simp at e;obtain⟨rfl,rfl⟩:=e
 unfold bs at h
 simp only[f,Option.bind_some] at h
 obtain⟨q,hq,h⟩:=ub h
 obtain⟨c,_⟩:=uc h
 simp only[Bool.and_eq_true] at c
 have c1:=Nat.eq_of_beq_eq_true c.1
 have l:=Nat.eq_of_beq_eq_true c.2.1
 have s:=Nat.eq_of_beq_eq_true c.2.2
 obtain⟨j,u,_⟩:=i q.1 q.2 hq
 exact⟨by rw[j,c1],by omega,.inl rfl⟩
theorem mY {d:Nat} {t tx ty:TypeId} {s x:AV} {vs vx:Value} {k:AV→C9→O R} (S:SimH J β h w) (hl:Looks g h) (hh:JF P g d t tx s x k=some r) (hs:Rep J β h w s vs) (hx:Rep J β h w x vx) :
  ∃ val ups,k val ups=some r∧(UpsFree d h ups→∃ u w',(Builtin.append_ #[t,tx] ty #[vs,vx]).run P w=.ok u w'∧OpDone J β h w ups val u w'):=by
 unfold JF at hh
 split at hh
 ·rename_i el hu
  obtain⟨ht,L⟩:=uc hh
  obtain⟨sz,hsz,h1⟩:=ub L
  obtain⟨by_,hby,h2⟩:=ub h1
  obtain⟨zz,hz,h3⟩:=ub h2
  obtain⟨old,l,h4⟩:=ub h3
  obtain⟨new,us,h5,Y,C,hur⟩:=Y8 (P:=P) S hl h4 hx
  obtain⟨hq,h6⟩:=uc h5
  simp at hq
  obtain⟨q1,q2⟩:=hq
  obtain⟨i,z,V,hiz,rfl,hp,e1,e2⟩:=Ns hz
  have f:i.size=sz:=by simp[Bd,V] at hsz;exact hsz
  have hb':i.bytes=by_:=by simp[qM,V] at hby;exact hby
  have m:=RepCs.one hur C.symm
  have I:RepCs (J (old.2.2.1||new.2.2)) w new.1 (fun j=>us[j]?) 0:=RepCs.keep (J:=J new.2.2) (w:=w) (gd S.jft _ _) (fun _ _=>rfl) (fun _=>rfl) hur
  refine⟨_,_,h6,fun hn=>?_⟩
  replace hn:=hn.nid (by simp[Fn,Ax])
  have hX:∀ q,bs P g el tx s=some q→q=(el,0):=fun q=>tK
  have empty:∀ (A:Option Addr),vs=.slice A 0 0→old.1=[]→old.2.1=0→old.2.2.2=[] →
    ∃ u w',(Builtin.append_ #[t,tx] ty #[vs,vx]).run P w=.ok u w'∧OpDone J β h w (old.2.2.2++[(nid d,some { dead:=false,sealed:=false,pure:=true,taint:=old.2.2.1||new.2.2,sz,cells:=old.1++new.1,ty:=bs P g el tx s })]) (.own (nid d) 0 (old.2.1+new.2.1)) u w':=by
   intro A hA o1 o2 o3
   subst hA
   rw[o1,o2,o3]
   rcases Nat.eq_zero_or_pos new.2.1 with L | L
   ·have hus:us=[]:=by have:=Y.length;rw[L] at this;simpa using this
    subst hus
    have D:=Y.src ht m
    rw[L] at D
    refine⟨_,_,run_append_nothing (P:=P) w t tx ty el i hu V A 0 0 (Nat.le_refl _) vx (by rw[f];exact D),?_⟩
    rw[L]
    have hnc:new.1=[]:=by simpa using C
    exact tJ (sz:=sz) S hn (by simp[hnc])
   ·obtain⟨u,w',U,g2,_⟩:=gc (ty:=ty) (c1:=[]) (olds:=[]) (n1:=0) (cap0:=0) (A:=A) S hn hu V hiz f (by rw[e1,f]) (fun w' _=>by
      cases A with
      | none=>exact run_firstCells_none (P:=P) w' sz 0 0 0
      | some a=>exact run_firstCells_some (P:=P) w' sz 0 a 0 0 [] (by simp) (fun j v K=>by simp at K)) (by simp) Y ht m (by simp[RepCs]) rfl I C (by omega) (by rw[o2] at q1;omega) (by rw[o2,←hb'] at q2;exact q2) hX
    exact⟨u,w',U,g2⟩
  unfold yy at l
  split at l
  ·simp at l;subst l
   rw[Rep] at hs
   exact empty none hs rfl rfl rfl
  ·rename_i c n sz' org
   obtain⟨hz0,h7⟩:=uc l
   simp at hz0 h7;subst hz0;subst h7
   rw[Rep,RepC] at hs
   obtain⟨_,A,cap,K,_,X,_⟩:=hs
   have:=X rfl;subst this
   exact empty A K rfl rfl rfl
  ·rename_i b off n
   obtain⟨y,hy,h7⟩:=ub l
   obtain⟨hc,h8⟩:=uc h7
   simp at hc h8
   obtain⟨c1,c2,c3⟩:=hc
   subst h8;subst c3
   obtain⟨hb,hd⟩:=Cr hl hy
   simp only at *
   rw[Rep] at hs
   obtain⟨y',A,cap,⟨hy1,hmp⟩,rfl,X,hr⟩:=hs
   rw[hb] at hy1;simp at hy1;subst hy1
   have kill:=Step.kill (y:={ y with dead:=true,pure:=true,cells:=[] }) S hb rfl
   have hkn:Ak (Dk h b { y with dead:=true,pure:=true,cells:=[] }) (nid d)=none:=by
    rw[Ae,if_neg (fun e=>by rw[←e,hn] at hb;cases hb)];exact hn
   have F:Ai [(b,none)] h=Dk h b { y with dead:=true,pure:=true,cells:=[] }:=by simp[Ai,hb]
   by_cases hc0:cap=0
   ·have hn0:n=0:=by omega
    subst hc0;subst hn0
    have S':=kill.sim
    rcases Nat.eq_zero_or_pos new.2.1 with L | L
    ·have hus:us=[]:=by have:=Y.length;rw[L] at this;simpa using this
     subst hus
     have D:=Y.src ht m
     rw[L] at D
     refine⟨_,_,run_append_nothing (P:=P) w t tx ty el i hu V A 0 0 (Nat.le_refl _) vx (by rw[f];exact D),?_⟩
     rw[L]
     have hnc:new.1=[]:=by simpa using C
     refine OpDone.after (ups:=[(b,none)]) (by rw[F];exact kill) ?_ (fun _=>Nat.le_refl _)
     rw[F]
     exact tJ (sz:=y.sz) S' hkn (by simp[hnc])
    ·obtain⟨u,w',U,g2,g3⟩:=gc (ty:=ty) (c1:=[]) (olds:=[]) (n1:=0) (cap0:=0) (A:=A) S' hkn hu V hiz f (by rw[e1,f]) (fun w' _=>by
       cases A with
       | none=>exact run_firstCells_none (P:=P) w' y.sz 0 0 0
       | some a=>exact run_firstCells_some (P:=P) w' y.sz 0 a 0 0 [] (by simp) (fun j v K=>by simp at K)) (by simp) Y ht m (by simp[RepCs]) rfl I C (by omega) (by omega) (by rw[←hb'] at q2;exact q2) hX
     refine⟨u,w',U,OpDone.after (ups:=[(b,none)]) (by rw[F];exact kill) ?_ g3⟩
     rw[F];simpa[Md] using g2
   ·rcases hr with hr | ⟨kk,o,rfl,hr⟩
    ·exact absurd hr hc0
    ·rcases hr with hr | ⟨r1,r2,r3⟩
     ·simp[hd] at hr
     ·rcases S.blk b y hb hd hmp with⟨hn',_⟩ | ⟨k',o',cs,ty',fr,hβ',U,g2,g3,g4,g5,g6⟩
      ·rw[r1] at hn';simp at hn'
      ·rw[r1] at hβ';simp at hβ';obtain⟨rfl,rfl⟩:=hβ'
       have hbs:=De U
       have M:=((g4.1 c1).drop off).take (n*y.sz)
       have T:((y.cells.drop off).take (n*y.sz)).length=n*y.sz:=by simp;omega
       by_cases G:n+new.2.1≤cap
       ·
        have hle:(n+new.2.1)*y.sz≤cap*y.sz:=Nat.mul_le_mul_right _ G
        rw[Nat.add_mul] at hle
        have run:=run_append_room_src (P:=P) w t tx ty el i hu V kk (o+off) n cap vx new.2.1 us (by rw[f];exact Y.src ht m) G (fun j hj=>by
          rw[f,Mf U];have:=Y.length;simp;omega) (fun j hj=>by
          rw[f];simp only[World.frozen?,U]
          have h9:=Y.length
          have:=g2.1.at (o+off+n*y.sz+j) (by omega)
          cases fr;simp at this ⊢;omega)
        rw[f] at run
        obtain⟨cs',O,hO⟩:=OnlyBlk.setCells (k:=kk) us (o+off+n*y.sz) w cs U
        have h9:=Y.length
        have B:=Step.move (y:={ y with dead:=true,pure:=true,cells:=[] }) (o':=o+off) (x':={ dead:=false,sealed:=false,pure:=true,taint:=y.taint||new.2.2,sz:=y.sz,cells:=(y.cells.drop off).take (n*y.sz)++new.1,ty:=bs P g el tx (.own b off n) }) S hb hd c2 r1 hn rfl O rfl rfl
         (by rw[List.length_append,T,C];omega) ⟨fun _=>by
          show RepCs (J (y.taint||new.2.2)) w ((y.cells.drop off).take (n*y.sz)++new.1) _ 0
          rw[Bi]
          intro j q hj
          rw[List.getElem?_append,T] at hj
          simp only[Nat.zero_add]
          by_cases hjn:j<n*y.sz
          ·rw[if_pos hjn] at hj
           obtain⟨v,K,hvr⟩:=M.at hj
           refine⟨v,?_,RepC.keep (J:=J y.taint) (w:=w) (JM S.jft _ _) (fun _ _=>rfl) hvr⟩
           rw[hO,if_neg (by omega),Nat.add_assoc];exact K
          ·rw[if_neg hjn] at hj
           obtain⟨v,K,hvr⟩:=I.at hj
           refine⟨v,?_,hvr⟩
           have:j - n*y.sz<us.length:=(List.getElem?_eq_some_iff.1 K).1
           rw[hO,if_pos (by omega),←K];congr 1;omega,fun hp=>by simp at hp⟩ hmp (hty:=Adc (P:=P) (tx:=tx) (n:=n) hy g2.2)
        refine⟨_,_,run,J,(fun b=>if b=nid d then some (kk,o+off) else β b),?_,?_⟩
        ·rw[Bq,F];exact B
        ·rw[Bq,F,Rep]
         refine⟨_,_,cap,⟨by simp[Md,Ai,Ae];rfl,rfl⟩,rfl,G,.inr ⟨kk,o+off,rfl,.inr ⟨by simp,?_,?_⟩⟩⟩
         ·rw[De O.new,O.sz];simp;omega
         ·simp only[List.length_append,T,C,h9,Nat.zero_add];rw[Nat.add_mul];exact Nat.le_refl _
       ·
        obtain⟨olds,l1,l2,l3⟩:=M.list
        obtain⟨u,w',g1',g2',g3'⟩:=gc (ty:=ty) (c1:=(y.cells.drop off).take (n*y.sz)) (olds:=olds) (n1:=n) (cap0:=cap) (A:=some ⟨kk,o+off,none⟩) kill.sim hkn hu V hiz f (by rw[e1,f]) (fun w' he =>
          run_firstCells_some (P:=P) w' y.sz n _ n cap olds (by rw[l1,T]) (fun j v K=>by
           rw[he,Addr.add_mid,Mf U,Nat.add_assoc];exact l2 j v K)) (by rw[l1,T]) Y ht m
          (RepCs.keep (J:=J y.taint) (w:=w) (JM S.jft _ _) (fun _ _=>rfl) (fun _=>rfl) l3) l1.symm I C (by omega) (by omega) (by rw[←hb'] at q2;exact q2) hX
        refine⟨u,w',g1',OpDone.after (ups:=[(b,none)]) (by rw[F];exact kill) ?_ g3'⟩
        rw[F];exact g2'
  ·simp at l
 ·simp at hh
end
end Gx

namespace Gx
open Go
section
variable {R:Type} {r:R} {P:Program} {J J':Bool→Nat→Prop} {β:Bl} {h:Ah} {w w':World} {g:A0}
theorem Step.retaint (S:SimH J β h w) {d:Nat} {x:Blk} (A:Ak h d=some x) (u:x.dead=false) (B:x.sealed=false) (hp:x.pure=true) (v:x.mp=false) (o:Bool) :
  Step J β h w J β (Dk h d { x with taint:=x.taint||o }) w:=by
 have E:Ext J β h w J β (Dk h d { x with taint:=x.taint||o }) w:=by
  refine⟨fun _ _ s=>s,fun o k s=>rfl,fun b z f=>?_,fun b k o t=>Nat.le_refl _⟩
  by_cases e:b=d
  ·subst e;rw[A] at f;simp at f;subst f
   exact⟨{ x with taint:=x.taint||o },⟨by rw[Ae,if_pos rfl],rfl⟩,.inr ⟨u,rfl,rfl,fun _=>rfl⟩⟩
  ·refine⟨z,⟨by rw[Ae,if_neg e];exact f,rfl⟩,?_⟩
   cases u:z.dead
   ·exact .inr ⟨rfl,rfl,rfl,fun _=>rfl⟩
   ·exact .inl rfl
 refine⟨E,⟨S.jlt,S.jft,S.gl.ext E,fun b z f i C=>?_,fun b z f i C=>by
   rw[Ae] at f
   by_cases e:b=d
   ·rw[if_pos e] at f;simp at f;subst f;simp[v] at C
   ·rw[if_neg e] at f
    exact(S.mblk b z f i C).keep rfl (fun k o t=>rfl) (fun _ _ _ _ s=>s),?_⟩,rfl,rfl,rfl,Nat.le_refl _,fun k hk _=>rfl,?_,fun _ _ s=>.inl s⟩
 ·rw[Ae] at f
  by_cases e:b=d
  ·rw[if_pos e] at f;simp at f;subst f;subst e
   rcases S.blk b x A u v with j | ⟨k,o',l,m,n,j,D,F,G,I,K,h7⟩
   ·exact .inl j
   ·refine .inr ⟨k,o',l,m,n,j,D,F,G,CellsRep.ext E ⟨fun _=>?_,fun L=>?_⟩,fun _=>K B,fun L=>by simp[B] at L⟩
    ·exact RepCs.keep (J:=J x.taint) (w:=w) (JM S.jft _ _) (fun _ _=>rfl) (fun _=>rfl) (I.1 hp)
    ·simp[hp] at L
  ·rw[if_neg e] at f
   rcases S.blk b z f i C with j | ⟨k,o,l,m,n,j,D,F,G,I,K,h7⟩
   ·exact .inl j
   ·exact .inr ⟨k,o,l,m,n,j,D,F,G,I.ext E,K,h7⟩
 ·intro b b' z z' k oo M f O T U q t V
  have get:∀ {c y},Ak (Dk h d { x with taint:=x.taint||o }) c=some y→y.dead=false→∃ X,Ak h c=some X∧X.dead=false∧(y.sealed=false→X.sealed=false):=by
   intro c y Y hyd
   rw[Ae] at Y
   by_cases e:c=d
   ·subst e;exact⟨x,A,u,fun _=>B⟩
   ·rw[if_neg e] at Y;exact⟨y,Y,hyd,id⟩
  obtain⟨y1,g1,g2,g3⟩:=get f T
  obtain⟨y2,g4,g5,g6⟩:=get O U
  exact S.sep b b' y1 y2 k oo M g1 g4 g2 g5 (g3 q) t V
 ·rintro k ⟨b,z,o,f,i,q,t⟩ hk
  rw[Ae] at f
  by_cases e:b=d
  ·subst e;exact⟨b,x,o,A,u,B,t⟩
  ·rw[if_neg e] at f
   exact⟨b,z,o,f,i,q,t⟩
theorem ge (c:LA) (off:Nat):Gf c off []=c:=by simp[Gf]
theorem tL {t tx ty:TypeId} {s x:AV} {vs vx:Value} {k:AV→C9→O R} (S:SimH J β h w) (hl:Looks g h) (K:nv P g t s x k=some r) (hs:Rep J β h w s vs) (hx:Rep J β h w x vx) :
  ∃ val ups,k val ups=some r∧∃ u w',(Builtin.copy_ #[t,tx] ty #[vs,vx]).run P w=.ok u w'∧OpDone J β h w ups val u w':=by
 unfold nv at K
 split at K
 ·rename_i el b off n l
  obtain⟨sz,f,h1⟩:=ub K
  obtain⟨y,hy,h2⟩:=ub h1
  obtain⟨new,L,h3,Y,M,v⟩:=Y8 (P:=P) S hl h2 hx
  obtain⟨hc,h4⟩:=uc h3
  simp at hc
  obtain⟨c1,c2,c3⟩:=hc
  subst c3
  obtain⟨hb,U⟩:=Cr hl hy
  have V:=RepCs.one v M.symm
  refine⟨_,_,h4,?_⟩
  rw[Rep] at hs
  obtain⟨y',A,cap,⟨z,C⟩,rfl,hcap,i⟩:=hs
  rw[hb] at z;simp at z;subst z
  have hm:Nat.min new.2.1 n≤new.2.1:=Nat.min_le_left _ _
  have c:=Y.cells w (Nat.min new.2.1 n) (fun _=>rfl) hm
  have d:=Y.len w
  by_cases D:Nat.min new.2.1 n*y.sz=0
  ·
   refine⟨.int .i64 (Nat.min new.2.1 n:Nat),w,?_,J,β,?_,by rw[Rep]⟩
   ·have e:L.take (Nat.min new.2.1 n*y.sz)=[]:=by rw[D];rfl
    rw[e] at c
    cases A with
    | none=>simp[Builtin.copy_,run_underlying l,d,B7 f,c,goInt]
    | some a=>simp[Builtin.copy_,run_underlying l,d,B7 f,c,goInt,storeCells]
   ·have e:(new.1.take (min new.2.1 n*y.sz))=[]:=by
     have:min new.2.1 n*y.sz=0:=D
     rw[this];rfl
    have T:=Step.retaint S hb U c2 c1 C new.2.2
    simp only[Ai]
    rw[e,ge]
    exact T
  ·rcases i with i | ⟨kk,o,rfl,i⟩
   ·have:n=0:=by omega
    subst this;simp at D
   ·rcases i with i | ⟨r1,r2,r3⟩
    ·simp[U] at i
    ·rcases S.blk b y hb U C with⟨X,_⟩ | ⟨k',o',cs,ty',fr,F,g1,g2,g3,g4,g5,g6⟩
     ·rw[r1] at X;simp at X
     ·rw[r1] at F;simp at F;obtain⟨rfl,rfl⟩:=F
      have hle1:Nat.min new.2.1 n*y.sz≤new.2.1*y.sz:=Nat.mul_le_mul_right _ hm
      have hle2:Nat.min new.2.1 n*y.sz≤n*y.sz:=Nat.mul_le_mul_right _ (Nat.min_le_right _ _)
      have hul':=Y.length
      have htl:(L.take (Nat.min new.2.1 n*y.sz)).length=Nat.min new.2.1 n*y.sz:=by rw[List.length_take];omega
      have htl':(new.1.take (Nat.min new.2.1 n*y.sz)).length=Nat.min new.2.1 n*y.sz:=by rw[List.length_take];omega
      obtain⟨cs',O,hO⟩:=OnlyBlk.setCells (k:=kk) (L.take (Nat.min new.2.1 n*y.sz)) (o+off) w cs g1
      have hst:=run_storeCells_cells (P:=P) kk (o+off) (L.take (Nat.min new.2.1 n*y.sz)) 0 w (fun j I=>by
        rw[Nat.add_zero,Mf g1];simp;omega)
       (fun j I=>by
        rw[Nat.add_zero];simp only[World.frozen?,g1]
        have:=g2.1.at (o+off+j) (by omega)
        cases fr;simp at this ⊢;omega) (fun u l=>V u (List.mem_of_mem_take l))
      simp only[Nat.add_zero] at hst
      have B:=Step.set (x':={ y with cells:=Gf y.cells off (new.1.take (Nat.min new.2.1 n*y.sz)),taint:=y.taint||new.2.2 }) S hb U c2 r1 O U c2 rfl (Oo (by omega)) ⟨fun _=>by
       show RepCs (J (y.taint||new.2.2)) w (Gf y.cells off (new.1.take (Nat.min new.2.1 n*y.sz))) _ 0
       rw[Bi]
       intro j q I
       rw[Za (by omega),htl'] at I
       simp only[Nat.zero_add]
       split at I
       ·obtain⟨u,G,i⟩:=(v.take _).at I
        refine⟨u,?_,RepC.keep (J:=J new.2.2) (w:=w) (gd S.jft _ _) (fun _ _=>rfl) i⟩
        rw[hO,if_pos (by omega),List.getElem?_take,if_pos (by omega),←G];congr 1;omega
       ·obtain⟨u,G,i⟩:=(g4.1 c1).at I
        refine⟨u,?_,RepC.keep (J:=J y.taint) (w:=w) (JM S.jft _ _) (fun _ _=>rfl) i⟩
        rw[hO,if_neg (by omega)];exact G,fun hp=>by simp[c1] at hp⟩ C
      refine⟨.int .i64 (Nat.min new.2.1 n:Nat),_,?_,J,β,B,by rw[Rep]⟩
      simp[Builtin.copy_,run_underlying l,d,B7 f,c,goInt,hst]
 ·rename_i el l
  obtain⟨sz,f,h1⟩:=ub K
  obtain⟨new,L,h2,Y,M,v⟩:=Y8 (P:=P) S hl h1 hx
  rw[Rep] at hs;subst hs
  have d:=Y.len w
  have c:=Y.cells w 0 (fun _=>rfl) (Nat.zero_le _)
  simp at c
  refine⟨_,_,h2,.int .i64 0,w,?_,J,β,Step.refl S,by rw[Rep]⟩
  have hm:∀ m:Nat,Nat.min m 0=0:=fun m=>Nat.min_eq_right (Nat.zero_le _)
  simp[Builtin.copy_,run_underlying l,d,B7 f,hm,c,goInt]
 ·simp at K
theorem qf {t ty:TypeId} {s:AV} {vs:Value} {k:AV→C9→O R} (S:SimH J β h w) (hl:Looks g h) (hh:ZG P g t s k=some r) (hs:Rep J β h w s vs) :
  ∃ val ups,k val ups=some r∧∃ u w',(Builtin.clear_ #[t] ty #[vs]).run P w=.ok u w'∧OpDone J β h w ups val u w':=by
 unfold ZG at hh
 split at hh
 ·rename_i el b off n F
  obtain⟨sz,I,h1⟩:=ub hh
  obtain⟨z,hz,h2⟩:=ub h1
  obtain⟨y,hy,h3⟩:=ub h2
  obtain⟨hc,h4⟩:=uc h3
  simp at hc
  obtain⟨c1,c2,c3⟩:=hc
  subst c3
  obtain⟨hb,K⟩:=Cr hl hy
  obtain⟨i,v,hi,hv,rfl,hp,e1,e2⟩:=Ns hz
  have L:i.size=y.sz:=by simp[Bd,hi] at I;exact I
  have M:∀ w,(zeroValue el).run P w=.ok v w:=fun w=>by simp[zeroValue,typeInfo,hi,hv]
  have d:=Dw n (H6 v.cells.toList)
  rw[e2,L] at d
  have U:Builtin.zeroCells v.cells n=madeCells v.cells (n*v.cells.size):=rfl
  have V:(Builtin.zeroCells v.cells n).toList.length=n*y.sz:=by rw[U,Array.length_toList,size_madeCells,e1,L]
  have X:RepCs (J y.taint) w (Db n (H6 v.cells.toList)) (fun j=>(Builtin.zeroCells v.cells n).toList[j]?) 0:=by
   have:=Zd (J:=J y.taint) (w:=w) hp n (n*v.cells.size) (Nat.le_refl _)
   rw[←U] at this
   simpa using this
  have Y:=RepCs.one X (by rw[V,d])
  refine⟨_,_,h4,?_⟩
  rw[Rep] at hs
  obtain⟨y',A,cap,⟨l,m⟩,rfl,hcap,c⟩:=hs
  rw[hb] at l;simp at l;subst l
  by_cases f:n*y.sz=0
  ·have e0:(Builtin.zeroCells v.cells n).toList=[]:=List.eq_nil_of_length_eq_zero (by rw[V,f])
   refine⟨.tuple #[],w,?_,J,β,?_,by rw[Rep];exact⟨[],rfl,by rw[Reps]⟩⟩
   ·cases n with
    | zero=>cases A<;>simp[Builtin.clear_,run_underlying F]
    | succ n =>
     cases A with
     | none=>simp[Builtin.clear_,run_underlying F]
     | some a=>simp[Builtin.clear_,run_underlying F,M,e0,storeCells]
   ·have e:Db n (H6 v.cells.toList)=[]:=List.eq_nil_of_length_eq_zero (by rw[d,f])
    have T:=Step.retaint S hb K c2 c1 m false
    simp only[Ai]
    rw[e,ge]
    simpa using T
  ·rcases c with c | ⟨kk,o,rfl,c⟩
   ·have:n=0:=by omega
    subst this;simp at f
   ·rcases c with c | ⟨r1,r2,r3⟩
    ·simp[K] at c
    ·rcases S.blk b y hb K m with⟨hn',_⟩ | ⟨k',o',cs,ty',fr,C,g1,g2,g3,g4,g5,g6⟩
     ·rw[r1] at hn';simp at hn'
     ·rw[r1] at C;simp at C;obtain⟨rfl,rfl⟩:=C
      obtain⟨cs',O,hO⟩:=OnlyBlk.setCells (k:=kk) (Builtin.zeroCells v.cells n).toList (o+off) w cs g1
      have hst:=run_storeCells_cells (P:=P) kk (o+off) (Builtin.zeroCells v.cells n).toList 0 w (fun j G=>by
        rw[Nat.add_zero,Mf g1];simp;omega)
       (fun j G=>by
        rw[Nat.add_zero];simp only[World.frozen?,g1]
        have:=g2.1.at (o+off+j) (by omega)
        cases fr;simp at this ⊢;omega) (fun u F=>Y u F)
      simp only[Nat.add_zero] at hst
      have B:=Step.set (x':={ y with cells:=Gf y.cells off (Db n (H6 v.cells.toList)) }) S hb K c2 r1 O K c2 rfl (Oo (by omega)) ⟨fun _=>by
       show RepCs (J y.taint) w (Gf y.cells off (Db n (H6 v.cells.toList))) _ 0
       rw[Bi]
       intro j q G
       rw[Za (by omega),d] at G
       simp only[Nat.zero_add]
       split at G
       ·obtain⟨u,D,c⟩:=X.at G
        refine⟨u,?_,c⟩
        rw[hO,if_pos (by omega),←D];congr 1;omega
       ·obtain⟨u,D,c⟩:=(g4.1 c1).at G
        refine⟨u,?_,c⟩
        rw[hO,if_neg (by omega)];exact D,fun hp=>by simp[c1] at hp⟩ m
      refine⟨.tuple #[],_,?_,J,β,B,by rw[Rep];exact⟨[],rfl,by rw[Reps]⟩⟩
      cases n with
      | zero=>simp at f
      | succ n=>simp[Builtin.clear_,run_underlying F,M,hst]
 ·simp at hh
theorem LG:∀ {c:LA} {s:List UInt8} {f:List Value} {J:Nat→Prop},SE c=some s→RepCs J w c (fun j=>f[j]?) 0→c.length=f.length →
  ∃ ns:List Int,f=ns.map (Value.int .u8)∧s=ns.map (fun n=>UInt8.ofNat n.toNat)
 | [],s,f,J,k,q,t=>by
  simp[SE] at k;subst k
  have:f=[]:=by cases f<;>simp_all
  exact⟨[],by simp[this],rfl⟩
 | x::r,s,f,J,k,q,t=>by
  rw[SE] at k
  obtain⟨b,d,F⟩:=ub k
  obtain⟨l,z,B⟩:=ub F
  simp at B;subst B
  cases f with
  | nil=>simp at t
  | cons u f =>
   rw[RepCs] at q
   obtain⟨⟨L,m,C⟩,e⟩:=q
   simp at m;subst m
   unfold Ac0 at d
   split at d
   ·rename_i n
    simp at d;subst d
    rw[RepC] at C;subst C
    have i:RepCs J w r (fun j=>f[j]?) 0:=by
     rw[Bi] at e ⊢
     intro j y G
     obtain⟨v,D,A⟩:=e j y G
     refine⟨v,?_,A⟩
     rw[show 0+1+j=j+1 by omega] at D
     simpa using D
    obtain⟨ns,I,K⟩:=LG z i (by simpa using t)
    exact⟨n::ns,by simp[I],by simp[K]⟩
   ·simp at d
theorem Add:∀ (ns:List Int) (s:List UInt8),(ns.foldl (fun r n=>r.push (UInt8.ofNat n.toNat)) (⟨⟨s⟩⟩:ByteArray))=⟨⟨s++ns.map fun n=>UInt8.ofNat n.toNat⟩⟩
 | [],s=>by simp
 | n::r,s=>by
  rw[List.foldl_cons]
  have:(⟨⟨s⟩⟩:ByteArray).push (UInt8.ofNat n.toNat)=⟨⟨s++[UInt8.ofNat n.toNat]⟩⟩:=by
   simp[ByteArray.push]
  rw[this,Add r];simp
theorem tM {d:Nat} {src dst:TypeId} {x:AV} {vx:Value} {k:AV→C9→O R} (S:SimH J β h w) (hl:Looks g h) (c:nw P g d src dst x k=some r) (f:Rep J β h w x vx) :
  ∃ val ups,k val ups=some r∧(UpsFree d h ups→∃ u w',(convert src dst vx).run P w=.ok u w'∧OpDone J β h w ups val u w'):=by
 unfold nw at c
 split at c
 ·rename_i kd v
  split at c
  ·rename_i kd' n
   rw[Rep] at f;subst f
   obtain⟨z,K⟩:=uc c
   obtain⟨s,m⟩:=Option.isSome_iff_exists.1 z
   refine⟨_,_,K,fun _=>⟨.int kd (kd.wrap n),w,?_,J,β,Step.refl S,by rw[Rep]⟩⟩
   cases s<;>simp[convert,run_underlying m,run_underlying v,Conv.intToInt]
  ·simp at c
 ·rename_i v
  split at c
  ·rename_i m
   split at c
   ·rename_i s
    rw[Rep] at f;subst f
    refine⟨_,_,c,fun _=>⟨.string ⟨⟨s⟩⟩,w,?_,J,β,Step.refl S,by rw[Rep]⟩⟩
    simp[convert,run_underlying m,run_underlying v]
   ·simp at c
  ·rename_i t m
   split at c
   ·rename_i L
    split at c
    ·simp at c
    ·rename_i hns
     obtain⟨q,hq,K⟩:=ub c
     obtain⟨s,hs',h2⟩:=ub K
     obtain⟨us,Y,hul,hur⟩:=cB (P:=P) S hl hq f
     obtain⟨ns,e1,e2⟩:=LG hs' hur hul
     refine⟨_,_,h2,fun _=>⟨.string ⟨⟨s⟩⟩,w,?_,J,β,Step.refl S,by rw[Rep]⟩⟩
     have hv:∃ A n cap,vx=.slice A n cap:=by
      unfold gT at hq
      split at hq
      ·rw[Rep] at f;exact⟨_,_,_,f⟩
      ·rw[Rep,RepC] at f;obtain⟨_,A,cap,rfl,_⟩:=f;exact⟨_,_,_,rfl⟩
      ·rw[Rep] at f;obtain⟨_,A,cap,_,rfl,_⟩:=f;exact⟨_,_,_,rfl⟩
      ·exact absurd rfl (hns _)
      ·simp at hq
     obtain⟨A,n,cap,rfl⟩:=hv
     have M:q.2.1=n:=by have:=Y.len w;simpa[Builtin.lenOf] using this.symm
     have F:=Y.cells w n (fun _=>rfl) (by omega)
     have T:=Y.length
     rw[M] at T
     rw[show us.take (n*1)=us by rw[←T,List.take_length]] at F
     have B:(convert src dst (.slice A n cap)).run P w=(Conv.bytesToString (.slice A n cap)).run P w:=by
      cases A<;>simp[convert,run_underlying m,run_underlying v,run_underlying L]
     rw[B]
     cases A with
     | none =>
      rw[run_firstCells_none] at F
      injection F with hc1 _
      have hus:us=[]:=by simpa using hc1.symm
      rw[hus] at e1
      have U:ns=[]:=by simpa using e1.symm
      rw[U] at e2
      simp at e2;subst e2
      simp[Conv.bytesToString];rfl
     | some a =>
      simp only[Builtin.firstCells,Nat.mul_one] at F
      rw[e1] at F
      rw[run_bytesToString w a n cap ns F,e2]
      have:=Add ns []
      simp at this
      rw[←this];rfl
   ·simp at c
  ·simp at c
 ·rename_i t v
  split at c
  ·rename_i e' b off n m L
   obtain⟨i,K⟩:=uc c
   simp only[Bool.and_eq_true] at i
   obtain⟨i,V⟩:=i
   have V:1≤n:=by simpa using V
   have i:=Nat.eq_of_beq_eq_true i
   subst i
   have hee:e'=t:=by rw[m] at v;simpa using v
   subst hee
   obtain⟨x,l,h2⟩:=ub K
   obtain⟨hsl,h3⟩:=wn h2
   obtain⟨l,hd⟩:=Cr hl l
   refine⟨_,_,h3,fun _=>?_⟩
   have hx':=f
   rw[Rep] at f
   obtain⟨x0,A,cap,⟨C,X⟩,rfl,hle,G⟩:=f
   rw[l] at C;simp at C;subst C
   rcases G with G | ⟨k1,o1,rfl,G⟩
   ·omega
   ·rcases G with G | ⟨hβ,_,_⟩
    ·simp[hd] at G
    ·rcases S.blk b x l hd X with⟨I,_⟩ | ⟨k2,o2,cs,ty,fr,I,h5,h6,h7,h8,h9,h10⟩
     ·rw[hβ] at I;simp at I
     ·rw[hβ] at I;simp at I;obtain⟨rfl,rfl⟩:=I
      have hsh:w.shape? k1=some (ty,cs.size):=by simp[World.shape?,h5]
      have hnew:∃ D,(w.freeze ⟨k1,cs.size,none⟩ 1).heap[k1]?=some (.cells cs ty D)∧FrOk cs.size D:=by
       obtain⟨lo,hi⟩:=fr
       refine⟨if lo==hi then (cs.size,cs.size+1) else (min lo cs.size,max hi (cs.size+1)),?_,?_⟩
       ·simp[World.freeze,Array.getElem?_modify,h5]
       ·by_cases e:lo=hi
        ·simp[e,FrOk]
        ·have h11:cs.size≤lo:=by rcases h6 with h6 | h6;exact absurd h6 e;exact h6
         simp[e,FrOk];omega
      obtain⟨D,hf1,hf2⟩:=hnew
      have A:=Step.mark S l hd hsl hβ h5 hf1 hf2 (fun j y=>by
       simp only[World.freeze]
       rw[if_neg (by decide)]
       show(w.heap.modify k1 _)[j]?=_
       rw[Array.getElem?_modify,if_neg (fun e=>y e.symm)]) (by simp[World.freeze]) rfl rfl rfl X
      refine⟨_,w.freeze ⟨k1,cs.size,none⟩ 1,?_,J,β,A,Rep.ext A.ext hx'⟩
      simp[convert,run_underlying m,run_underlying L,markStringish,hsh]
  ·rename_i s m L
   rw[Rep] at f;subst f
   refine⟨_,_,c,fun M=>⟨_,_,run_bytes_of_string (P:=P) w src dst t ⟨⟨s⟩⟩ m v L,?_⟩⟩
   replace M:=M.nid (by simp[Md,Ax])
   have hsz:(⟨⟨s⟩⟩:ByteArray).size=s.length:=rfl
   have hcap:s.length≤grownCap w s.length 0 t:=by unfold grownCap;simp[Question.cut]
   rw[hsz]
   obtain⟨J',β',B1,B2⟩:=SR (d:=d) (n:=s.length) (cap:=grownCap w s.length 0 t) (sz:=1) (ty:=t) (fr:=((bytesRow ⟨⟨s⟩⟩ (grownCap w s.length 0 t)).size,(bytesRow ⟨⟨s⟩⟩ (grownCap w s.length 0 t)).size+1))
    (x:={ dead:=false,sealed:=false,pure:=true,taint:=false,sz:=1,cells:=s.map fun b=>.int .u8 (b.toNat:Int) })
    (cs:=bytesRow ⟨⟨s⟩⟩ (grownCap w s.length 0 t)) (Step.drew S).sim M rfl rfl rfl (FrOk.un (.inr (Nat.le_refl _))) (by simp) (by simp[bytesRow,hsz];omega) hcap
    ⟨fun _=>by
     show RepCs (J false) w.drew (s.map fun b=>.int .u8 (b.toNat:Int)) _ 0
     rw[Bi]
     intro j q y
     rw[List.getElem?_map] at y
     cases hb:s[j]? with
     | none=>rw[hb] at y;simp at y
     | some b =>
      rw[hb] at y;simp at y;subst y
      refine⟨.int .u8 (b.toNat:Int),?_,by rw[RepC]⟩
      have hlt:j<s.length:=(List.getElem?_eq_some_iff.1 hb).1
      simp only[Nat.zero_add,bytesRow]
      rw[Array.getElem?_append_left (by simp;exact hlt)]
      simp[hb],fun hp=>by simp at hp⟩
   exact⟨J',β',(Step.drew S).trans B1 (fun _ k _ _=>by rw[←Ze];exact Lc _ _ k),B2⟩
  ·simp at c
 ·simp at c
theorem gf {t:TypeId} {n:Nat} (h:Bd P t=some n):∃ j,P.info? t=some j∧j.size=n:=by
 unfold Bd at h
 cases hq:P.info? t with
 | none=>rw[hq] at h;cases h
 | some j=>rw[hq] at h;simp at h;exact⟨j,rfl,h⟩
theorem qg {d:Nat} {src dst:TypeId} {x:AV} {vx:Value} {k:AV→C9→O R} (S:SimH J β h w) (D:Looks g h) (c:ZH P g d src dst x k=some r) (s:Rep J β h w x vx) :
  ∃ val ups,k val ups=some r∧(UpsFree d h ups→∃ u w',(convert src dst vx).run P w=.ok u w'∧OpDone J β h w ups val u w'):=by
 unfold ZH at c
 split at c
 ·rename_i F
  split at c
  ·rename_i t b off G
   obtain⟨n,I,c⟩:=ub c
   obtain⟨y,K,c⟩:=ub c
   obtain⟨A,c⟩:=uc c
   simp at A
   obtain⟨m,f⟩:=Cr D K
   have v:=s
   rw[Rep] at s
   obtain⟨x1,L,o1,⟨z,gm⟩,rfl,i⟩:=s
   rw[m] at z;simp at z;subst z
   rcases i with i | i
   ·rw[i] at f;cases f
   obtain⟨j,M,B⟩:=gf I
   rcases S.blk b y m f gm with⟨l,C⟩ | ⟨V,o2,cs,ty,fr,l,C,T,X,Y⟩
   ·rw[i] at l;cases l
   ·rw[i] at l;simp at l;obtain⟨rfl,rfl⟩:=l
    refine⟨_,_,c,fun _=>⟨_,w,Lib.run_to_unsafe w ⟨L,o1+off,none⟩ G F M (by rw[B];exact fun e=>by rw[e] at A;simp at A) (e:=ty) (cells:=cs.size) (by simp[World.shape?,C]) (by show o1+off<_;omega),J,β,Step.refl S,v⟩⟩
  ·cases c
 ·rename_i u F
  split at c
  ·rename_i b off G
   obtain⟨n,I,c⟩:=ub c
   obtain⟨y,K,c⟩:=ub c
   obtain⟨q,hq,c⟩:=ub c
   obtain⟨A,c⟩:=uc c
   simp at A
   obtain⟨m,f⟩:=Cr D K
   have v:=s
   rw[Rep] at s
   obtain⟨x1,L,o1,⟨z,gm⟩,rfl,i⟩:=s
   rw[m] at z;simp at z;subst z
   rcases i with i | i
   ·rw[i] at f;cases f
   obtain⟨j,M,B⟩:=gf I
   rcases S.blk b y m f gm with⟨l,C⟩ | ⟨V,o2,cs,ty,fr,l,C,T,X,Y⟩
   ·rw[i] at l;cases l
   ·rw[i] at l;simp at l;obtain⟨rfl,rfl⟩:=l
    obtain⟨rfl,rfl,U⟩:=T.2 q.1 q.2 hq
    have U:cs.size=q.2:=by omega
    refine⟨_,_,c,fun _=>⟨_,w,Lib.run_from_unsafe w ⟨L,0+off,none⟩ G F M (e:=q.1) (cells:=cs.size) (by simp[World.shape?,C]) (by show liesAt P P.depth q.1 (cs.size/_) (0+off) u 1=true;rw[U,Nat.zero_add];exact A.2.2),J,β,Step.refl S,v⟩⟩
  ·cases c
 ·exact tM S D c s
end
end Gx

namespace Gx
open Go
section
variable {R:Type} {r:R} {P:Program} {J J':Bool→Nat→Prop} {β:Bl} {h:Ah} {w w':World} {g:A0}
theorem ws {fn : Func} (b : fn.name = "internal/abi.NoEscape") : Extern.find fn = some Extern.AbiNoEscape.same := by
 have l1 : Extern.allGenericRows.lookup "internal/abi.NoEscape" = none := by kernel_rfl
 have l2 : Extern.allTypedRows.lookup "internal/abi.NoEscape" = none := by kernel_rfl
 have l3 : Extern.allRows.lookup "internal/abi.NoEscape" = some Extern.AbiNoEscape.same := by kernel_rfl
 unfold Extern.find
 simp only[b,l1,l2,l3]
 rfl
theorem gg {fn : Func} (b : fn.name = "internal/abi.NoEscape") (c : fn.origin = "") : Extern.findNext fn = none := by
 have l1 : Extern.allNextRows.lookup "internal/abi.NoEscape" = none := by kernel_rfl
 have l2 : Extern.allNextRows.lookup "" = none := by kernel_rfl
 unfold Extern.findNext
 simp only[b,c,l1,l2]
 rfl
theorem zj {f:Nat} (h:Ac7 P f=true) (x:Value) (w:World):(callFunc f #[x]).run P w=.ok (.value x) w:=by
 unfold Ac7 at h
 split at h
 ·rename_i fn d
  simp only[Bool.and_eq_true] at h
  obtain⟨e,b,c⟩:=h
  have b : fn.name = "internal/abi.NoEscape" := by simpa using b
  have c : fn.origin = "" := by simpa using c
  rw[run_callFunc_extern d (by rw[b];decide) e (gg b c) (ws b)]
  rfl
 ·cases h
theorem wt {x:AV} {b:UInt8} (h:gD x=some b):x=.int .u8 (b.toNat:Int):=by
 unfold gD at h
 split at h
 ·rename_i n
  obtain⟨d,c⟩:=uc h
  simp at c;subst c
  have:=of_decide_eq_true d
  rw[this]
 ·cases h
theorem ER:∀ {c:LA} {s:List UInt8},O8 c=some s→c=s.map fun b=>.int .u8 (b.toNat:Int)
 | [],s,h=>by simp[O8] at h;subst h;rfl
 | x::r,s,h=>by
  rw[O8] at h
  obtain⟨b,d,h⟩:=ub h
  obtain⟨l,e,h⟩:=ub h
  simp at h;subst h
  rw[wt d,ER e];rfl
theorem ZP {d:Nat} {ts:Array TypeId} {ty:TypeId} {x:AV} {vx:Value} {k:AV→C9→O R} (S:SimH J β h w) (q:Looks g h) (c:No g x k=some r) (j:Rep J β h w x vx) :
  ∃ val ups,k val ups=some r∧(UpsFree d h ups→∃ u w',(Builtin.unsafeSliceData_ ts ty #[vx]).run P w=.ok u w'∧OpDone J β h w ups val u w'):=by
 unfold No at c
 split at c
 ·rw[Rep] at j;subst j
  exact⟨_,_,c,fun _=>⟨.pointer none,w,rfl,J,β,Step.refl S,by rw[Rep]⟩⟩
 ·rename_i b off n
  obtain⟨y,s,c⟩:=ub c
  obtain⟨m,c⟩:=uc c
  have m:0<n:=by simpa using m
  obtain⟨f,i⟩:=Cr q s
  rw[Rep] at j
  obtain⟨z,A,cap,⟨l,gm⟩,rfl,v,e⟩:=j
  rw[f] at l;simp at l;subst l
  rcases e with e | ⟨t,o1,rfl,e⟩
  ·omega
  rcases e with e | ⟨e,_⟩
  ·rw[e] at i;cases i
  refine⟨_,_,c,fun _=>⟨_,w,Lib.run_unsafeSliceData_row w ts ty _ n cap (by omega),J,β,Step.refl S,?_⟩⟩
  rw[Rep]
  exact⟨y,t,o1,⟨f,gm⟩,rfl,.inr e⟩
 ·cases c
theorem ZQ {d:Nat} {t it ty:TypeId} {x n:AV} {vx vn:Value} {k:AV→C9→O R} (S:SimH J β h w) (hl:Looks g h) (c:Np P g t x n k=some r) (K:Rep J β h w x vx) (L:Rep J β h w n vn) :
  ∃ val ups,k val ups=some r∧(UpsFree d h ups→∃ u w',(Builtin.unsafeString_ #[t,it] ty #[vx,vn]).run P w=.ok u w'∧OpDone J β h w ups val u w'):=by
 unfold Np at c
 split at c
 ·rename_i n
  obtain⟨U,c⟩:=uc c
  have U:n=0:=by simpa using U
  subst U
  simp only[Rep] at K L;subst K L
  exact⟨_,_,c,fun _=>⟨_,w,Lib.run_unsafeString_none w t it ty none,J,β,Step.refl S,by rw[Rep];rfl⟩⟩
 ·rename_i b off n
  obtain⟨y,hy,c⟩:=ub c
  obtain⟨q,hq,c⟩:=ub c
  split at c
  ·rename_i e he
   obtain⟨hc,c⟩:=uc c
   obtain⟨s,hs,hk⟩:=ub c
   simp only[Bool.and_eq_true,Bool.not_eq_true',decide_eq_true_eq] at hc
   obtain⟨c1,V,c3,c4,X,c6,c7,c8⟩:=hc
   have c1:=Nat.eq_of_beq_eq_true c1
   have V:=Nat.eq_of_beq_eq_true V
   have X:=Nat.eq_of_beq_eq_true X
   obtain⟨i,l⟩:=Cr hl hy
   simp only[Rep] at K L;subst L
   obtain⟨z,D,o1,⟨Y,gm⟩,rfl,v⟩:=K
   rw[i] at Y;simp at Y;subst Y
   rcases v with v | v
   ·rw[v] at l;cases l
   rcases S.blk b y i l gm with⟨B,C⟩ | ⟨k2,o2,cs,ty2,fr,B,C,e3,e4,e5,e6⟩
   ·rw[v] at B;cases B
   rw[v] at B;simp at B;obtain⟨rfl,rfl⟩:=B
   obtain⟨rfl,rfl,_⟩:=e3.2 q.1 q.2 hq
   subst X
   have hsl:s.length=n.toNat:=by
    have:=congrArg List.length (ER hs)
    simp at this;omega
   have hsn:(n:Int)=(s.length:Int):=by omega
   subst hsn
   refine⟨_,_,hk,fun _=>⟨.string ⟨s.toArray⟩,w.freeze ⟨D,0,none⟩ s.length,?_,J,β,?_,by rw[Rep]⟩⟩
   ·refine Lib.run_unsafeString_row w t it ty q.1 (by rw[c1];exact he) (by rw[c1];exact V) D cs.size (by simp[World.shape?,C]) s (by intro e;subst e;simp at c6) (by omega) (by omega) fun j x M=>?_
    have hjl:j<s.length:=(List.getElem?_eq_some_iff.1 M).1
    have A:y.cells[j]?=some (.int .u8 (x.toNat:Int)):=by
     have T:(y.cells.take (s.length:Int).toNat)[j]?=some (.int .u8 (x.toNat:Int)):=by rw[ER hs];simp[M]
     rw[List.getElem?_take] at T
     split at T
     ·exact T
     ·cases T
    obtain⟨u,m,F⟩:=Bi.1 (e5.1 c3) j _ A
    rw[RepC] at F;subst F
    have m:cs[j]?=some (.int .u8 (x.toNat:Int)):=by simpa using m
    by_cases ej:j=0
    ·subst ej;simp[World.cell?,Addr.add,C,m]
    ·simp[World.cell?,Addr.add,C,ej,m]
   ·have ap:Ai [(b,none)] h=Dk h b { y with dead:=true,pure:=true,cells:=[] }:=by simp[Ai,i]
    rw[ap]
    have f:s.length≠0:=by omega
    refine Step.giveUp S i l c4 v gm rfl (fun j M=>?_) (by simp[World.freeze,f]) (by simp[World.freeze,f]) (by simp[World.freeze,f]) (by simp[World.freeze,f]) ?_
    ·simp only[World.freeze]
     rw[if_neg f]
     show(w.heap.modify D _)[j]?=_
     rw[Array.getElem?_modify,if_neg (fun e=>M e.symm)]
    ·obtain⟨lo,hi⟩:=fr
     have G:∃ I,(w.freeze ⟨D,0,none⟩ s.length).heap[D]?=some (.cells cs q.1 I):=⟨_,by simp[World.freeze,f,Array.getElem?_modify,C];rfl⟩
     obtain⟨I,hf⟩:=G
     rw[De C,De hf];exact Nat.le_refl _
  ·cases c
 ·cases c
end
end Gx

namespace Gx
open Go
def Zf (CR:AV→Value→Prop) (c:LA) (cs:List Value):Prop:=c.length=cs.length∧∀ (j:Nat) (x:AV) (u:Value),c[j]?=some x→cs[j]?=some u→CR x u
def PartsRel (CR:AV→Value→Prop):List (Nat×LA)→List (Nat×Value)→Prop
 | [],vs=>vs=[]
 | (i,c)::r,vs=>∃ v vs',vs=(i,v)::vs'∧Zf CR c v.cells.toList∧PartsRel CR r vs'
theorem zF:∀ (vs:List Value) (n off:Nat) (cells:Array Value) (j:Nat),
  ((vs.zipIdx n).foldl (fun (cs:Array Value) (p:Value×Nat)=>cs.setIfInBounds (off+p.2) p.1) cells)[j]?=if off+n≤j∧j<off+n+vs.length∧j<cells.size then vs[j - (off+n)]? else cells[j]?
 | [],n,off,cells,j=>by simp;omega
 | v::r,n,off,cells,j=>by
  rw[List.zipIdx_cons,List.foldl_cons,zF r (n+1) off]
  simp only[Array.size_setIfInBounds,List.length_cons]
  by_cases c:j=off+n
  ·subst c
   rw[if_neg (by omega)]
   by_cases b:off+n<cells.size
   ·rw[if_pos (by omega)];simp[b]
   ·rw[if_neg (by omega)];simp[b]
  ·by_cases b:off+(n+1)≤j∧j<off+(n+1)+r.length∧j<cells.size
   ·rw[if_pos b,if_pos (by omega),show j - (off+n)=(j - (off+(n+1)))+1 by omega];simp
   ·rw[if_neg b,if_neg (by omega),Array.getElem?_setIfInBounds_ne (by omega)]
theorem ST:∀ (vs:List Value) (n off:Nat) (cells:Array Value),((vs.zipIdx n).foldl (fun (cs:Array Value) (p:Value×Nat)=>cs.setIfInBounds (off+p.2) p.1) cells).size=cells.size
 | [],_,_,_=>rfl
 | v::r,n,off,cells=>by rw[List.zipIdx_cons,List.foldl_cons,ST r];simp
theorem W8 {CR:AV→Value→Prop} {place:Nat→Option (Nat×Nat)}:∀ {parts:List (Nat×LA)} {vparts:List (Nat×Value)} {c c':LA} {cs:Array Value},PartsRel CR parts vparts→Zf CR c cs.toList →
  Ki place parts c=some c'→∃ b,Instr.fill place cs vparts=some b∧Zf CR c' b.toList
 | [],vparts,c,c',cs,f,m,k=>by
  rw[PartsRel] at f;subst f
  simp[Ki] at k;subst k
  exact⟨cs,rfl,m⟩
 | (i,vs)::r,vparts,c,c',cs,f,m,k=>by
  rw[PartsRel] at f
  obtain⟨v,z,rfl,t,A⟩:=f
  rw[Ki] at k
  obtain⟨p,s,B⟩:=ub k
  obtain⟨y,C⟩:=uc B
  simp at y
  obtain⟨K,L⟩:=y
  have M:vs.length=v.cells.size:=by have:=t.1;simpa using this
  have D:c.length=cs.size:=by have:=m.1;simpa using this
  have l:p.1+vs.length≤c.length:=by omega
  have key:Zf CR (setCells c p.1 vs) (v.cells.zipIdx.foldl (fun (cs:Array Value) (q:Value×Nat)=>cs.setIfInBounds (p.1+q.2) q.1) cs).toList:=by
   have d:v.cells.zipIdx.foldl (fun (cs:Array Value) (q:Value×Nat)=>cs.setIfInBounds (p.1+q.2) q.1) cs=(v.cells.toList.zipIdx 0).foldl (fun (cs:Array Value) (q:Value×Nat)=>cs.setIfInBounds (p.1+q.2) q.1) cs:=by
    rw[←Array.foldl_toList];simp
   rw[d]
   refine⟨by rw[K2 l,D];exact(ST _ 0 _ _).symm,fun j x u n e=>?_⟩
   rw[Zb l] at n
   rw[Array.getElem?_toList,zF] at e
   simp only[Nat.add_zero,Array.length_toList] at e
   split at n
   ·rename_i F
    rw[if_pos (by omega)] at e
    exact t.2 _ x u n e
   ·rename_i F
    rw[if_neg (by omega)] at e
    exact m.2 j x u n (by simpa using e)
  obtain⟨b,G,I⟩:=W8 A key C
  refine⟨b,?_,I⟩
  rw[Instr.fill,s]
  have:¬ (v.cells.size≠p.2||p.1+v.cells.size>cs.size)=true:=by simp;omega
  simp only[this]
  exact G
section
variable {R:Type} {r:R} {P:Program} {J J':Bool→Nat→Prop} {β:Bl} {h:Ah} {w w':World} {g:A0}
def RepParts (J:Bool→Nat→Prop) (β:Bl) (h:Ah) (w:World):List (Nat×AV)→List (Nat×Value)→Prop
 | [],vs=>vs=[]
 | (i,x)::r,vs=>∃ v vs',vs=(i,v)::vs'∧Rep J β h w x v∧RepParts J β h w r vs'
theorem RepParts.ext {β':Bl} {h':Ah} (E:Ext J β h w J' β' h' w'):∀ {ps:List (Nat×AV)} {vs:List (Nat×Value)},RepParts J β h w ps vs→RepParts J' β' h' w' ps vs
 | [],_,b=>b
 | (i,x)::r,vs,b=>by
  rw[RepParts] at b ⊢
  obtain⟨v,c,e,d,f⟩:=b
  exact⟨v,c,e,Rep.ext E d,RepParts.ext E f⟩
theorem PartsRel.mono {CR CR':AV→Value→Prop} (f:∀ x u,CR x u→CR' x u):∀ {ps:List (Nat×LA)} {vs:List (Nat×Value)},PartsRel CR ps vs→PartsRel CR' ps vs
 | [],_,b=>b
 | (i,c)::r,vs,b=>by
  rw[PartsRel] at b ⊢
  obtain⟨v,d,e,k,l⟩:=b
  exact⟨v,d,e,⟨k.1,fun j x u m n=>f _ _ (k.2 j x u m n)⟩,PartsRel.mono f l⟩
theorem Oq {J:Nat→Prop} {c:LA} {d:List Value} (e:RepCs J w c (fun j=>d[j]?) 0) (f:c.length=d.length):Zf (RepC J w) c d :=
 ⟨f,fun j x u i k=>by
  obtain⟨m,b,l⟩:=e.at i
  rw[k] at b;simp at b;subst b;exact l⟩
theorem LH {J:Nat→Prop} {c:LA} {b:List Value} (d:Zf (RepC J w) c b):RepCs J w c (fun j=>b[j]?) 0:=by
 rw[Bi]
 intro j x e
 have:j<b.length:=by rw[←d.1];exact(List.getElem?_eq_some_iff.1 e).1
 exact⟨b[j],by simp[this],d.2 j x _ e (List.getElem?_eq_getElem this)⟩
theorem BI:∀ {ps:List (Nat×AV)} {vs:List (Nat×Value)} {q:List (Nat×LA)} {ups:C9} {org:Bool} {J:Bool→Nat→Prop} {h:Ah},SimH J β h w→LooksS g h→W1 g ps=some (q,ups,org)→RepParts J β h w ps vs →
  ∃ J',Step J β h w J' β (Ai ups h) w∧PartsRel (RepC (J' org) w) q vs∧LooksS g (Ai ups h)∧∀ b,Ax ups b=true→∃ x,g b=some x
 | [],vs,q,ups,org,J,h,S,j,c,d=>by
  simp[W1] at c;obtain⟨rfl,rfl,rfl⟩:=c
  rw[RepParts] at d
  exact⟨J,Step.refl S,by rw[PartsRel];exact d,j,fun b e=>by simp[Ax] at e⟩
 | (i,x)::r,vs,q,ups,org,J,h,S,j,c,d=>by
  rw[W1] at c
  obtain⟨⟨c1,u1,o1⟩,C,G⟩:=ub c
  obtain⟨⟨K,u2,o2⟩,hq,D⟩:=ub G
  simp at D
  obtain⟨rfl,rfl,rfl⟩:=D
  rw[RepParts] at d
  obtain⟨v,l,rfl,m,n⟩:=d
  obtain⟨J1,A,hA,f,s⟩:=BH S j C m
  obtain⟨J2,B,hB,t,y⟩:=BI A.sim s hq (RepParts.ext A.ext n)
  refine⟨J2,by rw[Bq];exact A.trans B (fun _ _ _ _=>Nat.le_refl _),?_,by rw[Bq];exact t,fun b e=>?_⟩
  ·rw[PartsRel]
   refine⟨v,l,rfl,Oq (RepCs.keep (J:=J1 o1) (w:=w) (fun k z=>JM B.sim.jft _ _ k (B.ext.jsub _ k z)) (fun _ _=>rfl) (fun _=>rfl) hA) f,?_⟩
   exact PartsRel.mono (fun x u I=>RepC.keep (J:=J2 o2) (w:=w) (fun k z=>gd B.sim.jft _ _ k z) (fun _ _=>rfl) I) hB
  ·rw[Fn] at e
   cases F:Ax u1 b with
   | true=>exact mX C b F
   | false=>rw[F] at e;exact y b (by simpa using e)
theorem W9 {place:Nat→Option (Nat×Nat)} {k:LA→O R}:∀ (ps:List (Nat×LA)) (c:LA),gU place ps c k=(Ki place ps c).bind k
 | [],c=>rfl
 | (i,vs)::r,c=>by
  rw[gU,Ki,Option.bind_assoc]
  congr 1;funext p
  rw[W9 r]
  cases (Nat.beq vs.length p.2&&Nat.ble (p.1+p.2) c.length)<;>rfl
theorem SU {d len:Nat} {t:TypeId} {ps:List (Nat×AV)} {vs:List (Nat×Value)} {k:AV→C9→O R} (S:SimH J β h w) (M:Looks g h) (x:Lo P g d t len ps k=some r) (hv:RepParts J β h w ps vs) :
  ∃ val ups,k val ups=some r∧(UpsFree d h ups→∃ u w',(Instr.buildSlice t len vs.toArray).run P w=.ok u w'∧OpDone J β h w ups val u w'):=by
 unfold Lo at x
 split at x
 ·rename_i el T
  obtain⟨sz,b,h1⟩:=ub x
  obtain⟨zz,hz,h2⟩:=ub h1
  obtain⟨⟨q,u1,o1⟩,hq,h3⟩:=ub h2
  obtain⟨hb,U⟩:=uc h3
  rw[W9] at U
  obtain⟨cells,V,h5⟩:=ub U
  simp at hb
  obtain⟨i,z,X,y,rfl,B,e1,Y⟩:=Ns hz
  have e:i.size=sz:=by simp[Bd,X] at b;exact b
  refine⟨_,_,h5,fun C=>?_⟩
  replace C:=C.nid (by simp[Fn,Md,Ax])
  obtain⟨J1,A,hA,_,m⟩:=BI S M.s hq hv
  have D:=Zd (w:=w) (J:=J1 o1) B len (len*sz) (by rw[e1,e];exact Nat.le_refl _)
  have F:Zf (RepC (J1 o1) w) (Db len (H6 z.cells.toList)) (madeCells z.cells (len*sz)).toList:=by
   refine Oq (RepCs.keep (J:=J1 o1) (w:=w) (fun _ G=>G) (fun _ _=>rfl) (fun j=>by simp) D) ?_
   rw[Dw,Y,e,Array.length_toList,size_madeCells]
  obtain⟨f,f1,f2⟩:=W8 hA F V
  have n:cells.length=len*sz:=by
   have:∀ {ps:List (Nat×LA)} {c c':LA},Ki (fun i=>some (i*sz,sz)) ps c=some c'→c'.length=c.length:=by
    intro ps
    induction ps with
    | nil=>intro c c' v;simp[Ki] at v;rw[v]
    | cons p r ih =>
     intro c c' v
     obtain⟨i,vs⟩:=p
     rw[Ki] at v
     obtain⟨p,hpl,g1⟩:=ub v
     obtain⟨gb,g2⟩:=uc g1
     simp at gb
     rw[ih g2,K2 (by omega)]
   rw[this V,Dw,Y,e]
  have hcs:f.size=len*sz:=by have:=f2.1;simp at this;omega
  refine⟨.slice (some ⟨w.heap.size,0,none⟩) len len,w.alloc (.cells f el),?_,?_⟩
  ·have l:Instr.fill (fun i=>some (i*sz,sz)) ((Array.range (len*sz)).map (z.cells[·%z.cells.size]!)) vs=some f:=f1
   have I:¬ (16777216<len*sz):=by omega
   by_cases K:len*sz=0
   ·have L:∀ (a:Array Value),(Array.range (len*sz)).map (a[·%a.size]!)=#[]:=fun a=>by rw[K];simp[Array.range_zero']
    rw[L] at l
    simp[Instr.buildSlice,run_underlying T,B7 b,K,Array.range_zero',l,newRow]
   ·simp[Instr.buildSlice,run_underlying T,B7 b,I,K,zeroValue,typeInfo,X,y,l,newRow]
  ·refine OpDone.after A (SR (sz:=sz) (fr:=(0,0)) A.sim (zE M m C) rfl rfl rfl FrTy.un0 n (by omega) (Nat.le_refl _) ⟨fun _=>?_,fun B=>by simp at B⟩) (Lc _ _)
   have:=LH f2
   exact RepCs.keep (J:=J1 o1) (w:=w) (fun _ G=>G) (fun _ _=>rfl) (fun j=>by simp) this
 ·simp at x
theorem QA {t:TypeId} {ps:List (Nat×AV)} {k:AV→O R}:qS P t ps k=(qR P t ps).bind k:=by
 unfold qS qR
 rw[Option.bind_assoc]
 congr 1;funext place
 cases (ps.all fun p=>EH p.2) with
 | false=>rfl
 | true =>
  simp only[cond_true]
  cases (ps.any fun p=>Y2 p.2) with
  | true =>
   simp only[cond_true]
   cases (ps.any fun p=>gV p.2) with
   | true =>
    simp only[cond_true]
    rw[Option.bind_assoc]
    congr 1;funext z
    rw[W9]
    cases Ki place (Gw ps) z<;>rfl
   | false =>
    simp only[cond_false]
    rw[Option.bind_assoc]
    congr 1;funext z
    rw[W9]
    cases Ki place (Ds ps) z<;>rfl
  | false =>
   simp only[cond_false]
   rw[Option.bind_assoc]
   congr 1;funext z
   rw[W9]
   cases Ki place (Ds ps) z<;>rfl
theorem Ade {x:AV} {u:Value} (b:RepC (fun _=>False) w x u):Rep J β h w x u:=by
 have d:∀ o:Bool,RepC (J o) w x u:=fun o=>RepC.keep (J:=fun _=>False) (w:=w) (fun _ e=>e.elim) (fun _ _=>rfl) b
 cases x
 case imm c n sz t org=>rw[Rep];exact d org
 case iptr c org=>rw[Rep];exact d org
 case fn f c =>
  cases c with
  | nil=>rw[RepC] at b;subst b;rw[Rep];exact⟨[],by simp,by rw[Reps]⟩
  | cons a l=>simp[RepC] at b
 all_goals first | (rw[RepC] at b;rw[Rep];exact b) | simp[RepC] at b
theorem ZR {d len:Nat} {t:TypeId} {ps:List (Nat×AV)} {vs:List (Nat×Value)} {k:AV→C9→O R} (S:SimH J β h w) (G:Nn P g d t len ps k=some r) (q:RepParts J β h w ps vs) :
  ∃ val ups,k val ups=some r∧(UpsFree d h ups→∃ u w',(Instr.buildSlice t len vs.toArray).run P w=.ok u w'∧OpDone J β h w ups val u w'):=by
 unfold Nn at G
 split at G
 ·rename_i el n
  obtain⟨sz,f,I⟩:=ub G
  obtain⟨zz,hz,K⟩:=ub I
  obtain⟨L,h4⟩:=uc K
  obtain⟨cells,hc,h5⟩:=ub h4
  simp at L
  obtain⟨rfl,L,M⟩:=L
  obtain⟨i,z,hi,T,rfl,U,e1,e2⟩:=Ns hz
  have s:i.size=1:=by simp[Bd,hi] at f;exact f
  refine⟨_,_,h5,fun V=>?_⟩
  replace V:=V.nid (by simp[Md,Ax])
  have X:=Zd (w:=w) (J:=fun _=>False) U len (len*1) (by rw[e1,s];exact Nat.le_refl _)
  have Y:Zf (fun x u=>Rep J β h w x u∧u.oneCell'=true) (Db len (H6 z.cells.toList)) (madeCells z.cells (len*1)).toList:=by
   have hl:Zf (RepC (fun _=>False) w) (Db len (H6 z.cells.toList)) (madeCells z.cells (len*1)).toList:=by
    refine Oq (RepCs.keep (J:=fun _=>False) (w:=w) (fun _ hk=>hk) (fun _ _=>rfl) (fun j=>by simp) X) ?_
    rw[Dw,e2,s,Array.length_toList,size_madeCells]
   exact⟨hl.1,fun j x u hx n=>⟨Ade (hl.2 j x u hx n),SQ (hl.2 j x u hx n)⟩⟩
  have l:∀ {ps:List (Nat×AV)} {vs:List (Nat×Value)},Ji g (ps.map (·.2))=true→RepParts J β h w ps vs→PartsRel (fun x u=>Rep J β h w x u∧u.oneCell'=true) (ps.map fun p=>(p.1,[p.2])) vs:=by
   intro ps
   induction ps with
   | nil=>intro vs _ q;rw[RepParts] at q;rw[List.map_nil,PartsRel];exact q
   | cons p r ih =>
    obtain⟨i,x⟩:=p
    intro vs hs q
    rw[RepParts] at q
    obtain⟨v,vs',rfl,I,K⟩:=q
    simp[Ji] at hs
    rw[List.map_cons,PartsRel]
    refine⟨v,vs',rfl,?_,ih (by simpa using hs.2) K⟩
    have ho:=Jl hs.1 I
    have m:v.cells=#[v]:=by cases v<;>simp_all[Value.cells,Value.oneCell']
    rw[m]
    refine⟨rfl,fun j y u hy n=>?_⟩
    cases j with
    | zero=>simp at hy n;subst hy n;exact⟨I,ho⟩
    | succ j=>simp at hy
  obtain⟨b,f1,f2⟩:=W8 (l M q) Y hc
  have A:cells.length=len*1:=by
   have:∀ {ps:List (Nat×LA)} {c c':LA},Ki (fun i=>some (i*1,1)) ps c=some c'→c'.length=c.length:=by
    intro ps
    induction ps with
    | nil=>intro c c' B;simp[Ki] at B;rw[B]
    | cons p r ih =>
     intro c c' B
     obtain⟨i,vs⟩:=p
     rw[Ki] at B
     obtain⟨p,hpl,g1⟩:=ub B
     obtain⟨gb,g2⟩:=uc g1
     simp at gb
     rw[ih g2,K2 (by omega)]
   rw[this hc,Dw,e2,s]
  have hcs:b.size=len*1:=by have:=f2.1;simp at this;omega
  refine⟨.slice (some ⟨w.heap.size,0,none⟩) len len,w.alloc (.cells b el),?_,?_⟩
  ·have e:Instr.fill (fun i=>some (i*1,1)) ((Array.range (len*1)).map (z.cells[·%z.cells.size]!)) vs=some b:=f1
   have C:¬ (16777216<len*1):=by omega
   by_cases D:len*1=0
   ·have hme:∀ (a:Array Value),(Array.range (len*1)).map (a[·%a.size]!)=#[]:=fun a=>by rw[D];simp[Array.range_zero']
    rw[hme] at e
    simp only[Nat.mul_one] at D
    simp[Instr.buildSlice,run_underlying n,B7 f,D,Array.range_zero',newRow]
    simp at e
    simp[e]
   ·simp only[Nat.mul_one] at e D C
    simp[Instr.buildSlice,run_underlying n,B7 f,C,D,zeroValue,typeInfo,hi,T,e,newRow]
  ·refine SR (sz:=1) (fr:=(0,0)) S V rfl rfl rfl FrTy.un0 A (by omega) (Nat.le_refl _) ⟨fun U=>by simp at U,fun _ j y hj=>?_⟩
   have F:j<b.size:=by have:=(List.getElem?_eq_some_iff.1 hj).1;simp at this;omega
   have:=f2.2 j y b[j] hj (by simp[F])
   exact⟨b[j],by simp[F],this.1,this.2⟩
 ·simp at G
theorem Ot {d:Nat}:∀ {l:List (Nat×Nat)} {j:Nat} {c:LA} {cs:List Value} {β:Bl} {h:Ah},SimH J β h w→1≤j→j+l.length≤16→(∀ i,j≤i→i<16→Ax (Ec d l j c).2 (nid d+i)=true→Ak h (nid d+i)=none)→Reps J β h w c cs →
  ∃ β',Step J β h w J β' (Ai (Ec d l j c).2 h) w∧Reps J β' (Ai (Ec d l j c).2 h) w (Ec d l j c).1 cs
 | [],j,c,cs,β,h,S,_,_,_,t=>⟨β,Step.refl S,t⟩
 | (o,sz)::l,j,c,cs,β,h,S,L,F,n,t=>by
  rw[Ec] at n ⊢
  split
  ·rename_i q
   simp only[q] at n
   simp at F
   have K:Ak h (nid d+j)=none:=n j (Nat.le_refl _) (by omega) (by simp[Ax])
   have A:=Step.newNone S (d:=nid d+j) (x:=D4 sz) K rfl
   have f:=Reps.ext A.ext t
   rw[Bm] at f
   have v:Reps J (fun b=>if b=nid d+j then none else β b) (Dk h (nid d+j) (D4 sz)) w (c.set o (.own (nid d+j) 0 0)) cs:=by
    rw[Bm]
    refine⟨by rw[f.1];simp,fun i y u s G=>?_⟩
    by_cases z:i=o
    ·subst z
     have C:i<c.length:=(List.getElem?_eq_some_iff.1 q).1
     rw[List.getElem?_set_self C] at s;simp at s;subst s
     have I:=f.2 i _ u q G
     rw[Rep] at I;subst I
     rw[Rep]
     exact⟨D4 sz,none,0,⟨by simp[Ae],rfl⟩,rfl,Nat.le_refl _,.inl rfl⟩
    ·rw[List.getElem?_set_ne (by omega)] at s
     exact f.2 i y u s G
   obtain⟨β',B,hB⟩:=Ot (d:=d) (l:=l) (j:=j+1) A.sim (by omega) (by omega) (fun i z k m=>by
    have:=n i (by omega) k (by
     rw[Ax]
     have:Nat.beq (nid d+j) (nid d+i)=false:=EC (by omega)
     rw[this];exact m)
    rw[Ae,if_neg (by omega)];exact this) v
   exact⟨β',by simp only[Ai];exact A.trans B (fun _ _ _ _=>Nat.le_refl _),by simp only[Ai];exact hB⟩
  ·rename_i q
   have e:Ec d ((o,sz)::l) j c=Ec d l (j+1) c:=by
    rw[Ec]
    split
    ·rename_i D;exact absurd D (q ·)
    ·rfl
   simp at F
   split at n
   ·rename_i D;exact absurd D (q ·)
   ·exact Ot S (by omega) (by omega) (fun i z k m=>n i (by omega) k m) t
theorem wu {t:TypeId} {co:Bool} {d:Nat} {v:AV} {vc:Value} {k:AV→C9→O R} (S:SimH J β h w) (b:zc P t co d v k=some r) (e:Rep J β h w v vc) :
  ∃ val ups,k val ups=some r∧(UpsFree d h ups→OpDone J β h w ups val vc w):=by
 unfold zc at b
 split at b
 ·rename_i c
  obtain⟨m,n⟩:=uc b
  refine⟨_,_,n,fun q=>?_⟩
  rw[Rep] at e
  obtain⟨cs,rfl,s⟩:=e
  obtain⟨β',A,hA⟩:=Ot (d:=d) (l:=Me P t) (j:=1) S (Nat.le_refl _) (by simp at m;omega) (fun i x u f=>q _ f (by unfold W5;simp;omega)) s
  exact⟨J,β',A,by rw[Rep];exact⟨cs,rfl,hA⟩⟩
 ·exact⟨_,_,b,fun _=>⟨J,β,Step.refl S,e⟩⟩
theorem cD {x:AV} {v:Value} (b:Rep J β h w x v) (k:Y2 x=false) (e:EH x=true):Zf (Rep J β h w) (cellsOf x) v.cells.toList:=by
 have one:v.cells=#[v]→cellsOf x=[x]→Zf (Rep J β h w) (cellsOf x) v.cells.toList:=fun l d=>by
  rw[l,d]
  refine⟨rfl,fun j y u f i=>?_⟩
  cases j with
  | zero=>simp at f i;subst f i;exact b
  | succ j=>simp at f
 cases x
 case pagg=>simp[Y2] at k
 case agg c =>
  rw[Rep] at b
  obtain⟨cs,rfl,d⟩:=b
  rw[Bm] at d
  exact⟨d.1.symm,d.2⟩
 case tup c=>simp[EH] at e
 case undef=>simp[EH] at e
 case omap=>simp[EH] at e
 case own=>rw[Rep] at b;obtain⟨_,A,cap,_,rfl,_⟩:=b;exact one rfl rfl
 case optr=>rw[Rep] at b;obtain⟨_,kk,o,_,rfl,_⟩:=b;exact one rfl rfl
 case fn=>rw[Rep] at b;obtain⟨cs,rfl,_⟩:=b;exact one rfl rfl
 case imm=>rw[Rep,RepC] at b;obtain⟨_,A,cap,rfl,_⟩:=b;exact one rfl rfl
 case iptr=>rw[Rep,RepC] at b;obtain⟨a,rfl,_⟩:=b;exact one rfl rfl
 all_goals (rw[Rep] at b;subst b;exact one rfl rfl)
theorem oF {x:AV} {v:Value} (e:∀ k,J false k→J true k) (d:Rep J β h w x v) (i:PY x=false) {o:Bool} (f:qQ x=true→o=true):RepC (J o) w x v:=by
 cases x<;>simp[PY] at i
 case imm c n sz t org =>
  rw[Rep] at d
  refine RepC.keep (J:=J org) (w:=w) (fun k b=>?_) (fun _ _=>rfl) d
  cases org
  ·cases o
   ·exact b
   ·exact e k b
  ·rw[f rfl];exact b
 case iptr c org =>
  rw[Rep] at d
  refine RepC.keep (J:=J org) (w:=w) (fun k b=>?_) (fun _ _=>rfl) d
  cases org
  ·cases o
   ·exact b
   ·exact e k b
  ·rw[f rfl];exact b
 all_goals (rw[Rep] at d;rw[RepC];exact d)
theorem qh {x:AV} {v:Value} (l:∀ k,J false k→J true k) (e:Rep J β h w x v) (f:gV x=false) {o:Bool} (m:br x=true→o=true):Zf (RepC (J o) w) (cellsOf x) v.cells.toList:=by
 have one:PY x=false→cellsOf x=[x]→br x=qQ x→Zf (RepC (J o) w) (cellsOf x) v.cells.toList:=fun B b n=>by
  have z:=oF (o:=o) l e B (by rw[←n];exact m)
  have q:v.cells=#[v]:=by have:=SQ z;cases v<;>simp_all[Value.cells,Value.oneCell']
  rw[q,b]
  refine⟨rfl,fun j y u d i=>?_⟩
  cases j with
  | zero=>simp at d i;subst d i;exact z
  | succ j=>simp at d
 cases x
 case pagg c org =>
  rw[Rep] at e
  obtain⟨cs,rfl,q,b⟩:=e
  refine Oq (RepCs.keep (J:=J org) (w:=w) (fun k s=>?_) (fun _ _=>rfl) (fun j=>by simp[Value.cells]) b) (by simp[Value.cells,cellsOf,q])
  cases org
  ·cases o
   ·exact s
   ·exact l k s
  ·rw[m rfl];exact s
 case agg c =>
  rw[Rep] at e
  obtain⟨cs,rfl,b⟩:=e
  rw[Bm] at b
  refine⟨b.1.symm,fun j y u d i=>?_⟩
  simp only[gV,List.any_eq_false] at f
  have A:y ∈ c:=List.mem_of_getElem? d
  have t:PY y=false:=by simpa using f y A
  refine oF l (b.2 j y u d i) t (fun n=>m ?_)
  rw[br,List.any_eq_true];exact⟨y,A,n⟩
 all_goals first | exact one f rfl rfl | simp[gV,PY] at f
theorem zk {o:Bool} {x:AV} {v:Value} (d:RepC (J o) w x v):Rep J β h w (tC o x) v:=by
 cases x
 case imm=>rw[tC,Rep];rw[RepC] at d ⊢;exact d
 case iptr=>rw[tC,Rep];rw[RepC] at d ⊢;exact d
 case fn f c =>
  cases c with
  | nil=>rw[RepC] at d;subst d;show Rep J β h w (.fn f []) _;rw[Rep];exact⟨[],by simp,by rw[Reps]⟩
  | cons a b=>simp[RepC] at d
 all_goals first | (rw[RepC] at d;unfold tC;rw[Rep];exact d) | (simp[RepC] at d)
theorem wv {x:AV} {v:Value} (e:Rep J β h w x v) (l:EH x=true):Zf (Rep J β h w) (gW x) v.cells.toList:=by
 cases f:Y2 x with
 | false =>
  have:=cD e f l
  cases x<;>first | exact this | simp[Y2] at f
 | true =>
  cases x<;>simp[Y2] at f
  rename_i c o
  rw[Rep] at e
  obtain⟨cs,rfl,m,n⟩:=e
  refine⟨by simp[gW,Value.cells,m],fun j y u d k=>?_⟩
  simp only[gW,List.getElem?_map] at d
  cases i:c[j]? with
  | none=>rw[i] at d;simp at d
  | some x0 =>
   rw[i] at d;simp at d;subst d
   obtain⟨s,b,q⟩:=n.at i
   simp[Value.cells] at k
   rw[k] at b;simp at b;subst b
   exact zk q
theorem ES {CR:AV→Value→Prop}:∀ {ps:List (Nat×AV)} {vs:List (Nat×Value)},RepParts J β h w ps vs→(∀ p ∈ ps,∀ v,Rep J β h w p.2 v→Zf CR (gW p.2) v.cells.toList)→PartsRel CR (Gw ps) vs
 | [],vs,b,_=>by rw[RepParts] at b;rw[Gw,PartsRel];exact b
 | (i,x)::r,vs,b,d=>by
  rw[RepParts] at b
  obtain⟨v,c,rfl,e,f⟩:=b
  rw[Gw,PartsRel]
  exact⟨v,c,rfl,d (i,x) (by simp) v e,ES f (fun p j=>d p (by simp[j]))⟩
theorem V5 {CR:AV→Value→Prop}:∀ {ps:List (Nat×AV)} {vs:List (Nat×Value)},RepParts J β h w ps vs→(∀ p ∈ ps,∀ v,Rep J β h w p.2 v→Zf CR (cellsOf p.2) v.cells.toList)→PartsRel CR (Ds ps) vs
 | [],vs,b,_=>by rw[RepParts] at b;rw[Ds,PartsRel];exact b
 | (i,x)::r,vs,b,d=>by
  rw[RepParts] at b
  obtain⟨v,c,rfl,e,f⟩:=b
  rw[Ds,PartsRel]
  exact⟨v,c,rfl,d (i,x) (by simp) v e,V5 f (fun p j=>d p (by simp[j]))⟩
theorem gh {t:TypeId} {place:Nat→Option (Nat×Nat)} {i:TypeInfo} {z:Value} {vs:List (Nat×Value)} {cs:Array Value} (b:SG P t=some place) (j:P.info? t=some i) (k:i.zero=some z)
  (l:Instr.fill place z.cells vs=some cs):P.built t vs=some cs:=by
 unfold SG at b
 unfold Program.built
 split at b
 ·rename_i n e d
  cases c:P.info? e with
  | none=>simp[c] at b
  | some ie=>simp[c] at b;subst b;simp only[j,d,k,c];exact l
 ·rename_i fs d
  cases c:fs.toList.mapM fun f=>(P.info? f.type).map fun i=>(f.offset,i.size) with
  | none=>rw[c] at b;simp at b
  | some pl =>
   rw[c] at b;simp at b;subst b
   simp only[j,d,k,c]
   simpa using l
 ·simp at b
theorem qi {t:TypeId} {ps:List (Nat×AV)} {vs:List (Nat×Value)} {v:AV} (S:SimH J β h w) (L:qR P t ps=some v) (I:RepParts J β h w ps vs) :
  ∃ u,(Instr.build t vs.toArray).run P w=.ok u w∧Rep J β h w v u:=by
 unfold qR at L
 obtain⟨place,n,M⟩:=ub L
 obtain⟨D,q⟩:=uc M
 cases s:ps.any (fun p=>Y2 p.2) with
 | true =>
  rw[s] at q
  cases A:ps.any (fun p=>gV p.2) with
  | true =>
   rw[A] at q
   obtain⟨zz,d,f⟩:=ub q
   unfold nr at d
   obtain⟨i,F,d⟩:=ub d
   cases e:i.zero with
   | none=>rw[e] at d;simp at d
   | some z =>
    rw[e] at d;simp at d;subst d
    cases k:Ki place (Gw ps) (H6 z.cells.toList) with
    | none=>rw[k] at f;simp at f
    | some c =>
     rw[k] at f;simp at f;subst f
     have b:PartsRel (Rep J β h w) (Gw ps) vs:=ES I (fun p B u C=>wv C (List.all_eq_true.1 D p B))
     have l:Zf (Rep J β h w) (H6 z.cells.toList) z.cells.toList:=by
      have:=JJ (J:=J) (β:=β) (h:=h) (w:=w) z.cells.toList
      rw[Bm] at this
      exact⟨this.1.symm,this.2⟩
     obtain⟨cs,G,m⟩:=W8 b l k
     refine⟨.agg cs,run_build w t vs.toArray cs (gh n F e (by simpa using G)),?_⟩
     rw[Rep]
     exact⟨cs.toList,rfl,Bm.2 ⟨m.1.symm,m.2⟩⟩
  | false =>
  rw[A] at q
  have O:=q
  obtain⟨zz,d,f⟩:=ub O
  obtain⟨i,z,F,e,rfl,T,Y,e2⟩:=Ns d
  cases k:Ki place (Ds ps) (H6 z.cells.toList) with
  | none=>rw[k] at f;simp at f
  | some c =>
   rw[k] at f;simp at f;subst f
   have b:PartsRel (RepC (J (ps.any fun p=>br p.2)) w) (Ds ps) vs:=V5 I (fun p B u C=>qh S.jft C (by
     have:=List.any_eq_false.1 A p B;simpa using this) (fun U=>by rw[List.any_eq_true];exact⟨p,B,U⟩))
   have l:Zf (RepC (J (ps.any fun p=>br p.2)) w) (H6 z.cells.toList) z.cells.toList:=by
    refine⟨Uc _,fun j x u V C=>?_⟩
    obtain⟨y,K,X⟩:=P' (w:=w) (J:=J (ps.any fun p=>br p.2)) T j u C
    rw[V] at K;simp at K;subst K;exact X
   obtain⟨cs,G,m⟩:=W8 b l k
   refine⟨.agg cs,run_build w t vs.toArray cs (gh n F e (by simpa using G)),?_⟩
   rw[Rep]
   exact⟨cs.toList,rfl,m.1.symm,LH m⟩
 | false =>
  rw[s] at q
  obtain⟨zz,d,f⟩:=ub q
  unfold nr at d
  obtain⟨i,F,d⟩:=ub d
  cases e:i.zero with
  | none=>rw[e] at d;simp at d
  | some z =>
   rw[e] at d;simp at d;subst d
   cases k:Ki place (Ds ps) (H6 z.cells.toList) with
   | none=>rw[k] at f;simp at f
   | some c =>
    rw[k] at f;simp at f;subst f
    have b:PartsRel (Rep J β h w) (Ds ps) vs:=V5 I (fun p B u C=>cD C (by
      have:=List.any_eq_false.1 s p B;simpa using this) (List.all_eq_true.1 D p B))
    have l:Zf (Rep J β h w) (H6 z.cells.toList) z.cells.toList:=by
     have:=JJ (J:=J) (β:=β) (h:=h) (w:=w) z.cells.toList
     rw[Bm] at this
     exact⟨this.1.symm,this.2⟩
    obtain⟨cs,G,m⟩:=W8 b l k
    refine⟨.agg cs,run_build w t vs.toArray cs (gh n F e (by simpa using G)),?_⟩
    rw[Rep]
    exact⟨cs.toList,rfl,Bm.2 ⟨m.1.symm,m.2⟩⟩
end
end Gx

namespace Gx
open Go
section
variable {R:Type} {r:R} {P:Program} {J:Bool→Nat→Prop} {β:Bl} {h:Ah} {w:World}
def PRd (n:Nat) (x:LA) (rd:Nat→Option Value):Prop:=∀ j q,j<n→x[j]?=some q →
 (∀ k m,q=.int k m→rd j=some (.int k m))∧(∀ b,q=.bool b→rd j=some (.bool b))∧(∀ s,q=.str s→rd j=some (.string ⟨⟨s⟩⟩))
theorem PRd.drop {n m o:Nat} {x:LA} {xs:Array Value} {ox sz:Nat} (f:PRd sz x (fun j=>xs[ox+j]?)) (z:o+m≤sz) (i:n=m):PRd n (x.drop o) (fun j=>(xs.extract ox (ox+sz))[o+j]?):=by
 subst i
 intro j q A hq
 rw[List.getElem?_drop] at hq
 have c:=f (o+j) q (by omega) hq
 have e:∀ v,xs[ox+(o+j)]?=some v→(xs.extract ox (ox+sz))[o+j]?=some v:=by
  intro v d
  have l:=(Array.getElem?_eq_some_iff.1 d).1
  rw[Array.getElem?_extract,if_pos (by omega)];exact d
 exact⟨fun k m t=>e _ (c.1 k m t),fun b u=>e _ (c.2.1 b u),fun s y=>e _ (c.2.2 s y)⟩
theorem Rf {t:TypeId} {d:TypeDesc} {xs:Array Value} {ox:Nat} {v:Value} (b:P.underlying t=some d) (c:d.isRow=false) (e:xs[ox]?=some v):(part t xs ox).run P w=.ok v w:=by
 unfold part isAgg
 simp only[Sem.run_bind,run_underlying b,Result.andThen_ok]
 cases d<;>simp_all[TypeDesc.isRow]
theorem Xa {t:TypeId} {d:TypeDesc} {xs:Array Value} {ox s:Nat} (b:P.underlying t=some d) (e:d.isRow=true) (c:Bd P t=some s):(part t xs ox).run P w=.ok (.agg (xs.extract ox (ox+s))) w:=by
 unfold part isAgg
 have:=B7 c w
 simp only[Sem.run_bind,run_underlying b,Result.andThen_ok]
 cases d<;>simp_all[TypeDesc.isRow]
def ww (P:Program) (w:World) (D:Nat) (step:TypeId→LA→LA→(Bool→O R)→O R):Prop :=
 ∀ (r:R) (t:TypeId) (s:Nat) (x y:LA) (k:Bool→O R) (xs ys:Array Value) (ox oy:Nat),Bd P t=some s→0<s→step t x y k=some r→PRd s x (fun j=>xs[ox+j]?)→PRd s y (fun j=>ys[oy+j]?) →
  ∃ b a a',k b=some r∧(part t xs ox).run P w=.ok a w∧(part t ys oy).run P w=.ok a' w∧(Op.equalIn D t a a').run P w=.ok b w
theorem BJ {D:Nat} {step:TypeId→LA→LA→(Bool→O R)→O R} (n:ww P w D step) {x y:LA} {xs ys:Array Value} {ox oy sz:Nat} (q:PRd sz x (fun j=>xs[ox+j]?)) (t:PRd sz y (fun j=>ys[oy+j]?)) :
  ∀ (fs:List Field) {k:Bool→O R},fs.all (qN P sz)=true→Wz step x y (fs.map fun f=>(f.offset,f.type)) k=some r →
  ∃ b,k b=some r∧(Op.eqFields D (xs.extract ox (ox+sz)) (ys.extract oy (oy+sz)) fs).run P w=.ok b w
 | [],k,_,l=>⟨true,by simpa[Wz] using l,by simp[Op.eqFields]⟩
 | f::fs,k,m,l=>by
  rw[List.all_cons,Bool.and_eq_true] at m
  obtain⟨i,m⟩:=m
  unfold qN at i
  cases d:Bd P f.type with
  | none=>rw[d] at i;simp at i
  | some s =>
   rw[d] at i
   simp only[Bool.and_eq_true,Nat.ble_eq] at i
   obtain⟨I,u,v⟩:=i
   have e : f.name ≠ "_" := by simpa using v
   rw[List.map_cons,Wz] at l
   obtain⟨b,a,K,z,A,B,C⟩:=n r f.type s _ _ _ (xs.extract ox (ox+sz)) (ys.extract oy (oy+sz)) f.offset f.offset d (by omega) l (q.drop u rfl) (t.drop u rfl)
   obtain⟨c,F,G⟩:=BJ n q t fs m z
   refine⟨b&&c,F,?_⟩
   rw[Op.eqFields,if_pos e]
   simp only[Sem.run_bind,A,B,C,Result.andThen_ok]
   cases b with
   | false=>simp
   | true=>simpa using G
theorem ET {D:Nat} {step:TypeId→LA→LA→(Bool→O R)→O R} (m:ww P w D step) {x y:LA} {xs ys:Array Value} {ox oy sz:Nat} {e:TypeId} {s:Nat} (d:Bd P e=some s) (f:0<s) (n:PRd sz x (fun j=>xs[ox+j]?)) (q:PRd sz y (fun j=>ys[oy+j]?)) :
  ∀ (is:List Nat) {k:Bool→O R},(∀ i ∈ is,i*s+s≤sz)→Wz step x y (is.map fun i=>(i*s,e)) k=some r →
  ∃ b,k b=some r∧(Op.eqItems D e s (xs.extract ox (ox+sz)) (ys.extract oy (oy+sz)) is).run P w=.ok b w
 | [],k,_,l=>⟨true,by simpa[Wz] using l,by simp[Op.eqItems]⟩
 | i::is,k,t,l=>by
  have u:=t i (by simp)
  rw[List.map_cons,Wz] at l
  obtain⟨b,a,I,v,z,A,B⟩:=m r e s _ _ _ (xs.extract ox (ox+sz)) (ys.extract oy (oy+sz)) (i*s) (i*s) d f l (n.drop u rfl) (q.drop u rfl)
  obtain⟨c,C,F⟩:=ET m d f n q is (fun j G=>t j (by simp[G])) v
  refine⟨b&&c,C,?_⟩
  rw[Op.eqItems]
  simp only[Sem.run_bind,z,A,B,Result.andThen_ok]
  cases b with
  | false=>simp
  | true=>simpa using F
theorem QB:∀ (d D:Nat),d≤D→ww P w D (fI (R:=R) P d)
 | 0,D,_=>fun r t s x y k xs ys ox oy C j c=>by simp[fI] at c
 | d+1,D,hD=>fun r t s x y k xs ys ox oy C j c L M=>by
  obtain⟨D,rfl⟩:∃ D',D=D'+1:=⟨D - 1,by omega⟩
  rw[fI] at c
  split at c
  ·rename_i I f
   obtain⟨u,m,c⟩:=ub c
   obtain⟨a,z,c⟩:=ub c
   obtain⟨v,q,c⟩:=ub c
   obtain⟨b,A,c⟩:=ub c
   have O:u=.int I a:=by
    unfold bp at z;split at z
    ·obtain⟨S,T⟩:=uc z;simp[Mc] at S T;subst S T;rfl
    ·simp at z
   have eb:v=.int I b:=by
    unfold bp at A;split at A
    ·obtain⟨S,U⟩:=uc A;simp[Mc] at S U;subst S U;rfl
    ·simp at A
   have px:=(L 0 u j (by rw[←List.head?_eq_getElem?];exact m)).1 I a O
   have py:=(M 0 v j (by rw[←List.head?_eq_getElem?];exact q)).1 I b eb
   exact⟨_,_,_,c,Rf f rfl (by simpa using px),Rf f rfl (by simpa using py),run_equalIn_int w D t I I a b f⟩
  ·rename_i f
   obtain⟨u,m,c⟩:=ub c
   obtain⟨a,z,c⟩:=ub c
   obtain⟨v,q,c⟩:=ub c
   obtain⟨b,A,c⟩:=ub c
   have O:u=.bool a:=by unfold asBool at z;split at z<;>simp_all
   have eb:v=.bool b:=by unfold asBool at A;split at A<;>simp_all
   have px:=(L 0 u j (by rw[←List.head?_eq_getElem?];exact m)).2.1 a O
   have py:=(M 0 v j (by rw[←List.head?_eq_getElem?];exact q)).2.1 b eb
   exact⟨_,_,_,c,Rf f rfl (by simpa using px),Rf f rfl (by simpa using py),run_equalIn_bool' w D t a b f⟩
  ·rename_i f
   obtain⟨u,m,c⟩:=ub c
   obtain⟨a,z,c⟩:=ub c
   obtain⟨v,q,c⟩:=ub c
   obtain⟨b,A,c⟩:=ub c
   have O:u=.str a:=by unfold gR at z;split at z<;>simp_all
   have eb:v=.str b:=by unfold gR at A;split at A<;>simp_all
   have px:=(L 0 u j (by rw[←List.head?_eq_getElem?];exact m)).2.2 a O
   have py:=(M 0 v j (by rw[←List.head?_eq_getElem?];exact q)).2.2 b eb
   refine⟨_,_,_,c,Rf f rfl (by simpa using px),Rf f rfl (by simpa using py),?_⟩
   have:=run_equalIn_string w D t ⟨⟨a⟩⟩ ⟨⟨b⟩⟩ f
   rw[this]
   simp[ByteArray.toList_eq]
  ·rename_i fs f
   obtain⟨sz,l,c⟩:=ub c
   obtain⟨V,F⟩:=wn c
   simp only[Bool.or_eq_false_iff,Bool.not_eq_false'] at V
   rw[C] at l;simp at l;subst l
   obtain⟨b,Y,h2⟩:=BJ (QB d D (by omega)) L M fs.toList V.2 F
   refine⟨b,_,_,Y,Xa f rfl C,Xa f rfl C,?_⟩
   have X:P.fieldsOf t=fs:=by simp[Program.fieldsOf,f]
   rw[run_equalIn_struct w D t _ _ (by rw[X];exact f) V.1,X]
   exact h2
  ·rename_i n e f
   obtain⟨s',B,c⟩:=ub c
   obtain⟨sz,l,c⟩:=ub c
   obtain⟨V,F⟩:=uc c
   simp only[Bool.and_eq_true,Nat.ble_eq] at V
   rw[C] at l;simp at l;subst l
   obtain⟨b,Y,h2⟩:=ET (QB d D (by omega)) B (by omega) L M (List.range n) (fun i K=>by
    have:=List.mem_range.1 K
    have h3:(i+1)*s'≤n*s':=Nat.mul_le_mul_right _ this
    rw[Nat.succ_mul] at h3;omega) F
   refine⟨b,_,_,Y,Xa f rfl C,Xa f rfl C,?_⟩
   cases K:P.info? e with
   | none=>simp[Bd,K] at B
   | some i =>
    have G:P.cellsOf e=s':=by simp[Bd,K] at B;simp[Program.cellsOf,K,B]
    rw[run_equalIn_array w D _ _ f K,G]
    exact h2
  ·simp at c
theorem tN {c:LA} {org:Bool} {v:Value} {a:LA} {x:AV} (f:qO x=some a) (l:Rep J β h w x v):∃ cs:List Value,v=.agg ⟨cs⟩∧cs.length=a.length∧∀ n,PRd n a (fun j=>(⟨cs⟩:Array Value)[0+j]?):=by
 unfold qO at f
 split at f
 ·simp at f;subst f
  rw[Rep] at l
  obtain⟨cs,y,i,C⟩:=l
  refine⟨cs,y,i,fun n j q _ hq=>?_⟩
  rw[Bi] at C
  obtain⟨u,t,d⟩:=C j q hq
  simp only[Nat.zero_add] at t ⊢
  refine⟨fun k m z=>?_,fun b A=>?_,fun s B=>?_⟩
  ·subst z;rw[RepC] at d;subst d;simpa using t
  ·subst A;rw[RepC] at d;subst d;simpa using t
  ·subst B;rw[RepC] at d;subst d;simpa using t
 ·simp at f;subst f
  rw[Rep] at l
  obtain⟨cs,y,i⟩:=l
  rw[Bm] at i
  refine⟨cs,y,i.1,fun n j q _ hq=>?_⟩
  have e:j<cs.length:=by rw[i.1];exact(List.getElem?_eq_some_iff.1 hq).1
  have d:=i.2 j q cs[j] hq (List.getElem?_eq_getElem e)
  simp only[Nat.zero_add]
  refine⟨fun k m z=>?_,fun b A=>?_,fun s B=>?_⟩
  ·subst z;rw[Rep] at d;simp[e,d]
  ·subst A;rw[Rep] at d;simp[e,d]
  ·subst B;rw[Rep] at d;simp[e,d]
 ·simp at f
theorem tO {op:BinOp} {t:TypeId} {x y:AV} {k:AV→O R} {vx vy:Value} (f:nq P t op x y k=some r) (D:Rep J β h w x vx) (F:Rep J β h w y vy) (ox oy:Operand) :
  ∃ v vc,k v=some r∧(do eqGuard op t ox oy vx vy;binOp op t vx vy:Sem Value).run P w=.ok vc w∧Rep J β h w v vc:=by
 unfold nq at f
 split at f
 ·rename_i a b T U
  obtain⟨s,B,f⟩:=ub f
  obtain⟨G,f⟩:=uc f
  simp only[Bool.and_eq_true,Nat.ble_eq,Bool.not_eq_true'] at G
  obtain⟨h1,I,K,j,V⟩:=G
  have I:=Nat.eq_of_beq_eq_true I
  have K:=Nat.eq_of_beq_eq_true K
  obtain⟨cs,rfl,L,px⟩:=tN (c:=[]) (org:=false) T D
  obtain⟨i,rfl,X,py⟩:=tN (c:=[]) (org:=false) U F
  have M:=run_eqGuard_agg w op t ox oy ⟨cs⟩ ⟨i⟩ V
  have whole:∀ (l:List Value),l.length=s→(⟨l⟩:Array Value).extract 0 (0+s)=⟨l⟩:=by
   intro l L;subst L;simp
  have key:∀ {kk:Bool→O R},fI P 8 t a b kk=some r→∃ c,kk c=some r∧(Op.equal t (.agg ⟨cs⟩) (.agg ⟨i⟩)).run P w=.ok c w:=by
   intro kk Y
   obtain⟨c,u,u',z,m,C,e4⟩:=QB 8 10000 (by omega) r t s a b kk ⟨cs⟩ ⟨i⟩ 0 0 B (by omega) Y (px s) (py s)
   refine⟨c,z,?_⟩
   have A:∃ d,P.underlying t=some d∧d.isRow=true:=by
    unfold Ac1 at j
    split at j
    ·rename_i fs q;exact⟨_,q,rfl⟩
    ·rename_i n e q;exact⟨_,q,rfl⟩
    ·simp at j
   obtain⟨d,q,S⟩:=A
   rw[Xa q S B,whole cs (by omega)] at m
   rw[Xa q S B,whole i (by omega)] at C
   simp only[Result.ok.injEq,and_true] at m C
   subst m C
   exact e4
  split at f
  ·obtain⟨c,z,m⟩:=key f
   refine⟨_,.bool c,z,?_,by rw[Rep]⟩
   simp only[Sem.run_bind,M,Result.andThen_ok,binOp,m,Sem.run_pure]
  ·obtain⟨c,z,m⟩:=key f
   refine⟨_,.bool (!c),z,?_,by rw[Rep]⟩
   simp only[Sem.run_bind,M,Result.andThen_ok,binOp,m,Sem.run_pure]
  ·simp at f
 ·exact wm f D F ox oy
theorem tP {t:TypeId} {x y:AV} {b:Bool} {vx vy:Value} {g:A0} (S:SimH J β h w) (F:Looks g h) (c:Ac6 g x y=some b) (l:wi P t=true) (d:Rep J β h w x vx) (f:Rep J β h w y vy) :
  ∃ p q,vx=.pointer p∧vy=.pointer q∧(Op.equal t (.pointer p) (.pointer q)).run P w=.ok b w:=by
 unfold wi at l
 split at l
 ·rename_i e m
  split at l
  ·rename_i n G
   have v:n≠0:=fun e=>by subst e;simp at l
   have m:=run_underlying (w:=w) m
   have I:(Go.sizeOf e).run P w=.ok n w:=B7 G w
   have nn:∀ q:Option Addr,(Op.equal t (.pointer none) (.pointer q)).run P w=.ok q.isNone w:=fun q=>by
    unfold Op.equal Op.maxDepth Op.equalIn;simp[m]
   have s:∀ a:Addr,(Op.equal t (.pointer (some a)) (.pointer none)).run P w=.ok false w:=fun q=>by
    unfold Op.equal Op.maxDepth Op.equalIn;simp[m]
   unfold Ac6 at c
   split at c
   ·simp only[Rep] at d f;subst d f;simp at c;subst c;exact⟨_,_,rfl,rfl,nn none⟩
   ·simp only[Rep] at d f;obtain⟨_,k,o,_,rfl,_⟩:=f;subst d;simp at c;subst c;exact⟨_,_,rfl,rfl,nn (some _)⟩
   ·simp only[Rep] at d f;obtain⟨_,k,o,_,rfl,_⟩:=d;subst f;simp at c;subst c;exact⟨_,_,rfl,rfl,s _⟩
   ·simp only[Rep] at d f;rw[RepC] at f;obtain⟨a,rfl,_⟩:=f;subst d;simp at c;subst c;exact⟨_,_,rfl,rfl,nn (some _)⟩
   ·simp only[Rep] at d f;rw[RepC] at d;obtain⟨a,rfl,_⟩:=d;subst f;simp at c;subst c;exact⟨_,_,rfl,rfl,s _⟩
   ·rename_i L o1 M o2
    obtain⟨z,K,c⟩:=ub c
    obtain⟨A,c⟩:=uc c
    have A:=Nat.eq_of_beq_eq_true A
    subst A
    obtain⟨B,i⟩:=Cr F K
    rw[Rep] at d f
    obtain⟨x1,O,T,⟨C,_⟩,rfl,u⟩:=d
    obtain⟨x2,U,V,⟨D,_⟩,rfl,j⟩:=f
    rw[B] at C D;simp at C D;subst C D
    rcases u with u | u
    ·rw[u] at i;cases i
    ·rcases j with j | j
     ·rw[j] at i;cases i
     ·rw[u] at j;simp at j;obtain⟨rfl,rfl⟩:=j
      refine⟨_,_,rfl,rfl,?_⟩
      simp at c
      unfold Op.equal Op.maxDepth Op.equalIn
      simp[m,I,v,sameAddr]
      by_cases e:o1=o2
      ·subst e;simp at c;simp[c]
      ·rw[EC e] at c;subst c;simp;exact e
   ·cases c
  ·cases l
 ·cases l
theorem tQ {g:A0} {op:BinOp} {t:TypeId} {x y:AV} {k:AV→O R} {vx vy:Value} (S:SimH J β h w) (i:Looks g h) (c:nz P g t op x y k=some r) (d:Rep J β h w x vx) (e:Rep J β h w y vy) (ox oy:Operand) :
  ∃ v vc,k v=some r∧(do eqGuard op t ox oy vx vy;binOp op t vx vy:Sem Value).run P w=.ok vc w∧Rep J β h w v vc:=by
 unfold nz at c
 split at c
 ·rename_i b j
  obtain⟨l,c⟩:=uc c
  obtain⟨p,q,rfl,rfl,f⟩:=tP S i j l d e
  split at c
  ·refine⟨_,.bool b,c,?_,by rw[Rep]⟩
   simp[eqGuard,binOp,f]
  ·refine⟨_,.bool (!b),c,?_,by rw[Rep]⟩
   simp[eqGuard,binOp,f]
  ·cases c
 ·exact tO c d e ox oy
end
end Gx

namespace Gx
open Go Go.MapKept
section
variable {R:Type} {r:R} {P:Program} {J:Bool→Nat→Prop} {β:Bl} {h:Ah} {w:World} {g:A0}
theorem ZS:∀ (l:List Int) (n:Int),gX (l.map fun m=>.int .i64 m) n=true↔n ∈ l
 | [],n=>by simp[gX]
 | m::r,n=>by
  rw[List.map_cons,gX]
  by_cases e:n=m
  ·simp[e]
  ·simp[e,ZS r n]
theorem tR {c:LA} {es:Array MapEntry} {l:List Int} (d:es.toList.map (fun e=>(e.key,e.val))=l.map (fun n=>((.int .i64 n:Value),(.bool true:Value)))) {x:MapEntry} (i:x ∈ es.toList):∃ n,n ∈ l∧x.key=.int .i64 n∧x.val=.bool true:=by
 have:=List.mem_map_of_mem (f:=fun e:MapEntry=>(e.key,e.val)) i
 rw[d] at this
 obtain⟨n,j,b⟩:=List.mem_map.1 this
 simp at b
 exact⟨n,j,b.1.symm,b.2.symm⟩
theorem Adf {es:Array MapEntry} {l:List Int} (c:es.toList.map (fun e=>(e.key,e.val))=l.map (fun n=>((.int .i64 n:Value),(.bool true:Value)))) {n:Int} (d:n ∈ l):∃ x ∈ es.toList,x.key=.int .i64 n:=by
 have:=List.mem_map_of_mem (f:=fun n:Int=>((.int .i64 n:Value),(.bool true:Value))) d
 rw[←c] at this
 obtain⟨x,i,b⟩:=List.mem_map.1 this
 simp at b
 exact⟨x,i,b.1⟩
theorem tS {c:LA} {es:Array MapEntry} (A:Ag0 c es) (n:Int) :
  (gX c n=false∧Instr.findNow (.int .i64) (.int .i64 n) es.toList 0=some none) ∨
  (gX c n=true∧∃ j e,Instr.findNow (.int .i64) (.int .i64 n) es.toList 0=some (some (j,.bool true))∧es[j]?=some e∧e.key=.int .i64 n∧e.val=.bool true):=by
 obtain⟨l,rfl,t⟩:=A
 have u:∀ x ∈ es.toList,IsKey (.int .i64) x.key:=fun x v=>by
  obtain⟨m,_,f,_⟩:=tR (c:=[]) t v
  rw[f];simp[IsKey]
 rcases findNow_spec (d:=.int .i64) (k:=.int .i64 n) (by simp[IsKey]) es.toList 0 u with⟨f,s⟩ | ⟨j,e,f,s,z⟩
 ·left
  refine⟨?_,f⟩
  cases B:gX (l.map fun m=>.int .i64 m) n with
  | false=>rfl
  | true =>
   obtain⟨x,v,C⟩:=Adf t ((ZS l n).1 B)
   exact absurd C (s x v)
 ·right
  have i:e ∈ es.toList:=List.mem_of_getElem? s
  obtain⟨m,y,b,q⟩:=tR (c:=[]) t i
  rw[z] at b;simp at b;subst b
  refine⟨(ZS l n).2 y,j,e,?_,by simpa using s,z,q⟩
  rw[f,q,Nat.zero_add]
theorem gi {t:TypeId} (d:qU P t=true):∃ kt et,P.underlying t=some (.map kt et)∧P.underlying kt=some (.int .i64)∧∀ w,(zeroValue et).run P w=.ok (.bool false) w:=by
 unfold qU at d
 split at d
 ·rename_i kt et l
  simp only[Bool.and_eq_true] at d
  obtain⟨f,j⟩:=d
  refine⟨kt,et,l,?_,fun w=>?_⟩
  ·split at f
   ·assumption
   ·cases f
  ·split at j
   ·rename_i b
    unfold gQ at b
    cases e:P.info? et with
    | none=>rw[e] at b;simp at b
    | some i =>
     rw[e] at b
     cases c:i.zero with
     | none=>simp[c] at b
     | some z =>
      simp[c] at b
      have:z=.bool false:=by
       have k:=Y7 (J:=fun _ _=>False) (β:=fun _=>none) (h:=[]) (w:=w) z
       rw[b,Rep] at k;exact k
      subst this
      simp[zeroValue,typeInfo,e,c]
   ·cases j
 ·cases d
theorem Adg {b:Nat} {x:Blk} {v:Value} (S:SimH J β h w) (f:Ak h b=some x) (i:x.dead=false) (c:Rep J β h w (.omap b) v) :
  ∃ k ob,x.mp=true∧β b=some (k,0)∧v=Ah9 x.sz k∧w.heap[k]?=some ob∧ObjIs x ob∧x.sealed=false∧x.pure=true:=by
 rw[Rep] at c
 obtain⟨y,k,⟨d,j⟩,c⟩:=c
 rw[f] at d;simp at d;subst d
 rcases c with c | ⟨l,m⟩
 ·simp[i] at c
 ·obtain⟨n,q,u,ob,e,s,t,_⟩:=S.mblk b x f i j
  rw[l] at e;simp at e;subst e
  exact⟨k,ob,j,l,m,s,t,q,n⟩
theorem zG {b:Nat} {x:Blk} {v:Value} (S:SimH J β h w) (e:Ak h b=some x) (f:x.dead=false) (i:x.sz=0) (j:Rep J β h w (.omap b) v) :
  ∃ k es clk,x.mp=true∧β b=some (k,0)∧v=.map (some k)∧w.heap[k]?=some (.map es clk)∧Ag0 x.cells es∧x.sealed=false∧x.pure=true:=by
 obtain⟨k,ob,l,m,d,n,c,q,s⟩:=Adg S e f j
 rw[i] at d
 rcases c with⟨_,es,clk,rfl,c⟩ | ⟨c,_⟩
 ·exact⟨k,es,clk,l,m,d,n,c,q,s⟩
 ·omega
theorem Ae9 {b:Nat} {x:Blk} {v:Value} (S:SimH J β h w) (e:Ak h b=some x) (f:x.dead=false) (i:x.sz=1) (j:Rep J β h w (.omap b) v) :
  ∃ k s pos,x.mp=true∧β b=some (k,0)∧v=.pointer (some ⟨k,0,none⟩)∧w.heap[k]?=some (.stringIter ⟨⟨s⟩⟩ pos)∧x.cells=[.str s,.int .i64 ((pos:Nat):Int)]∧x.sealed=false∧x.pure=true:=by
 obtain⟨k,ob,l,m,d,n,c,q,t⟩:=Adg S e f j
 rw[i] at d
 rcases c with⟨c,_⟩ | ⟨_,s,pos,rfl,c⟩
 ·omega
 ·exact⟨k,s,pos,l,m,d,n,c,q,t⟩
theorem BK {k pos:Nat} {s:ByteArray} (b:w.heap[k]?=some (.stringIter s pos)):(getObj k).run P w=.ok (.stringIter s pos) w:=by
 simp[getObj,Sem.run,b]
theorem fJ {k pos:Nat} {s:ByteArray} (ob:Obj) (b:w.heap[k]?=some (.stringIter s pos)):(setObj k ob).run P w=.ok () { w with heap:=w.heap.setIfInBounds k ob }:=by
 simp[setObj,Sem.run,b]
theorem qk {d:Nat} {t:TypeId} {x:AV} {vx:Value} {k:AV→C9→O R} (S:SimH J β h w) (b:ZJ P d t x k=some r) (c:Rep J β h w x vx) :
  ∃ val ups,k val ups=some r∧(UpsFree d h ups→∃ vc w',(Instr.range t vx).run P w=.ok vc w'∧OpDone J β h w ups val vc w'):=by
 unfold ZJ at b
 split at b
 ·rename_i s e
  rw[Rep] at c;subst c
  refine⟨_,_,b,fun f=>⟨.pointer (some ⟨w.heap.size,0,none⟩),w.alloc (.stringIter ⟨⟨s⟩⟩ 0),?_,?_⟩⟩
  ·simp only[Instr.range,Sem.run_bind,run_underlying e,Result.andThen_ok,Sem.run_pure];rfl
  have A:=Step.newObj (x:={ dead:=false,sealed:=false,pure:=true,taint:=false,sz:=1,cells:=[.str s,.int .i64 0],mp:=true }) (ob:=.stringIter ⟨⟨s⟩⟩ 0) S (f.nid (by simp[Ax])) rfl rfl rfl (.inr ⟨rfl,s,0,rfl,rfl⟩) rfl
  refine⟨_,_,A,?_⟩
  rw[Rep]
  exact⟨{ dead:=false,sealed:=false,pure:=true,taint:=false,sz:=1,cells:=[.str s,.int .i64 0],mp:=true },w.heap.size,⟨by simp[Ai,Ae],rfl⟩,.inr ⟨by simp,rfl⟩⟩
 ·simp at b
theorem tT {d:Nat} {t:TypeId} {it:AV} {b:Bool} {vi:Value} {k:AV→C9→O R} (S:SimH J β h w) (C:Looks g h) (m:ny g it b k=some r) (D:Rep J β h w it vi) :
  ∃ val ups,k val ups=some r∧(UpsFree d h ups→∃ vc w',(Instr.next vi b t).run P w=.ok vc w'∧OpDone J β h w ups val vc w'):=by
 unfold ny at m
 split at m
 ·rename_i F
  obtain⟨x,G,I⟩:=ub m
  obtain⟨A,f⟩:=uc I
  simp only[Bool.and_eq_true] at A
  obtain⟨i,n⟩:=A
  have n:=Nat.eq_of_beq_eq_true n
  obtain⟨B,q⟩:=Cr C G
  obtain⟨kk,s,pos,_,K,rfl,l,u,v,y⟩:=Ae9 S B q n D
  rw[u] at f
  simp only at f
  have z:=Y9 l
  cases c:decide (((pos:Nat):Int)<(s.length:Int)) with
  | true =>
   rw[c] at f
   have c:pos<s.length:=by have:=of_decide_eq_true c;omega
   have e:pos<(⟨⟨s⟩⟩:ByteArray).size:=c
   refine⟨_,_,f,fun _=>⟨.tuple #[.bool true,goInt pos,.int .i32 ((W2 s pos).1:Nat)],{ w with heap:=w.heap.setIfInBounds kk (.stringIter ⟨⟨s⟩⟩ (pos+(W2 s pos).2)) },?_,J,β,?_,?_⟩⟩
   ·simp[Instr.next,BK l,e,fJ _ l,W2]
   ·show Step J β h w J β (Dk h F _) _
    refine Step.setObj (ob:=.stringIter ⟨⟨s⟩⟩ pos) S B q i K l (by simp[z]) (fun j L=>by simp[Array.getElem?_setIfInBounds,Ne.symm L]) (by simp) rfl rfl rfl (.inr ⟨n,s,pos+(W2 s pos).2,rfl,by simp⟩) q v y rfl i
   ·rw[Rep]
    refine⟨_,rfl,?_⟩
    simp[Reps,Rep,goInt]
  | false =>
   rw[c] at f
   have c:¬ pos<s.length:=by have:=of_decide_eq_false c;omega
   have e:¬ pos<(⟨⟨s⟩⟩:ByteArray).size:=c
   refine⟨_,_,f,fun _=>⟨.tuple #[.bool false],w,?_,J,β,Step.refl S,?_⟩⟩
   ·simp[Instr.next,BK l,e]
   ·rw[Rep]
    refine⟨_,rfl,?_⟩
    simp[Reps,Rep]
 ·simp at m
theorem gj {d:Nat} {t:TypeId} {k:AV→C9→O R} (S:SimH J β h w) (b:Rw d none k=some r) :
  ∃ val ups,k val ups=some r∧(UpsFree d h ups→∃ vc w',(Instr.makeMap t none).run P w=.ok vc w'∧OpDone J β h w ups val vc w'):=by
 unfold Rw at b
 refine⟨_,_,b,fun c=>⟨.map (some w.heap.size),w.alloc (.map #[] 0),rfl,?_⟩⟩
 have A:=Step.newObj (x:={ dead:=false,sealed:=false,pure:=true,taint:=false,sz:=0,cells:=[],mp:=true }) (ob:=.map #[] 0) S (c.nid (by simp[Ax])) rfl rfl rfl (.inl ⟨rfl,#[],0,rfl,[],rfl,by simp⟩) rfl
 refine⟨_,_,A,?_⟩
 rw[Rep]
 exact⟨{ dead:=false,sealed:=false,pure:=true,taint:=false,sz:=0,cells:=[],mp:=true },w.heap.size,⟨by simp[Ai,Ae],rfl⟩,.inr ⟨by simp,rfl⟩⟩
theorem tU {t:TypeId} {m key:AV} {c:Bool} {vm vk:Value} {k:AV→O R} (S:SimH J β h w) (y:Looks g h) (l:nx P g t m key c k=some r) (z:Rep J β h w m vm) (f:Rep J β h w key vk) :
  ∃ v vc,k v=some r∧(Instr.lookup t vm vk c).run P w=.ok vc w∧Rep J β h w v vc:=by
 unfold nx at l
 split at l
 ·rename_i b n
  obtain⟨A,B⟩:=uc l
  obtain⟨x,C,D⟩:=ub B
  obtain⟨d,F⟩:=uc D
  simp only[Bool.and_eq_true] at d
  obtain⟨d,q⟩:=d
  have q:=Nat.eq_of_beq_eq_true q
  obtain⟨G,I⟩:=Cr y C
  rw[Rep] at f;subst f
  obtain⟨kk,es,clk,_,L,rfl,f,K,_,_⟩:=zG S G I q z
  obtain⟨kt,et,u1,u2,u3⟩:=gi A
  refine⟨_,.bool (gX x.cells n),F,?_,by rw[Rep]⟩
  have i:IsKey (.int .i64) (.int .i64 n):=by simp[IsKey]
  rcases tS K n with⟨s,u⟩ | ⟨s,j,e,u,_,_,_⟩
  ·rw[s]
   simp[Instr.lookup,run_underlying u1,run_getObj_map f,run_checkKey u2 i,run_findKey u2 u,u3,Result.andThen]
  ·rw[s]
   simp[Instr.lookup,run_underlying u1,run_getObj_map f,run_checkKey u2 i,run_findKey u2 u,Result.andThen]
 ·simp at l
theorem ql {t:TypeId} {m key val:AV} {vm vk vv:Value} {k:AV→C9→O R} (S:SimH J β h w) (U:Looks g h) (A:ZI P g t m key val k=some r) (V:Rep J β h w m vm) (d:Rep J β h w key vk) (K:Rep J β h w val vv) :
  ∃ ups,k .undef ups=some r∧∃ J' β' w',(Instr.mapUpdate t vm vk vv).run P w=.ok () w'∧Step J β h w J' β' (Ai ups h) w':=by
 unfold ZI at A
 split at A
 ·rename_i b n
  obtain⟨X,Y⟩:=uc A
  obtain⟨x,hx,h2⟩:=ub Y
  obtain⟨c,h3⟩:=uc h2
  simp only[Bool.and_eq_true] at c
  obtain⟨c,u⟩:=c
  have u:=Nat.eq_of_beq_eq_true u
  obtain⟨B,v⟩:=Cr U hx
  simp only[Rep] at d K;subst d K
  obtain⟨kk,es,clk,_,L,rfl,d,C,y,z⟩:=zG S B v u V
  obtain⟨kt,et,u1,u2,u3⟩:=gi X
  have f:IsKey (.int .i64) (.int .i64 n):=by simp[IsKey]
  have hlt:=Y9 d
  refine⟨_,h3,J,β,?_⟩
  rcases tS C n with⟨D,F⟩ | ⟨D,j,e,F,M,T,g5⟩
  ·refine⟨{ w with heap:=w.heap.setIfInBounds kk (.map (es.push { key:=.int .i64 n,val:=.bool true,born:=clk }) (clk+1)) },?_,?_⟩
   ·simp[Instr.mapUpdate,run_underlying u1,run_getObj_map d,run_checkKey u2 f,run_findKey u2 F,run_setObj_map _ d,Result.andThen]
   ·refine Step.setObj S B v c L d (heap_set d).1 (fun j G=>(heap_set d).2 j G) (by simp) rfl rfl rfl (.inl ⟨u,_,_,rfl,?_⟩) v y z rfl c
    obtain⟨l,q,s⟩:=C
    refine⟨l++[n],?_,?_⟩
    ·show Ac5 x.cells n=_
     unfold Ac5;rw[D,q];simp
    ·simp[s]
  ·refine⟨{ w with heap:=w.heap.setIfInBounds kk (.map (es.modify j fun e=>{ e with key:=.int .i64 n,val:=.bool true }) clk) },?_,?_⟩
   ·simp[Instr.mapUpdate,run_underlying u1,run_getObj_map d,run_checkKey u2 f,run_findKey u2 F,M,T,run_keyThatStays f,run_setObj_map _ d,Result.andThen]
   ·refine Step.setObj S B v c L d (heap_set d).1 (fun j G=>(heap_set d).2 j G) (by simp) rfl rfl rfl (.inl ⟨u,_,_,rfl,?_⟩) v y z rfl c
    obtain⟨l,q,s⟩:=C
    refine⟨l,?_,?_⟩
    ·show Ac5 x.cells n=_
     unfold Ac5;rw[D,q];rfl
    ·have:es.modify j (fun e=>{ e with key:=.int .i64 n,val:=.bool true })=es:=by
      apply Array.ext_getElem?
      intro i
      rw[Array.getElem?_modify]
      split
      ·rename_i I;subst I
       rw[M];simp;rw[←T,←g5]
      ·rfl
     rw[this];exact s
 ·simp at A
end
end Gx

namespace Gx
open Go
def QC (E:Env):Prop:=∀ (R:Type) (r:R) (k:AV→C9→O R) (J:Bool→Nat→Prop) (β:Bl) (h:Ah) (w:World) (g:A0) (d f:Nat) (args:LA) (vs:List Value),
 SimH J β h w→Looks g h→oA E g d f args k=some r→Reps J β h w args vs →
 ∃ val ups,k val ups=some r∧(UpsFree d h ups→Calls E.P f vs.toArray w fun e w'=>∃ vc,e=.returned vc∧OpDone J β h w ups val vc w')
section
variable {R:Type} {r:R} {P:Program} {J J':Bool→Nat→Prop} {β:Bl} {h:Ah} {w w':World} {g:A0} {o:Oper} {a:Act} {next:Act→World→Prop} {Q:Exit→Act→World→Prop}
theorem D6 {vc:Value} (b:(execOp a.eval o).run P w=.ok (.value vc) w') (c:next (a.put o.dst vc) w'):o.wp P a w next Q:=by
 unfold Oper.wp;rw[b];exact c
theorem tV (b:(execOp a.eval o).run P w=.ok .skip w') (c:next (a.put o.dst undef) w'):o.wp P a w next Q:=by
 unfold Oper.wp;rw[b];exact c
theorem OpDone.same (S:SimH J β h w) {v:AV} {vc:Value} (b:Rep J β h w v vc):OpDone J β h w [] v vc w:=⟨J,β,Step.refl S,b⟩
theorem gk {s:Ev} (SS:SimS J β h w s a.tmps):∀ (xs:List Operand),Reps J β h w (xs.map (ev s)) (xs.map a.eval)
 | []=>by simp[Reps]
 | x::r=>by rw[List.map_cons,List.map_cons,Reps];exact⟨_,_,rfl,Az SS x,gk SS r⟩
theorem Qo {s:Ev} (SS:SimS J β h w s a.tmps):∀ (ps:List (Nat×Operand)),RepParts J β h w (ps.map fun p=>(p.1,ev s p.2)) (ps.map fun p=>(p.1,a.eval p.2))
 | []=>by simp[RepParts]
 | p::r=>by rw[List.map_cons,List.map_cons,RepParts];exact⟨_,_,rfl,Az SS p.2,Qo SS r⟩
theorem gn {s:Ev} (SS:SimS J β h w s a.tmps) (x:Option Operand):T8 J β h w (x.map (ev s)) (x.map a.eval):=by
 cases x with
 | none=>simp[T8]
 | some x=>simp[T8];exact Az SS x
theorem Reps.append:∀ {c c':LA} {cs b:List Value},Reps J β h w c cs→Reps J β h w c' b→Reps J β h w (c++c') (cs++b)
 | [],c',cs,b,d,e=>by rw[Reps] at d;subst d;exact e
 | x::r,c',cs,b,d,e=>by
  rw[Reps] at d
  obtain⟨u,f,rfl,i,j⟩:=d
  rw[List.cons_append,List.cons_append,Reps]
  exact⟨u,f++b,rfl,i,Reps.append j e⟩
theorem tW {J:Nat→Prop}:∀ {c:LA} {cs:List Value},Cw c=true→Reps (fun _ _=>False) (fun _=>none) [] w c cs→RepCs J w c (fun j=>cs[j]?) 0∧cs.length=c.length:=by
 intro c cs k e
 rw[Bm] at e
 refine⟨?_,e.1⟩
 rw[Bi]
 intro j x d
 have b:j<cs.length:=by rw[e.1];exact(List.getElem?_eq_some_iff.1 d).1
 refine⟨cs[j],by simp[b],?_⟩
 have f:=e.2 j x cs[j] d (List.getElem?_eq_getElem b)
 have l:Cw [x]=true:=by
  clear e f b
  induction c generalizing j with
  | nil=>simp at d
  | cons y r m =>
   have i:Cw r=true:=by unfold Cw at k;split at k<;>simp_all
   cases j with
   | zero=>simp at d;subst d;cases y<;>simp_all[Cw]
   | succ j=>exact m i j (by simpa using d)
 cases x<;>simp[Cw] at l<;>(rw[Rep] at f;rw[RepC];exact f)
theorem zl {co:Bool} {v:AV} {vv:Value} (b:∀ (J:Bool→Nat→Prop) (β:Bl) (h:Ah),Rep J β h w v vv):Rep J β h w (Ac2 co v) vv:=by
 unfold Ac2
 split
 ·rename_i c
  cases e:Cw c with
  | false=>exact b J β h
  | true =>
   have d:=b (fun _ _=>False) (fun _=>none) []
   rw[Rep] at d
   obtain⟨cs,rfl,f⟩:=d
   obtain⟨i,j⟩:=tW (J:=J false) e f
   rw[cond_true,Rep]
   exact⟨cs,rfl,j,i⟩
 ·exact b J β h
theorem QD {d:Nat}:∀ {l:List (Nat×Nat)} {j:Nat} {c:LA},1≤j→Ax (Ec d l j c).2 (nid d)=false
 | [],_,_,_=>by simp[Ec,Ax]
 | (o,sz)::l,j,c,b=>by
  rw[Ec]
  split
  ·simp only[Ax]
   rw[EC (by omega),cond_false]
   exact QD (by omega)
  ·exact QD (by omega)
theorem mZ {d:Nat} {t:TypeId} {k:AV→C9→O R} (S:SimH J β h w) (q:JE P g d t k=some r) :
  ∃ v val ups,(∃ i,P.info? t=some i∧i.zero=some v)∧k val ups=some r∧(UpsFree d h ups→∃ vc w',(Instr.box t v).run P w=.ok vc w'∧OpDone J β h w ups val vc w'):=by
 unfold JE at q
 split at q
 ·rename_i c m
  obtain⟨C,I⟩:=uc q
  simp only[Bool.and_eq_true] at C
  obtain⟨K,x⟩:=C
  obtain⟨v,L,M⟩:∃ v,(∃ i,P.info? t=some i∧i.zero=some v)∧YZ v=.agg c:=by
   unfold gQ at m
   cases s:P.info? t with
   | none=>simp[s] at m
   | some i =>
    cases e:i.zero with
    | none=>simp[s,e] at m
    | some v=>simp[s,e] at m;exact⟨v,⟨i,rfl,e⟩,m⟩
  have f:=Y7 (J:=J) (β:=β) (h:=h) (w:=w) v
  rw[M,Rep] at f
  obtain⟨cs,rfl,f⟩:=f
  refine⟨_,_,_,L,I,fun D=>⟨_,_,Zc,?_⟩⟩
  have T:=D.nid (by simp[Fn,Md,Ax])
  obtain⟨β',A,hA⟩:=Ot (d:=d) (l:=Me P t) (j:=1) S (Nat.le_refl _) (by simp at K;omega) (fun i s U z=>D _ (by rw[Fn,z];rfl) (by unfold W5;simp;omega)) f
  have B:Ak (Ai (Ec d (Me P t) 1 c).2 h) (nid d)=none:=by rw[Br _ _ _ (QD (Nat.le_refl _))];exact T
  have n:∀ (j:Nat) u,cs[j]?=some u→u.oneCell'=true:=fun j u F=>by
   rw[Bm] at f
   have b:j<c.length:=by rw[←f.1];exact(List.getElem?_eq_some_iff.1 F).1
   exact Jl (Qn x j c[j] (List.getElem?_eq_getElem b)) (f.2 j c[j] u (List.getElem?_eq_getElem b) F)
  rw[Bm] at hA
  refine OpDone.after A (JL A.sim B rfl rfl (by simp[Value.cells,hA.1]) ⟨fun V=>by simp at V,fun _ j y G=>?_⟩) (Lc _ _)
  have b:j<cs.length:=by rw[hA.1];exact(List.getElem?_eq_some_iff.1 G).1
  exact⟨cs[j],by simp[Value.cells,b],hA.2 j y _ G (List.getElem?_eq_getElem b),n j _ (List.getElem?_eq_getElem b)⟩
 ·simp at q
theorem qn {co:Bool} {d:Nat} {t:TypeId} {k:AV→C9→O R} (S:SimH J β h w) (G:Looks g h) (f:ZE P g co d t k=some r) :
  ∃ v val ups,(∃ i,P.info? t=some i∧i.zero=some v)∧k val ups=some r∧(UpsFree d h ups→∃ vc w',(Instr.box t v).run P w=.ok vc w'∧OpDone J β h w ups val vc w'):=by
 have zv:∀ {z:AV},gQ P t=some z→∃ v,(∃ i,P.info? t=some i∧i.zero=some v)∧YZ v=z:=by
  intro z c
  unfold gQ at c
  cases m:P.info? t with
  | none=>simp[m] at c
  | some i =>
   cases l:i.zero with
   | none=>simp[m,l] at c
   | some v=>simp[m,l] at c;exact⟨v,⟨i,rfl,l⟩,c⟩
 unfold ZE at f
 split at f
 ·rename_i L M c
  obtain⟨v,n,q⟩:=zv c
  obtain⟨sz,T,f⟩:=ub f
  refine⟨v,_,_,n,f,fun D=>⟨_,_,Zc,?_⟩⟩
  have F:=Y7 (J:=J) (β:=β) (h:=h) (w:=w) v
  rw[q,Rep] at F;subst F
  have s:∀ b,b=nid d+1→W5 d b=true:=fun b I=>by subst I;unfold W5 nid;simp
  have u:Ak h (nid d+1)=none:=D _ (by simp[Ax]) (s _ rfl)
  have B:Ak h (nid d)=none:=D.nid (by simp[Ax])
  have A:=Step.newNone S (d:=nid d+1) (x:=D4 sz) u rfl
  have e:([(nid d+1,some (D4 sz)),(nid d,some { dead:=false,sealed:=false,pure:=false,taint:=false,sz:=0,cells:=[.own (nid d+1) 0 0] })]:C9)=[(nid d+1,some (D4 sz))]++[(nid d,some { dead:=false,sealed:=false,pure:=false,taint:=false,sz:=0,cells:=[.own (nid d+1) 0 0] })]:=rfl
  rw[e]
  refine OpDone.after A (JL A.sim ?_ rfl rfl (by simp[Value.cells]) ⟨fun K=>by simp at K,fun _ j y C=>?_⟩) (Lc _ _)
  ·simp only[Ai];rw[Ae,if_neg (by omega)];exact B
  ·cases j with
   | zero =>
    simp at C;subst C
    refine⟨.slice none 0 0,by simp[Value.cells],?_,rfl⟩
    rw[Rep]
    exact⟨D4 sz,none,0,⟨by simp[Ai,Ae],rfl⟩,rfl,Nat.le_refl _,.inl rfl⟩
   | succ j=>simp at C
 ·rename_i z c _
  obtain⟨v,n,q⟩:=zv c
  obtain⟨val,ups,u,B⟩:=g_ S G f (vv:=v) (zl fun J β h=>by rw[←q];exact Y7 v)
  exact⟨v,val,ups,n,u,B⟩
 ·simp at f
theorem tX {c x y:AV} {vc vx vy:Value} {k:AV→O R} (d:oB c x y k=some r) (e:Rep J β h w c vc) (f:Rep J β h w x vx) (i:Rep J β h w y vy) :
  ∃ v,k v=some r∧∃ t:Bool,vc=.bool t∧Rep J β h w v (if t then vx else vy):=by
 unfold oB at d
 split at d
 ·rename_i t a b
  rw[Rep] at e f i
  subst e f i
  exact⟨_,d,t,rfl,by cases t<;>simp[Rep]⟩
 ·rename_i t x _
  rw[Rep] at e;subst e
  obtain⟨j,l⟩:=uc d
  subst j
  exact⟨_,l,true,rfl,f⟩
 ·rename_i t _ _ _
  rw[Rep] at e;subst e
  obtain⟨j,l⟩:=wn d
  subst j
  exact⟨_,l,false,rfl,i⟩
 ·rename_i t _ _ _
  rw[Rep] at e;subst e
  cases t
  ·exact⟨_,d,false,rfl,i⟩
  ·exact⟨_,d,true,rfl,f⟩
 ·simp at d
theorem wx {E:Env} (hC:QC E) {d:Nat} {s:Ev} {k:AV→C9→O R} (S:SimH J β h w) (SS:SimS J β h w s a.tmps) (U:Looks g h)
  (A:mW E g d (ev s) o.op k=some r) :
  ∃ val ups,k val ups=some r∧(UpsFree d h ups→(∀ vc w',OpDone J β h w ups val vc w'→next (a.put o.dst vc) w')→o.wp E.P a w next Q):=by
 unfold mW at A
 have same:∀ {v:AV} {vc:Value},k v []=some r→(execOp a.eval o).run E.P w=.ok (.value vc) w→Rep J β h w v vc →
   ∃ val ups,k val ups=some r∧(UpsFree d h ups→(∀ vc w',OpDone J β h w ups val vc w'→next (a.put o.dst vc) w')→o.wp E.P a w next Q) :=
  fun hk hrun hr=>⟨_,_,hk,fun _ G=>D6 hrun (G _ _ (OpDone.same S hr))⟩
 split at A
 ·rename_i x F
  exact same A (by simp[execOp,F]) (Az SS x)
 ·rename_i x F
  exact same A (by simp[execOp,F]) (Az SS x)
 ·rename_i c x y F
  obtain⟨v,B,C⟩:=tX A (Az SS c) (Az SS x) (Az SS y)
  obtain⟨t,ht,hr⟩:=C
  refine same B (vc:=if t then a.eval x else a.eval y) ?_ hr
  cases t<;>simp[execOp,F,ht,Go.asBool]
 ·rename_i t F
  obtain⟨v,val,ups,h0,B,C⟩:∃ v val ups,(∃ i,E.P.info? t=some i∧i.zero=some v)∧k val ups=some r∧(UpsFree d h ups→∃ vc w',(Instr.box t v).run E.P w=.ok vc w'∧OpDone J β h w ups val vc w'):=by
   cases hm:Fx E.cob (d+1000000) with
   | true=>rw[hm] at A;exact mZ S A
   | false=>rw[hm] at A;exact qn S U A
  refine⟨val,ups,B,fun T G=>?_⟩
  obtain⟨vc,w',D,I⟩:=C T
  refine D6 ?_ (G vc w' I)
  rw[Zc] at D
  simp only[Result.ok.injEq] at D
  obtain⟨rfl,rfl⟩:=D
  obtain⟨i,hi,hiz⟩:=h0
  simp[execOp,F,Instr.alloc,zeroValue,typeInfo,hi,hiz,newVar,newRow]
 ·rename_i t x F
  obtain⟨v',h0,hv'⟩:=qc A (Az SS x)
  obtain⟨val,ups,B,C⟩:=g_ S U h0 hv'
  refine⟨val,ups,B,fun T G=>?_⟩
  obtain⟨vc,w',D,I⟩:=C T
  exact D6 (by simp[execOp,F,D]) (G vc w' I)
 ·rename_i t parts F
  rw[QA] at A
  obtain⟨v,M,A⟩:=ub A
  obtain⟨u,B,C⟩:=qi (P:=E.P) S M (Qo SS parts.toList)
  obtain⟨val,ups,D,I⟩:=wu S A C
  refine⟨val,ups,D,fun T G=>D6 ?_ (G _ _ (I T))⟩
  have:(parts.map fun p=>(p.1,a.eval p.2))=(parts.toList.map fun p=>(p.1,a.eval p.2)).toArray:=by apply Array.ext';simp
  simp[execOp,F,this,B]
 ·rename_i t len parts F
  have:(parts.map fun p=>(p.1,a.eval p.2))=(parts.toList.map fun p=>(p.1,a.eval p.2)).toArray:=by apply Array.ext';simp
  cases hhard:(parts.toList.map fun p=>(p.1,ev s p.2)).any fun p=>Ac3 p.2 with
  | true =>
   rw[hhard] at A
   obtain⟨val,ups,B,C⟩:=ZR S A (Qo SS parts.toList)
   refine⟨val,ups,B,fun T G=>?_⟩
   obtain⟨vc,w',D,I⟩:=C T
   exact D6 (by simp[execOp,F,this,D]) (G vc w' I)
  | false =>
   rw[hhard] at A
   obtain⟨val,ups,B,C⟩:=SU S U A (Qo SS parts.toList)
   refine⟨val,ups,B,fun T G=>?_⟩
   obtain⟨vc,w',D,I⟩:=C T
   exact D6 (by simp[execOp,F,this,D]) (G vc w' I)
 ·rename_i t p F
  obtain⟨v,vc,B,C,D⟩:=cA S U A (Az SS p)
  exact same B (by simp[execOp,F,C]) D
 ·rename_i t p x F
  obtain⟨val,ups,B,J',β',w',C,D,rfl⟩:=qb S U A (Az SS p) (Az SS x)
  exact⟨.undef,ups,B,fun _ G=>tV (w':=w') (by simp[execOp,F,C]) (G undef w' ⟨J',β',D,by simp[Rep]⟩)⟩
 ·rename_i x F
  have B:=Az SS x
  split at A
  ·rename_i c oo Y
   rw[Y] at B
   refine same A (vc:=a.eval x) ?_ B
   rw[Rep,RepC] at B
   obtain⟨ad,C,_⟩:=B
   simp[execOp,F,C]
  ·rename_i b oo Y
   rw[Y] at B
   refine same A (vc:=a.eval x) ?_ B
   rw[Rep] at B
   obtain⟨_,kk,o',_,C,_⟩:=B
   simp[execOp,F,C]
  ·simp at A
 ·rename_i op t x y t2 F
  obtain⟨v,vc,B,C,D⟩:=tQ S U A (Az SS x) (Az SS y) x y
  refine same B ?_ D
  simp only[execOp,F]
  rw[Sem.run_bind,C];simp
 ·rename_i op t x F
  obtain⟨v,M,A⟩:=ub A
  obtain⟨vc,C,D⟩:=zh (P:=E.P) M (Az SS x)
  exact same A (by simp[execOp,F,C]) D
 ·rename_i src dst x F
  obtain⟨val,ups,B,C⟩:=qg S U A (Az SS x)
  refine⟨val,ups,B,fun T G=>?_⟩
  obtain⟨vc,w',D,I⟩:=C T
  exact D6 (by simp[execOp,F,D]) (G vc w' I)
 ·rename_i f first caps F
  obtain⟨T,A⟩:=uc A
  have hf':f<1000000:=by simpa using T
  have key:∀ (a n:Nat),a<1000000→(a+1000000*n)%1000000=a∧(a+1000000*n)/1000000=n:=by intro a n h;omega
  have V:=(key f first.toList.length hf').1
  have e2:=(key f first.toList.length hf').2
  refine same (vc:=.func (.func f) ⟨first.toList.map a.eval⟩ ⟨caps.toList.map a.eval⟩) A ?_ ?_
  ·simp only[execOp,F,Instr.makeFunc]
   simp
   refine⟨?_,?_⟩<;>(apply Array.ext';simp)
  ·rw[Rep,V,e2]
   refine⟨(first.toList++caps.toList).map a.eval,?_,gk SS _⟩
   simp
 ·rename_i t l c F
  obtain⟨val,ups,B,C⟩:=tI S A (Az SS l) (Az SS c)
  refine⟨val,ups,B,fun T G=>?_⟩
  obtain⟨vc,w',D,I⟩:=C T
  exact D6 (by simp[execOp,F,D]) (G vc w' I)
 ·rename_i t x lo hi mx F
  obtain⟨v,vc,B,C,D⟩:=qa U A (Az SS x) (gn SS lo) (gn SS hi) (gn SS mx)
  exact same B (by simp[execOp,F,C]) D
 ·rename_i t x f F
  obtain⟨v,vc,B,C,D⟩:=ZO A (Az SS x)
  exact same B (by simp[execOp,F,C]) D
 ·rename_i t x f F
  obtain⟨v,vc,B,C,D⟩:=q9 A (Az SS x)
  exact same B (by simp[execOp,F,C]) D
 ·rename_i t x i F
  obtain⟨v,vc,B,C,D⟩:=ZN A (Az SS x) (Az SS i)
  exact same B (by simp[execOp,F,C]) D
 ·rename_i t x i F
  obtain⟨v,vc,B,C,D⟩:=q_ A (Az SS x) (Az SS i)
  exact same B (by simp[execOp,F,C]) D
 ·rename_i t rr F
  cases rr with
  | some x=>simp[Rw] at A
  | none =>
   obtain⟨val,ups,B,C⟩:=gj (P:=E.P) (t:=t) S A
   refine⟨val,ups,B,fun T G=>?_⟩
   obtain⟨vc,w',D,I⟩:=C T
   exact D6 (by simp[execOp,F,D]) (G vc w' I)
 ·rename_i t m x y F
  obtain⟨ups,B,J',β',w',C,D⟩:=ql S U A (Az SS m) (Az SS x) (Az SS y)
  exact⟨.undef,ups,B,fun _ G=>tV (w':=w') (by simp[execOp,F,C]) (G undef w' ⟨J',β',D,by simp[Rep]⟩)⟩
 ·rename_i t m x c F
  obtain⟨v,vc,B,C,D⟩:=tU S U A (Az SS m) (Az SS x)
  exact same B (by simp[execOp,F,C]) D
 ·rename_i t x F
  obtain⟨val,ups,B,C⟩:=qk (P:=E.P) S A (Az SS x)
  refine⟨val,ups,B,fun T G=>?_⟩
  obtain⟨vc,w',D,I⟩:=C T
  exact D6 (by simp[execOp,F,D]) (G vc w' I)
 ·rename_i x b F
  obtain⟨val,ups,B,C⟩:=tT (P:=E.P) (d:=d) (t:=o.type) S U A (Az SS x)
  refine⟨val,ups,B,fun T G=>?_⟩
  obtain⟨vc,w',D,I⟩:=C T
  exact D6 (by simp[execOp,F,D]) (G vc w' I)
 ·rename_i t i F
  split at A
  ·rename_i vs ht
   obtain⟨v,M,A⟩:=ub A
   have B:=Az SS t
   rw[ht,Rep] at B
   obtain⟨cs,C,D⟩:=B
   rw[Bm] at D
   have hlt:i<cs.length:=by rw[D.1];exact(List.getElem?_eq_some_iff.1 M).1
   refine same A (vc:=cs[i]) ?_ (D.2 i v _ M (List.getElem?_eq_getElem hlt))
   simp[execOp,F,Instr.extract,C,hlt]
  ·simp at A
 ·rename_i c F
  split at A
  ·rename_i X
   split at A
   ·rename_i x t B C
    obtain⟨v,M,A⟩:=ub A
    have V:c.args=#[x]:=by apply Array.ext';simpa using B
    have e2:c.argTypes=#[t]:=by apply Array.ext';simpa using C
    obtain⟨vc,D,I⟩:=wo (P:=E.P) (ty:=o.type) M (Az SS x)
    refine same A ?_ I
    simp[execOp,F,resolve,X,V,e2,invoke,builtin,D]
   ·simp at A
  ·rename_i X
   split at A
   ·rename_i x y t tx B C
    have V:c.args=#[x,y]:=by apply Array.ext';simpa using B
    have e2:c.argTypes=#[t,tx]:=by apply Array.ext';simpa using C
    obtain⟨val,ups,D,I⟩:=mY (ty:=o.type) S U A (Az SS x) (Az SS y)
    refine⟨val,ups,D,fun T G=>?_⟩
    obtain⟨vc,w',h5,h6⟩:=I T
    refine D6 ?_ (G vc w' h6)
    simp[execOp,F,resolve,X,V,e2,invoke,builtin,h5]
   ·simp at A
  ·rename_i X
   split at A
   ·rename_i x y t tx B C
    have V:c.args=#[x,y]:=by apply Array.ext';simpa using B
    have e2:c.argTypes=#[t,tx]:=by apply Array.ext';simpa using C
    obtain⟨val,ups,D,vc,w',h5,h6⟩:=tL (tx:=tx) (ty:=o.type) S U A (Az SS x) (Az SS y)
    refine⟨val,ups,D,fun T G=>?_⟩
    refine D6 ?_ (G vc w' h6)
    simp[execOp,F,resolve,X,V,e2,invoke,builtin,h5]
   ·simp at A
  ·rename_i X
   split at A
   ·rename_i x t B C
    have V:c.args=#[x]:=by apply Array.ext';simpa using B
    have e2:c.argTypes=#[t]:=by apply Array.ext';simpa using C
    obtain⟨val,ups,D,vc,w',h5,h6⟩:=qf (ty:=o.type) S U A (Az SS x)
    refine⟨val,ups,D,fun T G=>?_⟩
    refine D6 ?_ (G vc w' h6)
    simp[execOp,F,resolve,X,V,e2,invoke,builtin,h5]
   ·simp at A
  ·rename_i X
   split at A
   ·rename_i x y B
    obtain⟨v,M,A⟩:=ub A
    have V:c.args=#[x,y]:=by apply Array.ext';simpa using B
    have C:=Az SS x
    have D:=Az SS y
    unfold ze at M
    split at M
    ·rename_i k1 a1 k2 a2 Y hy
     simp at M;subst M
     rw[Y,Rep] at C;rw[hy,Rep] at D
     refine same A (vc:=.int k1 (zd a1 a2)) ?_ (by rw[Rep])
     simp[execOp,F,resolve,X,V,invoke,builtin,C,D,Builtin.min_,Builtin.min2,zd,cond_eq_ite]
    ·simp at M
   ·rename_i x y z B
    obtain⟨q,hq,A⟩:=ub A
    obtain⟨v,M,A⟩:=ub A
    have V:c.args=#[x,y,z]:=by apply Array.ext';simpa using B
    have C:=Az SS x
    have D:=Az SS y
    have I:=Az SS z
    unfold ze at hq
    split at hq
    ·rename_i k1 a1 k2 a2 Y hy
     simp at hq;subst hq
     unfold ze at M
     split at M
     ·rename_i k3 a3 k4 a4 hx2 hz
      simp at hx2;obtain⟨rfl,rfl⟩:=hx2
      simp at M;subst M
      rw[Y,Rep] at C;rw[hy,Rep] at D;rw[hz,Rep] at I
      refine same A (vc:=.int k1 (zd (zd a1 a2) a4)) ?_ (by rw[Rep])
      simp[execOp,F,resolve,X,V,invoke,builtin,C,D,I,Builtin.min_,Builtin.min2,zd,cond_eq_ite]
     ·simp at M
    ·simp at hq
   ·simp at A
  ·rename_i X
   split at A
   ·rename_i x y B
    obtain⟨v,M,A⟩:=ub A
    have V:c.args=#[x,y]:=by apply Array.ext';simpa using B
    have C:=Az SS x
    have D:=Az SS y
    unfold zf at M
    split at M
    ·rename_i k1 a1 k2 a2 Y hy
     simp at M;subst M
     rw[Y,Rep] at C;rw[hy,Rep] at D
     refine same A (vc:=.int k1 (PZ a1 a2)) ?_ (by rw[Rep])
     simp[execOp,F,resolve,X,V,invoke,builtin,C,D,Builtin.max_,Builtin.max2,PZ,cond_eq_ite]
    ·simp at M
   ·rename_i x y z B
    obtain⟨q,hq,A⟩:=ub A
    obtain⟨v,M,A⟩:=ub A
    have V:c.args=#[x,y,z]:=by apply Array.ext';simpa using B
    have C:=Az SS x
    have D:=Az SS y
    have I:=Az SS z
    unfold zf at hq
    split at hq
    ·rename_i k1 a1 k2 a2 Y hy
     simp at hq;subst hq
     unfold zf at M
     split at M
     ·rename_i k3 a3 k4 a4 hx2 hz
      simp at hx2;obtain⟨rfl,rfl⟩:=hx2
      simp at M;subst M
      rw[Y,Rep] at C;rw[hy,Rep] at D;rw[hz,Rep] at I
      refine same A (vc:=.int k1 (PZ (PZ a1 a2) a4)) ?_ (by rw[Rep])
      simp[execOp,F,resolve,X,V,invoke,builtin,C,D,I,Builtin.max_,Builtin.max2,PZ,cond_eq_ite]
     ·simp at M
    ·simp at hq
   ·simp at A
  ·rename_i X
   split at A
   ·rename_i x B
    have V:c.args=#[x]:=by apply Array.ext';simpa using B
    obtain⟨val,ups,D,I⟩:=ZP (P:=E.P) (d:=d) (ts:=c.argTypes) (ty:=o.type) S U A (Az SS x)
    refine⟨val,ups,D,fun T G=>?_⟩
    obtain⟨vc,w',h5,h6⟩:=I T
    refine D6 ?_ (G vc w' h6)
    simp[execOp,F,resolve,X,V,invoke,builtin,h5]
   ·simp at A
  ·rename_i X
   split at A
   ·rename_i x y t tx B C
    have V:c.args=#[x,y]:=by apply Array.ext';simpa using B
    have e2:c.argTypes=#[t,tx]:=by apply Array.ext';simpa using C
    obtain⟨val,ups,D,I⟩:=ZQ (d:=d) (it:=tx) (ty:=o.type) S U A (Az SS x) (Az SS y)
    refine⟨val,ups,D,fun T G=>?_⟩
    obtain⟨vc,w',h5,h6⟩:=I T
    refine D6 ?_ (G vc w' h6)
    simp[execOp,F,resolve,X,V,e2,invoke,builtin,h5]
   ·simp at A
  ·rename_i fo X
   split at A
   ·rename_i f0 caps T
    have B:=Az SS fo
    rw[T,Rep] at B
    obtain⟨cs0,C,h30⟩:=B
    cases K:qX E.P (f0%1000000) with
    | false =>
     rw[K,cond_false] at A
     obtain⟨hne,A⟩:=uc A
     split at A
     ·rename_i x L hold
      rw[Reps] at h30;subst h30
      obtain⟨y,hy,rfl⟩:∃ y,c.args=#[y]∧x=ev s y:=by
       cases U:c.args.toList with
       | nil=>rw[U] at L;cases L
       | cons y l =>
        rw[U] at L;simp at L
        exact⟨y,by apply Array.ext';rw[U,L.2],L.1.symm⟩
      refine same (vc:=a.eval y) A ?_ (Az SS y)
      simp only[execOp,F,Sem.run_bind,resolve,X,C,Deferred.ofValue,Sem.run_pure,Result.andThen_ok,invoke,hy]
      simpa using zj hne (a.eval y) w
     ·simp at A
    | true =>
    rw[K,cond_true] at A
    have htk:Reps J β h w (caps.take (f0/1000000)) (cs0.take (f0/1000000))∧Reps J β h w (caps.drop (f0/1000000)) (cs0.drop (f0/1000000)):=by
     rw[Bm] at h30
     refine⟨Bm.2 ⟨by simp[h30.1],fun j x u Y hu=>?_⟩,Bm.2 ⟨by simp[h30.1],fun j x u Y hu=>?_⟩⟩
     ·rw[List.getElem?_take] at Y hu
      split at Y
      ·rename_i hj;rw[if_pos hj] at hu;exact h30.2 j x u Y hu
      ·simp at Y
     ·rw[List.getElem?_drop] at Y hu;exact h30.2 _ x u Y hu
    generalize f0%1000000=f at *
    generalize cs0.take (f0/1000000)=fs at *
    generalize cs0.drop (f0/1000000)=cs at *
    obtain⟨val,ups,I,h5⟩:=hC R r k J β h w g d f _ _ S U A (htk.1.append ((gk SS c.args.toList).append htk.2))
    refine⟨val,ups,I,fun hfr G=>?_⟩
    have hcall:=h5 hfr
    unfold qX at K
    cases hfn:E.P.funcs[f]? with
    | none=>rw[hfn] at K;simp at K
    | some fn =>
     rw[hfn] at K
     simp at K
     obtain⟨hb1,hb2⟩:=K
     have hb3:fn.body.isNone=false:=by cases hq:fn.body<;>simp_all
     have L:(⟨fs⟩:Array Value)++c.args.map a.eval++(⟨cs⟩:Array Value)=(fs++(c.args.toList.map a.eval++cs)).toArray:=by apply Array.ext';simp
     have hrun:(execOp a.eval o).run E.P w=.ok (.enter f (fs++(c.args.toList.map a.eval++cs)).toArray) w:=by
      simp only[execOp,F,Sem.run_bind,resolve,X,C,Deferred.ofValue,Sem.run_pure,Result.andThen_ok,invoke,callFunc,run_program,hfn]
      simp only[hb3,L]
      simp[hb2]
     unfold Oper.wp
     rw[hrun]
     refine Calls.mono hcall ?_
     rintro e w' ⟨vc,rfl,hd⟩
     exact G vc w' hd
   ·simp at A
  ·simp at A
 ·simp at A
end
end Gx

namespace Gx
open Go
structure Start where
 J:Bool→Nat→Prop
 β:Bl
 h:Ah
 w:World
structure Inv (Z:Start) (nt:Nat) (J:Bool→Nat→Prop) (β:Bl) (st:St) (a:Act) (w:World):Prop where
 sim:SimH J β st.h w
 ss:SimS J β st.h w st.s a.tmps
 tmps:a.tmps.size=nt
 defers:a.defers=[]
 os:w.os=Z.w.os
 tape:w.tape=Z.w.tape
 output:w.output=Z.w.output
 size:Z.w.heap.size≤w.heap.size
 frame:∀ k,k<Z.w.heap.size→¬ tH Z.β Z.h k→w.heap[k]?=Z.w.heap[k]?
 wr:∀ k,tH β st.h k→k<Z.w.heap.size→tH Z.β Z.h k
 jsub:∀ o k,Z.J o k→J o k
 jup:∀ o k,J o k→Z.J o k∨tH Z.β Z.h k∨Z.w.heap.size≤k
 sizes:∀ k,A1 Z.w k≤A1 w k
 zlt:∀ b x0,Ak Z.h b=some x0→b<200000
 zge:∀ b x0,Ak Z.h b=some x0→100000≤b
 outs:∀ b x0 x,Ak Z.h b=some x0→Ak st.h b=some x→x.dead=false→(β b=Z.β b∧x.mp=x0.mp)∧x.sz=x0.sz∧(x0.mp=false→x.cells.length=x0.cells.length)∧x0.dead=false
section
variable {R:Type} {r:R} {Z:Start} {nt:Nat} {J J':Bool→Nat→Prop} {β β':Bl} {st:St} {h':Ah} {a:Act} {w w':World} {ops:Array Oper} {o:Oper}
theorem Jm {s:Ev} {d:Option Nat} {v:AV} {i:Nat}:D2 (wk nt s d v) i=if d=some i∧i<nt then v else D2 s i:=by
 unfold wk
 cases d with
 | none=>simp
 | some d =>
  simp only[Option.some.injEq]
  cases c:Nat.blt d nt with
  | true =>
   have b:d<nt:=by simpa using c
   simp only[cond_true]
   rw[Jk]
   by_cases e:i=d
   ·subst e;simp[b]
   ·rw[if_neg e,if_neg (fun f=>e f.1.symm)]
  | false =>
   have b:¬ d<nt:=by intro j;rw[show Nat.blt d nt=true by simpa using j] at c;cases c
   simp only[cond_false]
   rw[if_neg (fun f=>by obtain⟨k,l⟩:=f;subst k;exact b l)]
theorem SimS.put {h:Ah} {s:Ev} {d:Option Nat} {v:AV} {vc:Value} (H:SimS J β h w s a.tmps) (m:a.tmps.size=nt) (j:Rep J β h w v vc):SimS J β h w (wk nt s d v) (a.put d vc).tmps:=by
 refine⟨fun i u b=>?_,fun i f=>?_⟩
 ·rw[Jm]
  cases d with
  | none=>simp;exact H.slot i u b
  | some d =>
   simp only[Act.put] at b
   rw[Array.getElem?_setIfInBounds] at b
   by_cases e:d=i
   ·subst e
    simp only[if_true] at b
    by_cases c:d<a.tmps.size
    ·simp[c] at b;subst b
     rw[if_pos ⟨rfl,by omega⟩];exact j
    ·simp[c] at b
   ·rw[if_neg e] at b
    rw[if_neg (fun k=>e (by simpa using k.1))]
    exact H.slot i u b
 ·have l:(a.put d vc).tmps.size=a.tmps.size:=by cases d<;>simp[Act.put]
  rw[l] at f
  rw[Jm,if_neg (by omega)]
  exact H.out i f
theorem SimS.ext {h:Ah} {s:Ev} {t:Array Value} (E:Ext J β h w J' β' h' w') (H:SimS J β h w s t):SimS J' β' h' w' s t :=
 ⟨fun i v b=>Rep.ext E (H.slot i v b),H.out⟩
theorem Inv.step (I:Inv Z nt J β st a w) (A:Step J β st.h w J' β' h' w') (f:∀ b x,Ak h' b=some x→Ak st.h b=none→Fc≤b):Inv Z nt J' β' { s:=st.s,h:=h' } a w' where
 sim:=A.sim
 ss:=I.ss.ext A.ext
 tmps:=I.tmps
 defers:=I.defers
 os:=A.os.trans I.os
 tape:=A.tape.trans I.tape
 output:=A.output.trans I.output
 size:=Nat.le_trans I.size A.size
 frame k c d:=(A.frame k (Nat.lt_of_lt_of_le c I.size) (fun l=>d (I.wr k l c))).trans (I.frame k c d)
 wr k d c:=I.wr k (A.wr k d (Nat.lt_of_lt_of_le c I.size)) c
 jsub o k m:=A.ext.jsub o k (I.jsub o k m)
 jup o k m:=by
  rcases A.jup o k m with i | i | i
  ·exact I.jup o k i
  ·by_cases c:k<Z.w.heap.size
   ·exact .inr (.inl (I.wr k i c))
   ·exact .inr (.inr (by omega))
  ·exact .inr (.inr (Nat.le_trans I.size i))
 sizes k:=by
  refine Nat.le_trans (I.sizes k) ?_
  by_cases d:∃ b o,β b=some (k,o)
  ·obtain⟨b,o,e⟩:=d;exact A.ext.size b k o e
  ·by_cases c:k<w.heap.size
   ·have:=A.frame k c (fun ⟨b,x,o,_,_,_,e⟩=>d ⟨b,o,e⟩)
    simp[A1,this]
   ·simp[A1,Array.getElem?_eq_none (Nat.le_of_not_lt c)]
 outs b x0 x t n u:=by
  cases e:Ak st.h b with
  | none=>have:=f b x n e;have:=I.zlt b x0 t;unfold Fc at *;omega
  | some y =>
   obtain⟨x',⟨q,gm⟩,j⟩:=A.ext.blk b y e
   change Ak h' b=some x at n
   rw[n] at q;simp at q;subst q
   rcases j with j | ⟨j,v,z,B⟩
   ·simp[u] at j
   ·obtain⟨⟨C,em⟩,D,F,G⟩:=I.outs b x0 y t e j
    exact⟨⟨v.trans C,gm.trans em⟩,z.trans D,fun h=>(B (em.trans h)).trans (F h),G⟩
 zlt:=I.zlt
 zge:=I.zge
theorem Inv.put (I:Inv Z nt J β st a w) {d:Option Nat} {v:AV} {vc:Value} (b:Rep J β st.h w v vc):Inv Z nt J β { s:=wk nt st.s d v,h:=st.h } (a.put d vc) w where
 sim:=I.sim
 ss:=I.ss.put I.tmps b
 tmps:=by cases d<;>simp[Act.put,I.tmps]
 defers:=by cases d<;>simp[Act.put,I.defers]
 os:=I.os
 tape:=I.tape
 output:=I.output
 size:=I.size
 frame:=I.frame
 wr:=I.wr
 jsub:=I.jsub
 jup:=I.jup
 sizes:=I.sizes
 zlt:=I.zlt
 zge:=I.zge
 outs:=I.outs
theorem gp {d:Nat} {F:List Nat} {h:Ah}:∀ {ups:C9},LB d F h ups=true→∀ b,Ax ups b=true→(W5 d b=true∧Ak h b=none)∨(W5 d b=false∧Fx F b=true∧∃ x,Ak h b=some x)
 | [],_,b,e=>by simp[Ax] at e
 | (i,_)::r,c,b,e=>by
  rw[LB] at c
  simp at c
  rw[Ax] at e
  cases f:Nat.beq i b with
  | true =>
   have:i=b:=Nat.eq_of_beq_eq_true f
   subst this
   cases j:W5 d i with
   | true=>rw[j] at c;simp at c;exact .inl ⟨rfl,c.1⟩
   | false =>
    rw[j] at c;simp at c
    obtain⟨⟨k,l⟩,_⟩:=c
    exact .inr ⟨rfl,k,Option.isSome_iff_exists.1 l⟩
  | false=>rw[f] at e;exact gp c.2 b (by simpa using e)
theorem Adh {d b:Nat} (c:W5 d b=true):Fc≤b:=by
 unfold W5 nid at c
 simp at c
 unfold Fc;omega
theorem qo {d:Nat} {F:List Nat} {h:Ah} {ups:C9} (j:LB d F h ups=true) {b:Nat} {x:Blk} (c:Ak (Ai ups h) b=some x) (e:Ak h b=none):Fc≤b:=by
 cases f:Ax ups b with
 | false=>rw[Br _ _ _ f,e] at c;cases c
 | true =>
  rcases gp j b f with⟨k,_⟩ | ⟨_,_,y,i⟩
  ·exact Adh k
  ·rw[e] at i;cases i
theorem wy {h:Ah} {F:List Nat}:Looks (fun b=>cond (Fx F b) (Ak h b) none) h:=fun b x c=>by
 cases d:Fx F b with
 | true=>simpa[d] using c
 | false=>simp[d] at c
theorem m0 {h:Ah} {s:Ev} (H:SimS J β h w s a.tmps) {t:Bool} (c:Y4 ops s o=some t):Region.wanted o (yielded ops a.tmps)=t:=by
 unfold Y4 at c
 unfold Region.wanted
 split at c
 ·rename_i e;rw[e];simpa using c
 ·rename_i j want e
  rw[e]
  simp only
  unfold yielded
  split at c
  ·rename_i t' f
   rw[f]
   simp only[Option.bind_some]
   cases k:a.tmps[t']? with
   | none =>
    have:=H.out t' (by simpa using k)
    rw[this] at c;simp at c
   | some v =>
    have d:=H.slot t' v k
    split at c
    ·rename_i b i
     rw[i,Rep] at d;subst d
     simp at c;subst c
     simp
    ·rename_i i
     rw[i,Rep] at d
     obtain⟨cs,rfl,l⟩:=d
     rw[Reps] at l;subst l
     simp at c;subst c
     simp
    ·simp at c
  ·rename_i f
   rw[f]
   simp at c;subst c
   simp
theorem gq {E:Env} (hC:QC E) (I:Inv Z E.nt J β st a w) {k:St→Foot→O R} (e:tE E ops o st k=some r) {K:Act→World→Prop} {Q:Exit→Act→World→Prop} :
  ∃ st' f,k st' f=some r∧((∀ i w' J' β',Inv Z E.nt J' β' st' i w'→K i w')→if Region.wanted o (yielded ops a.tmps) then o.wp E.P a w K Q else K (a.put o.dst undef) w):=by
 unfold tE at e
 obtain⟨t,l,c⟩:=ub e
 rw[m0 I.ss l]
 cases t with
 | false =>
  refine⟨_,_,c,fun hK=>?_⟩
  simp only[Bool.false_eq_true,if_false]
  exact hK _ _ J β (I.put (by rw[Rep];exact⟨[],rfl,by rw[Reps]⟩))
 | true =>
  rw[cond_true] at c
  obtain⟨val,ups,m,n⟩:=wx (o:=o) (next:=K) (Q:=Q) hC I.sim I.ss wy c
  obtain⟨j,q⟩:=uc m
  refine⟨_,_,q,fun hK=>?_⟩
  simp only[if_true]
  refine n (fun b s d=>?_) (fun vc w' u=>?_)
  ·rcases gp j b s with⟨_,g⟩ | ⟨g,_⟩
   ·exact g
   ·rw[d] at g;cases g
  ·obtain⟨J',β',A,v⟩:=u
   exact hK _ _ J' β' ((I.step A (fun b x y d=>qo j y d)).put v)
def Eqv (a b:St):Prop:=(∀ t,D2 a.s t=D2 b.s t)∧(∀ b',Ak a.h b'=Ak b.h b')
theorem Eqv.refl (a:St):Eqv a a:=⟨fun _=>rfl,fun _=>rfl⟩
theorem Eqv.symm {a b:St} (h:Eqv a b):Eqv b a:=⟨fun t=>(h.1 t).symm,fun t=>(h.2 t).symm⟩
theorem Eqv.trans {a b c:St} (h:Eqv a b) (k:Eqv b c):Eqv a c:=⟨fun t=>(h.1 t).trans (k.1 t),fun t=>(h.2 t).trans (k.2 t)⟩
theorem Inv.eqv {nt:Nat} {J:Bool→Nat→Prop} {β:Bl} {st st2:St} {a:Act} {w:World} (I:Inv Z nt J β st a w) (h:Eqv st st2):Inv Z nt J β st2 a w:=by
 have s:∀ {x v},Rep J β st.h w x v→Rep J β st2.h w x v:=fun f=>Rep.ext ⟨fun _ _ l=>l,fun _ _ _=>rfl,fun b x d=>⟨x,⟨by rw[←h.2 b];exact d,rfl⟩,by cases e:x.dead<;>simp⟩,fun _ _ _ _=>Nat.le_refl _⟩ f
 refine⟨⟨I.sim.jlt,I.sim.jft,I.sim.gl,fun b x d e m=>?_,fun b x d e m=>I.sim.mblk b x (by rw[h.2];exact d) e m,fun b y x x' k o o' d n=>I.sim.sep b y x x' k o o' (by rw[h.2];exact d) (by rw[h.2];exact n)⟩,⟨fun i v z=>by rw[←h.1 i];exact s (I.ss.slot i v z),fun i A=>by rw[←h.1 i];exact I.ss.out i A⟩,I.tmps,I.defers,I.os,I.tape,I.output,I.size,I.frame,?_,I.jsub,I.jup,I.sizes,I.zlt,I.zge,fun b x0 x B f=>I.outs b x0 x B (by rw[h.2];exact f)⟩
 ·rcases I.sim.blk b x (by rw[h.2];exact d) e m with q | ⟨k,o,cs,ty,fr,q,C,D,F,t,G⟩
  ·exact .inl q
  ·exact .inr ⟨k,o,cs,ty,fr,q,C,D,F,⟨t.1,fun K j c l=>by
    obtain⟨u,L,M,O⟩:=t.2 K j c l
    exact⟨u,L,s M,O⟩⟩,G⟩
 ·rintro k ⟨b,x,o,d,e,S,T⟩ U
  exact I.wr k ⟨b,x,o,by rw[h.2];exact d,e,S,T⟩ U
theorem gr {st:St} {k:St→O R} (d:ZK ops o st k=some r):∃ st',Eqv st st'∧k st'=some r:=by
 unfold ZK at d
 split at d
 ·exact⟨st,Eqv.refl _,d⟩
 ·rename_i j want n
  split at d
  ·exact⟨st,Eqv.refl _,d⟩
  ·rename_i t q
   split at d
   ·rename_i b l
    have key:∀ c:Bool,b=c→Eqv st { s:=PW st.s t (.bool c),h:=st.h }:=by
     intro c m
     refine⟨fun i=>?_,fun _=>rfl⟩
     simp only
     rw[Jk]
     by_cases e:i=t
     ·subst e;rw[if_pos rfl,l,m]
     ·rw[if_neg e]
    cases f:(b==want) with
    | true =>
     rw[f] at d
     exact⟨_,key want (by simpa using f),d⟩
    | false =>
     rw[f] at d
     exact⟨_,key (!want) (by cases b<;>cases want<;>simp_all),d⟩
   ·exact⟨st,Eqv.refl _,d⟩
theorem gt {E:Env} (hC:QC E) {Q:Exit→Act→World→Prop}:∀ (l:List Oper) {st:St} {tr:List Foot} {k:St→List Foot→O R} {a:Act} {w:World} {J:Bool→Nat→Prop} {β:Bl},
  Inv Z E.nt J β st a w→gY E ops l st tr k=some r→(∀ st' c d w' J' β',Inv Z E.nt J' β' st' d w'→k st' c=some r→Q .normal d w')→wpList E.P ops Q l a w
 | [],st,tr,k,a,w,J,β,I,b,hQ=>hQ st tr a w J β I b
 | o::l,st,tr,k,a,w,J,β,I,b,hQ=>by
  rw[gY] at b
  obtain⟨oG,i,b⟩:=gr b
  obtain⟨st',f,j,m⟩:=gq (K:=wpList E.P ops Q l) (Q:=Q) hC (I.eqv i) b
  have:=m (fun d w' J' β' I'=>gt hC l I' j hQ)
  rw[wpList]
  split
  ·rename_i e;rw[if_pos e] at this;exact .inl this
  ·rename_i e;rw[if_neg e] at this;exact this
end
end Gx
