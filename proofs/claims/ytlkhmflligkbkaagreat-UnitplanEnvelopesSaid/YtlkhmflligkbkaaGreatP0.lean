/- A part of the proof: what it holds is said by each theorem. -/
import GoSem.Step
import Derived.KernelRfl
import Derived.WalkKit
import Derived.Deep.MidRow
import Derived.Deep.AppendSrc
import Derived.Laws.IdiomStrings
import Derived.Deep.Upon
import Derived.Laws.BytesString
import Derived.Laws.Tables
import Derived.Laws.StructEq
import Derived.ChangeKeysEq
import Derived.MapKept
set_option linter.unusedVariables false
namespace Gx
open Go
inductive AV where
 | int (k:IntKind) (n:Int)
 | bool (b:Bool)
 | str (s:List UInt8)
 | nsl
 | imm (c:List AV) (len sz:Nat) (tight org:Bool)
 | iptr (c:List AV) (org:Bool)
 | pagg (c:List AV) (org:Bool)
 | own (b off len:Nat)
 | optr (b off:Nat)
 | agg (c:List AV)
 | tup (c:List AV)
 | fn (f:Nat) (caps:List AV)
 | nilptr
 | nilfn
 | undef
 | omap (b:Nat)
structure Blk where
 dead:Bool
 sealed:Bool
 pure:Bool
 taint:Bool
 sz:Nat
 cells:List AV
 mp:Bool:=false
abbrev Am:=List (Nat×Blk)
abbrev Ho:=List (Nat×AV)
def Au:Am→Nat→Option Blk
 | [],_=>none
 | (i,x)::r,b=>cond (Nat.beq i b) (some x) (Au r b)
def G0:Am→Nat→Blk→Am
 | [],b,y=>[(b,y)]
 | (i,x)::r,b,y=>cond (Nat.beq i b) ((b,y)::r) (cond (Nat.blt b i) ((b,y)::(i,x)::r) ((i,x)::G0 r b y))
def Gu:Ho→Nat→AV
 | [],_=>.undef
 | (i,x)::r,b=>cond (Nat.beq i b) x (Gu r b)
def lL:Ho→Nat→AV→Ho
 | [],b,y=>[(b,y)]
 | (i,x)::r,b,y=>cond (Nat.beq i b) ((b,y)::r) (cond (Nat.blt b i) ((b,y)::(i,x)::r) ((i,x)::lL r b y))
structure St where
 s:Ho
 h:Am
mutual
def uE:Value→AV
 | .int k n=>.int k n
 | .bool b=>.bool b
 | .string ⟨⟨s⟩⟩=>.str s
 | .slice none 0 0=>.nsl
 | .pointer none=>.nilptr
 | .nilFunc=>.nilfn
 | .agg ⟨cs⟩=>.agg (Qx cs)
 | _=>.undef
def Qx:List Value→List AV
 | []=>[]
 | v::r=>uE v::Qx r
end
def ev (s:Ho):Operand→AV
 | .tmp t=>Gu s t
 | .const v=>uE v
 | .func f=>cond (Nat.blt f 1000000) (.fn f []) .undef
 | .global _=>.undef
def C5 (P:Program) (t:TypeId):Option Nat:=(P.info? t).map (·.size)
def Aou (P:Program) (t:TypeId):Option Nat:=(P.info? t).map (·.bytes)
def A1l (P:Program) (t:TypeId):Bool:=((P.info? t).map (·.hasPointers)).getD true
def Asu (P:Program) (t:TypeId):Option AV:=((P.info? t).bind (·.zero)).map uE
def Bd:List AV→Bool
 | []=>true
 | .int ..::r=>Bd r
 | .bool _::r=>Bd r
 | .str _::r=>Bd r
 | .nsl::r=>Bd r
 | .nilptr::r=>Bd r
 | .nilfn::r=>Bd r
 | _=>false
def uF (P:Program) (t:TypeId):Option (List AV) :=
 (P.info? t).bind fun i=>(i.zero).bind fun v=>cond (Bd (Qx v.cells.toList)&&Nat.beq v.cells.toList.length i.size) (some (Qx v.cells.toList)) none
def rj (op:BinOp) (k:IntKind) (a b:Int):Option AV :=
 match op with
 | .add=>some (.int k (k.wrap (a+b)))
 | .sub=>some (.int k (k.wrap (a - b)))
 | .mul=>some (.int k (k.wrap (a*b)))
 | .and=>some (.int k (k.wrap ((BitVec.ofInt k.bits a &&& BitVec.ofInt k.bits b).toNat:Int)))
 | .or=>some (.int k (k.wrap ((BitVec.ofInt k.bits a ||| BitVec.ofInt k.bits b).toNat:Int)))
 | .xor=>some (.int k (k.wrap ((BitVec.ofInt k.bits a ^^^ BitVec.ofInt k.bits b).toNat:Int)))
 | .andNot=>some (.int k (k.wrap ((BitVec.ofInt k.bits a &&& ~~~ (BitVec.ofInt k.bits b)).toNat:Int)))
 | .eql=>some (.bool (a==b))
 | .neq=>some (.bool (a != b))
 | .lss=>some (.bool (decide (a<b)))
 | .leq=>some (.bool (decide (a≤b)))
 | .gtr=>some (.bool (decide (a>b)))
 | .geq=>some (.bool (decide (a≥b)))
 | _=>none
def Tz (k k':IntKind):Bool:=decide (k=k')
def ff (P:Program) (t:TypeId):Bool:=match P.underlying t with | some .bool=>true | _=>false
def A23 {R:Type} (P:Program) (t:TypeId) (op:BinOp) (x y:AV) (r:AV→Option R):Option R :=
 match x,y with
 | .int k a,.int k' b =>
  match op with
  | .shl=>cond (decide (b<0)) none (r (.int k (k.wrap (a*2 ^ (min b.toNat k.bits)))))
  | .shr=>cond (decide (b<0)) none (r (.int k (a.fdiv (2 ^ (min b.toNat k.bits)))))
  | .quo=>cond (Tz k k') (cond (b==0) none (r (.int k (k.wrap (a.tdiv b))))) none
  | .rem=>cond (Tz k k') (cond (b==0) none (r (.int k (a.tmod b)))) none
  | op=>cond (Tz k k') ((rj op k a b).bind r) none
 | .bool a,.bool b =>
  match op with
  | .eql=>cond (ff P t) (r (.bool (a==b))) none
  | .neq=>cond (ff P t) (r (.bool (!(a==b)))) none
  | _=>none
 | .str a,.str b =>
  match op with
  | .add=>cond (Nat.ble (a.length+b.length) 140737488355328) (r (.str (a++b))) none
  | .eql=>r (.bool (a==b))
  | .neq=>r (.bool (!(a==b)))
  | .lss=>r (.bool (Op.bytesLess a b))
  | .leq=>r (.bool (Op.bytesLess a b||a==b))
  | .gtr=>r (.bool (!(Op.bytesLess a b||a==b)))
  | .geq=>r (.bool (!Op.bytesLess a b))
  | _=>none
 | _,_=>none
def Bc3 (op:UnOp) (x:AV):Option AV :=
 match op,x with
 | .neg,.int k n=>some (.int k (k.wrap (0 - n)))
 | .xor,.int k n=>rj .xor k (cond k.signed (-1) k.max) n
 | .not,.bool b=>some (.bool (!b))
 | _,_=>none
def uG (k:IntKind):AV→Option Int
 | .int k' n=>cond (Tz k k') (some n) none
 | _=>none
def asBool:AV→Option Bool
 | .bool b=>some b
 | _=>none
def uH:AV→Option (List UInt8)
 | .str s=>some s
 | _=>none
def A24 (sz:Nat):AV→Option (List AV×Nat)
 | .imm c len sz' _ _=>cond (Nat.beq sz sz') (some (c,len)) none
 | .nsl=>some ([],0)
 | _=>none
def A6e:AV→Option UInt8
 | .int .u8 n=>some (UInt8.ofNat n.toNat)
 | _=>none
def nK:List AV→Option (List UInt8)
 | []=>some []
 | x::r=>(A6e x).bind fun b=>(nK r).bind fun l=>some (b::l)
def NL {R:Type} (step:TypeId→List AV→List AV→(Bool→Option R)→Option R) (x y:List AV):List (Nat×TypeId)→(Bool→Option R)→Option R
 | [],k=>k true
 | (off,t)::r,k=>step t (x.drop off) (y.drop off) fun b=>NL step x y r fun c=>k (b&&c)
def Aov (P:Program) (sz:Nat) (f:Field):Bool:=match C5 P f.type with
 | some s => Nat.ble 1 s && (Nat.ble (f.offset + s) sz && !(f.name == "_"))
 | none=>false
def y5 {R:Type} (P:Program):Nat→TypeId→List AV→List AV→(Bool→Option R)→Option R
 | 0,_,_,_,_=>none
 | d+1,t,x,y,k=>match P.underlying t with
  | some (.int kd)=>(x.head?).bind fun u=>(uG kd u).bind fun a=>(y.head?).bind fun v=>(uG kd v).bind fun b=>k (a==b)
  | some .bool=>(x.head?).bind fun u=>(asBool u).bind fun a=>(y.head?).bind fun v=>(asBool v).bind fun b=>k (a==b)
  | some .string=>(x.head?).bind fun u=>(uH u).bind fun a=>(y.head?).bind fun v=>(uH v).bind fun b=>k (a==b)
  | some (.struct fs)=>(C5 P t).bind fun sz=>cond (P.stoodInHeld t||!(fs.toList.all (Aov P sz))) none (NL (y5 P d) x y (fs.toList.map fun f=>(f.offset,f.type)) k)
  | some (.array n e)=>(C5 P e).bind fun s=>(C5 P t).bind fun sz=>cond (Nat.ble 1 s&&Nat.ble (n*s) sz) (NL (y5 P d) x y ((List.range n).map fun i=>(i*s,e)) k) none
  | _=>none
def Aow:AV→Option (List AV)
 | .pagg c _=>some c
 | .agg c=>some c
 | _=>none
def A6f (P:Program) (t:TypeId):Bool:=match P.underlying t with | some (.struct _)=>true | some (.array _ _)=>true | _=>false
def Ak9 {R:Type} (P:Program) (t:TypeId) (op:BinOp) (x y:AV) (r:AV→Option R):Option R :=
 match Aow x,Aow y with
 | some a,some b=>(C5 P t).bind fun s=>cond (Nat.ble 1 s&&(Nat.beq a.length s&&(Nat.beq b.length s&&(A6f P t&&!(P.eqGuardType P.depth t)))))
  (match op with
   | .eql=>y5 P 8 t a b fun c=>r (.bool c)
   | .neq=>y5 P 8 t a b fun c=>r (.bool (!c))
   | _=>none) none
 | _,_=>A23 P t op x y r
def CF {R:Type} (P:Program) (t:TypeId) (c:List AV) (org:Bool) (k:Bool→Option R):Option R :=
 cond (A1l P t) (k org) (cond (!org||Bd c) (k false) none)
def aU {R:Type} (P:Program) (t:TypeId) (c:List AV) (org:Bool) (k:AV→Option R):Option R :=
 match P.underlying t with
 | some (.int kd)=>(c.head?).bind fun x=>(uG kd x).bind fun n=>k (.int kd n)
 | some .bool=>(c.head?).bind fun x=>(asBool x).bind fun b=>k (.bool b)
 | some .string=>(c.head?).bind fun x=>(uH x).bind fun s=>k (.str s)
 | some (.slice e)=>(C5 P e).bind fun sz=>(c.head?).bind fun x=>(A24 sz x).bind fun p=>k (.imm p.1 p.2 sz false org)
 | some (.struct _)=>(C5 P t).bind fun n=>cond (Nat.ble n c.length) (CF P t (c.take n) org fun o=>k (.pagg (c.take n) o)) none
 | some (.array _ _)=>(C5 P t).bind fun n=>cond (Nat.ble n c.length) (CF P t (c.take n) org fun o=>k (.pagg (c.take n) o)) none
 | _=>none
def SE {R:Type} (n:Nat) (k:AV→Option R):List AV→Nat→Option R
 | [],_=>none
 | v::r,i=>cond (Nat.beq n i) (k v) (SE n k r (i+1))
def uI {R:Type} (P:Program) (t:TypeId) (c:List AV) (k:AV→Option R):Option R :=
 match P.underlying t with
 | some (.struct _)=>(C5 P t).bind fun n=>cond (Nat.ble n c.length) (k (.agg (c.take n))) none
 | some (.array _ _)=>(C5 P t).bind fun n=>cond (Nat.ble n c.length) (k (.agg (c.take n))) none
 | some _=>(c.head?).bind k
 | none=>none
def aV {R:Type} (P:Program) (t:TypeId) (c:List AV) (off:Nat) (k:AV→Option R):Option R :=
 match P.underlying t with
 | some (.struct _)=>(C5 P t).bind fun n=>cond (Nat.ble n (c.drop off).length) (k (.agg ((c.drop off).take n))) none
 | some (.array _ _)=>(C5 P t).bind fun n=>cond (Nat.ble n (c.drop off).length) (k (.agg ((c.drop off).take n))) none
 | some _=>SE off k c 0
 | none=>none
abbrev B8:=Nat→Option Blk
def Kh (g:B8) (b:Nat):Option Blk:=(g b).bind fun x=>cond x.dead none (some x)
def zg {R:Type} (P:Program) (g:B8) (t:TypeId) (p:AV) (k:AV→Option R):Option R :=
 match p with
 | .iptr c org=>aU P t c org k
 | .optr b off=>(Kh g b).bind fun x=>cond x.pure (aU P t (x.cells.drop off) x.taint k) (aV P t x.cells off k)
 | _=>none
def Ad (i:Int) (n:Nat):Bool:=decide (0≤i)&&decide (i<(n:Int))
def Vz {R:Type} (P:Program) (t:TypeId) (x i:AV) (k:AV→Option R):Option R :=
 match P.underlying t,x,i with
 | some (.slice el),.imm c len sz _ org,.int _ i=>(C5 P el).bind fun sz'=>cond (Nat.beq sz sz') (cond (Ad i len) (k (.iptr (c.drop (i.toNat*sz)) org)) none) none
 | some (.slice el),.own b off len,.int _ i=>(C5 P el).bind fun sz=>cond (Ad i len) (k (.optr b (off+i.toNat*sz))) none
 | some (.array len el),.iptr c org,.int _ i=>(C5 P el).bind fun sz=>cond (Ad i len) (k (.iptr (c.drop (i.toNat*sz)) org)) none
 | some (.array len el),.optr b off,.int _ i=>(C5 P el).bind fun sz=>cond (Ad i len) (k (.optr b (off+i.toNat*sz))) none
 | _,_,_=>none
def z7 (P:Program) (t:TypeId) (f:Nat):Option (Nat×TypeId) :=
 match P.underlying t with
 | some (.struct fs)=>(fs[f]?).map fun x=>(x.offset,x.type)
 | _=>none
def V0 {R:Type} (P:Program) (t:TypeId) (x:AV) (f:Nat) (k:AV→Option R):Option R :=
 (z7 P t f).bind fun p=>(C5 P p.2).bind fun n=>cond (Nat.beq n 0) none
 (match x with
 | .iptr c org=>k (.iptr (c.drop p.1) org)
 | .optr b off=>k (.optr b (off+p.1))
 | _=>none)
def rk {R:Type} (P:Program) (t:TypeId) (x:AV) (f:Nat) (k:AV→Option R):Option R :=
 (z7 P t f).bind fun p =>
 match x with
 | .pagg c org=>aU P p.2 (c.drop p.1) org k
 | .agg c=>uI P p.2 (c.drop p.1) k
 | _=>none
def rm {R:Type} (P:Program) (t:TypeId) (x i:AV) (k:AV→Option R):Option R :=
 match P.underlying t,x,i with
 | some .string,.str s,.int _ i=>cond (Ad i s.length) (k (.int .u8 ((s.getD i.toNat 0).toNat:Int))) none
 | some (.array len el),.pagg c org,.int _ i=>(C5 P el).bind fun sz=>cond (Ad i len) (aU P el (c.drop (i.toNat*sz)) org k) none
 | some (.array len el),.agg c,.int _ i=>(C5 P el).bind fun sz=>cond (Ad i len) (aV P el c (i.toNat*sz) k) none
 | _,_,_=>none
def nL (o:Option AV) (d:Nat):Option Int:=match o with | none=>some (d:Int) | some (.int _ i)=>some i | _=>none
def CG {R:Type} (lo hi mx:Option AV) (n:Nat) (k:Nat→Nat→Option R):Option R :=
 (nL lo 0).bind fun l=>(nL hi n).bind fun h=>(nL mx n).bind fun m=>cond (mx.isSome&&!hi.isSome) none <|
 cond (decide (0≤l)&&(decide (l≤h)&&(decide (h≤m)&&decide (m≤(n:Int))))) (k l.toNat h.toNat) none
def A1m (tight:Bool) (hi mx:Option AV):Bool:=match hi,mx with | none,none=>tight | some (.int _ a),some (.int _ b)=>a==b | _,_=>false
def rn {R:Type} (P:Program) (g:B8) (t:TypeId) (x:AV) (lo hi mx:Option AV) (k:AV→Option R):Option R :=
 match P.underlying t,x with
 | some .string,.str s=>cond mx.isSome none (CG lo hi none s.length fun l h=>k (.str ((s.drop l).take (h - l))))
 | some (.slice el),.nsl=>(C5 P el).bind fun _=>CG lo hi mx 0 fun _ _=>k .nsl
 | some (.slice el),.imm c n sz tight org=>(C5 P el).bind fun sz'=>cond (Nat.beq sz sz') (CG lo hi mx n fun l h =>
   k (.imm ((c.drop (l*sz)).take ((h - l)*sz)) (h - l) sz (A1m tight hi mx) org)) none
 | some (.slice el),.own b off n=>(C5 P el).bind fun sz=>(Kh g b).bind fun y=>cond (Nat.beq sz y.sz) (CG lo hi mx n fun l h=>k (.own b (off+l*sz) (h - l))) none
 | _,_=>none
def Bay (P:Program) (t:TypeId) (x:AV):Option AV :=
 match P.underlying t,x with
 | some (.slice _),.nsl=>some (.int .i64 0)
 | some (.slice _),.imm _ n _ _ _=>some (.int .i64 n)
 | some (.slice _),.own _ _ n=>some (.int .i64 n)
 | some .string,.str s=>some (.int .i64 s.length)
 | some (.array n _),_=>some (.int .i64 n)
 | _,_=>none
def Ala (g:B8) (sz:Nat):AV→Option (List AV×Nat×Bool)
 | .nsl=>some ([],0,false)
 | .imm c n sz' _ org=>cond (Nat.beq sz sz') (some (c,n,org)) none
 | .own b off n=>(Kh g b).bind fun x=>cond (x.pure&&Nat.beq sz x.sz) (some ((x.cells.drop off).take (n*sz),n,x.taint)) none
 | .str s=>cond (Nat.beq sz 1) (some (s.map fun b=>.int .u8 (b.toNat:Int),s.length,false)) none
 | _=>none
def lM {R:Type} (P:Program) (el:TypeId) (g:B8) (sz:Nat) (x:AV) (k:List AV×Nat×Bool→Option R):Option R :=
 (Ala g sz x).bind fun q=>CF P el q.1 q.2.2 fun o=>k (q.1,q.2.1,o)
abbrev If:=List (Nat×Option Blk)
def iR (g:B8):AV→Option (AV×If×Bool)
 | .own b off n=>(Kh g b).bind fun x=>cond x.pure (some (.imm ((x.cells.drop off).take (n*x.sz)) n x.sz false x.taint,[(b,some { x with sealed:=true })],x.taint)) none
 | .optr .. | .agg _ | .tup _ | .undef | .fn .. | .omap _=>none
 | .imm c n sz t org=>some (.imm c n sz t org,[],org)
 | .iptr c org=>some (.iptr c org,[],org)
 | .pagg _ _=>none
 | v=>some (v,[],false)
def EG (g:B8):List AV→Option (List AV×If×Bool)
 | []=>some ([],[],false)
 | v::r=>(iR g v).bind fun p=>(EG g r).bind fun q=>some (p.1::q.1,p.2.1++q.2.1,p.2.2||q.2.2)
def DP (g:B8):AV→Option (List AV×If×Bool)
 | .pagg c org=>some (c,[],org)
 | .agg c=>EG g c
 | v=>EG g [v]
def Cr (c:List AV) (off:Nat) (vs:List AV):List AV:=c.take off++vs++c.drop (off+vs.length)
def Bh:If→Nat→Bool
 | [],_=>false
 | (i,_)::r,b=>cond (Nat.beq i b) true (Bh r b)
def NM (g:B8):AV→Bool
 | .own b _ _=>(Kh g b).isSome
 | .optr b _=>(Kh g b).isSome
 | .agg _=>false
 | .pagg _ _=>false
 | .tup _=>false
 | .undef=>false
 | .omap _=>false
 | _=>true
def S8 (g:B8):List AV→Bool
 | []=>true
 | v::r=>NM g v&&S8 g r
def setCells (c:List AV) (off:Nat) (vs:List AV):List AV:=match vs with | [y]=>c.set off y | ys=>Cr c off ys
def ro {R:Type} (P:Program) (g:B8) (t:TypeId) (p v:AV) (k:AV→If→Option R):Option R :=
  match p with
  | .optr b off=>(Kh g b).bind fun x=>(C5 P t).bind fun n =>
    cond x.sealed none
    (cond x.pure
      ((DP g v).bind fun q=>cond (Nat.beq q.1.length n&&(Nat.ble (off+n) x.cells.length&&!Bh q.2.1 b))
        (k .undef (q.2.1++[(b,some { x with cells:=setCells x.cells off q.1,taint:=x.taint||q.2.2 })])) none)
      (match v with
        | .agg c=>cond (S8 g c&&(Nat.beq c.length n&&Nat.ble (off+n) x.cells.length)) (k .undef [(b,some { x with cells:=Cr x.cells off c })]) none
        | .pagg c org=>cond (Nat.beq off 0&&(Nat.beq c.length n&&Nat.beq x.cells.length n)) (k .undef [(b,some { x with pure:=true,taint:=org,cells:=c })]) none
        | v=>cond (NM g v&&(Nat.beq n 1&&Nat.blt off x.cells.length)) (k .undef [(b,some { x with cells:=x.cells.set off v })]) none))
  | _=>none
def H9:Nat:=1000000
def nid (d:Nat):Nat:=1000000+d*16
def Qm (d:Nat) (pure taint:Bool) (sz:Nat) (cells:List AV):If :=
 [(nid d,some { dead:=false,sealed:=false,pure,taint,sz,cells })]
def Asv {R:Type} (P:Program) (g:B8) (d:Nat) (t:TypeId) (v:AV) (k:AV→If→Option R):Option R :=
 match v with
 | .pagg c org=>k (.optr (nid d) 0) (Qm d true org 0 c)
 | .agg c =>
  cond (A1l P t) (cond (S8 g c) (k (.optr (nid d) 0) (Qm d false false 0 c)) none)
   ((EG g c).bind fun q=>k (.optr (nid d) 0) (q.2.1++Qm d true q.2.2 0 q.1))
 | v=>cond (NM g v) (k (.optr (nid d) 0) (Qm d false false 0 [v])) none
def Gv (sz:Nat):Blk:={ dead:=false,sealed:=false,pure:=true,taint:=false,sz,cells:=[] }
def A6g (co:Bool) (v:AV):AV:=match co,v with
 | true,.agg c=>cond (Bd c) (.pagg c false) (.agg c)
 | _,v=>v
def rp {R:Type} (P:Program) (g:B8) (co:Bool) (d:Nat) (t:TypeId) (k:AV→If→Option R):Option R :=
 match P.underlying t,Asu P t with
 | some (.slice el),some .nsl=>(C5 P el).bind fun sz=>k (.optr (nid d) 0) [(nid d+1,some (Gv sz)),(nid d,some { dead:=false,sealed:=false,pure:=false,taint:=false,sz:=0,cells:=[.own (nid d+1) 0 0] })]
 | _,some z=>Asv P g d t (A6g co z) k
 | _,none=>none
def Qn (place:Nat→Option (Nat×Nat)):List (Nat×List AV)→List AV→Option (List AV)
 | [],c=>some c
 | (i,vs)::r,c=>(place i).bind fun p=>cond (Nat.beq vs.length p.2&&Nat.ble (p.1+p.2) c.length) (Qn place r (setCells c p.1 vs)) none
def zh {R:Type} (place:Nat→Option (Nat×Nat)):List (Nat×List AV)→List AV→(List AV→Option R)→Option R
 | [],c,k=>k c
 | (i,vs)::r,c,k=>(place i).bind fun p=>cond (Nat.beq vs.length p.2&&Nat.ble (p.1+p.2) c.length) (zh place r (setCells c p.1 vs) k) none
def Ki (n:Nat) (z:List AV):List AV:=match z with | [v]=>List.replicate n v | z=>(List.replicate n z).flatten
def NN (g:B8):List (Nat×AV)→Option (List (Nat×List AV)×If×Bool)
 | []=>some ([],[],false)
 | (i,v)::r=>(DP g v).bind fun q=>(NN g r).bind fun q'=>some ((i,q.1)::q'.1,q.2.1++q'.2.1,q.2.2||q'.2.2)
def A6h:AV→Bool
 | .optr ..=>true
 | .fn _ (_::_)=>true
 | _=>false
def V1 {R:Type} (P:Program) (g:B8) (d:Nat) (t:TypeId) (len:Nat) (parts:List (Nat×AV)) (k:AV→If→Option R):Option R :=
 match P.underlying t with
 | some (.slice el)=>(C5 P el).bind fun sz=>(uF P el).bind fun z =>
  cond (Nat.beq sz 1&&(Nat.ble len 16777216&&S8 g (parts.map (·.2)))) ((Qn (fun i=>some (i*1,1)) (parts.map fun p=>(p.1,[p.2])) (Ki len z)).bind fun cells =>
   k (.own (nid d) 0 len) (Qm d false false 1 cells)) none
 | _=>none
def S9 {R:Type} (P:Program) (g:B8) (d:Nat) (t:TypeId) (len:Nat) (parts:List (Nat×AV)) (k:AV→If→Option R):Option R :=
 match P.underlying t with
 | some (.slice el)=>(C5 P el).bind fun sz=>(uF P el).bind fun z=>(NN g parts).bind fun q =>
  cond (Nat.ble (len*sz) 16777216) (zh (fun i=>some (i*sz,sz)) q.1 (Ki len z) fun cells =>
   k (.own (nid d) 0 len) (q.2.1++Qm d true q.2.2 sz cells)) none
 | _=>none
def lN:AV→Bool
 | .own .. | .optr .. | .fn .. | .undef | .agg _ | .pagg _ _ | .tup _ | .omap _=>true
 | _=>false
def zi:AV→Bool
 | .agg c=>c.any lN
 | .pagg _ _=>false
 | v=>lN v
def cellsOf:AV→List AV
 | .agg c=>c
 | .pagg c _=>c
 | v=>[v]
def Aox:AV→Bool
 | .imm _ _ _ _ o=>o
 | .iptr _ o=>o
 | _=>false
def uJ:AV→Bool
 | .pagg _ o=>o
 | .agg c=>c.any Aox
 | v=>Aox v
def SF:AV→Bool
 | .pagg _ _=>true
 | _=>false
def nM (P:Program) (t:TypeId):Option (Nat→Option (Nat×Nat)) :=
 match P.underlying t with
 | some (.array _ e)=>(P.info? e).map fun ie=>fun i=>some (i*ie.size,ie.size)
 | some (.struct fs)=>(fs.toList.mapM fun f=>(P.info? f.type).map fun i=>(f.offset,i.size)).map fun pl=>fun i=>pl[i]?
 | _=>none
def Alb (P:Program) (t:TypeId):Option (List AV):=(P.info? t).bind fun i=>(i.zero).map fun v=>Qx v.cells.toList
def Ge:List (Nat×AV)→List (Nat×List AV)
 | []=>[]
 | (i,v)::r=>(i,cellsOf v)::Ge r
def Asw (o:Bool):AV→AV
 | .imm c n s t _=>.imm c n s t o
 | .iptr c _=>.iptr c o
 | v=>v
def zj:AV→List AV
 | .agg c=>c
 | .pagg c o=>c.map (Asw o)
 | v=>[v]
def Lk:List (Nat×AV)→List (Nat×List AV)
 | []=>[]
 | (i,v)::r=>(i,zj v)::Lk r
def aW:AV→Bool
 | .undef=>false
 | .tup _=>false
 | .omap _=>false
 | _=>true
def Aoy (P:Program) (t:TypeId) (parts:List (Nat×AV)):Option AV :=
 (nM P t).bind fun place=>cond (parts.all fun p=>aW p.2) (
 cond (parts.any fun p=>SF p.2)
  (cond (parts.any fun p=>zi p.2) ((Alb P t).bind fun z=>(Qn place (Lk parts) z).map fun c=>.agg c) ((uF P t).bind fun z=>(Qn place (Ge parts) z).map fun c=>.pagg c (parts.any fun p=>uJ p.2)))
  ((Alb P t).bind fun z=>(Qn place (Ge parts) z).map fun c=>.agg c)) none
def Aoz {R:Type} (P:Program) (t:TypeId) (parts:List (Nat×AV)) (k:AV→Option R):Option R :=
 (nM P t).bind fun place=>cond (parts.all fun p=>aW p.2) (
 cond (parts.any fun p=>SF p.2)
  (cond (parts.any fun p=>zi p.2) ((Alb P t).bind fun z=>zh place (Lk parts) z fun c=>k (.agg c)) ((uF P t).bind fun z=>zh place (Ge parts) z fun c=>k (.pagg c (parts.any fun p=>uJ p.2))))
  ((Alb P t).bind fun z=>zh place (Ge parts) z fun c=>k (.agg c))) none
def nN (P:Program) (t:TypeId):List (Nat×Nat) :=
 match P.underlying t with
 | some (.struct fs)=>fs.toList.filterMap fun f=>match P.underlying f.type with | some (.slice el)=>(C5 P el).map fun s=>(f.offset,s) | _=>none
 | _=>[]
def Ps (d:Nat):List (Nat×Nat)→Nat→List AV→List AV×If
 | [],_,c=>(c,[])
 | (o,sz)::r,j,c=>match c[o]? with
  | some .nsl=>((Ps d r (j+1) (c.set o (.own (nid d+j) 0 0))).1,(nid d+j,some (Gv sz))::(Ps d r (j+1) (c.set o (.own (nid d+j) 0 0))).2)
  | _=>Ps d r (j+1) c
def A25 {R:Type} (P:Program) (t:TypeId) (co:Bool) (d:Nat) (v:AV) (k:AV→If→Option R):Option R :=
 match co,v with
 | true,.agg c=>cond (Nat.ble (nN P t).length 14) (k (.agg (Ps d (nN P t) 1 c).1) (Ps d (nN P t) 1 c).2) none
 | _,v=>k v []
def A1n (P:Program):Nat→TypeId→Nat→List (Nat×TypeId)
 | 0,t,off=>[(off,t)]
 | d+1,t,off=>match P.underlying t with
  | some (.struct fs)=>fs.toList.flatMap fun f=>A1n P d f.type (off+f.offset)
  | _=>[(off,t)]
def A6i (P:Program) (t:TypeId):Bool:=match P.underlying t with
 | some (.int _)=>true | some .bool=>true | some .string=>true | some (.slice _)=>true | _=>false
def nO {R:Type} (P:Program) (c:List AV) (org:Bool):List (Nat×TypeId)→List AV→(List AV→Option R)→Option R
 | [],acc,k=>k acc
 | (off,t)::r,acc,k=>cond (Nat.beq off acc.length&&A6i P t) (aU P t (c.drop off) org fun v=>nO P c org r (acc++[v]) k) none
def rs {R:Type} (P:Program) (co:Bool) (t:TypeId) (v:AV) (k:AV→Option R):Option R :=
 match co,v with
 | true,.pagg c org=>nO P c org (A1n P 4 t 0) [] fun l=>cond (Nat.beq c.length l.length) (k (.agg l)) none
 | _,v=>k v
def Alc {R:Type} (P:Program) (d:Nat) (t:TypeId) (len cap:AV) (k:AV→If→Option R):Option R :=
 match P.underlying t,len,cap with
 | some (.slice el),.int .i64 l,.int .i64 c=>(C5 P el).bind fun sz=>(Aou P el).bind fun by_=>(uF P el).bind fun z =>
  cond (decide (0≤l)&&(decide (l≤c)&&(decide (c≤140737488355328)&&decide (c*(by_:Int)≤140737488355328)))) (
   k (.own (nid d) 0 l.toNat) (Qm d true false sz (Ki l.toNat z))) none
 | _,_,_=>none
def A1o (g:B8) (sz:Nat) (s:AV):Option (List AV×Nat×Bool×If) :=
 match s with
 | .nsl=>some ([],0,false,[])
 | .imm _ n _ true _=>cond (Nat.beq n 0) (some ([],0,false,[])) none
 | .own b off n=>(Kh g b).bind fun x=>cond (x.pure&&(!x.sealed&&Nat.beq sz x.sz)) (some ((x.cells.drop off).take (n*sz),n,x.taint,[(b,none)])) none
 | _=>none
def Ao0 (P:Program) (t:TypeId):Bool:=match P.underlying t with | some (.slice _)=>true | some .string=>true | _=>false
def fg {R:Type} (P:Program) (g:B8) (d:Nat) (t tx:TypeId) (s x:AV) (k:AV→If→Option R):Option R :=
 match P.underlying t with
 | some (.slice el)=>cond (Ao0 P tx) ( (C5 P el).bind fun sz=>(Aou P el).bind fun by_=>(uF P el).bind fun _ =>
  (A1o g sz s).bind fun old=>lM P el g sz x fun new =>
  cond (Nat.ble (old.2.1+new.2.1) 140737488355328&&Nat.ble ((old.2.1+new.2.1)*by_) 140737488355328) (
   k (.own (nid d) 0 (old.2.1+new.2.1)) (old.2.2.2++Qm d true (old.2.2.1||new.2.2) sz (old.1++new.1))) none) none
 | _=>none
def Ald {R:Type} (P:Program) (g:B8) (t:TypeId) (s x:AV) (k:AV→If→Option R):Option R :=
 match P.underlying t,s with
 | some (.slice el),.own b off n=>(C5 P el).bind fun sz=>(Kh g b).bind fun y=>lM P el g sz x fun new =>
  cond (y.pure&&(!y.sealed&&Nat.beq sz y.sz)) (
   k (.int .i64 (min new.2.1 n:Nat)) [(b,some { y with cells:=Cr y.cells off (new.1.take ((min new.2.1 n)*sz)),taint:=y.taint||new.2.2 })]) none
 | some (.slice el),.nsl=>(C5 P el).bind fun sz=>lM P el g sz x fun _=>k (.int .i64 0) []
 | _,_=>none
def Ale {R:Type} (P:Program) (g:B8) (d:Nat) (src dst:TypeId) (x:AV) (k:AV→If→Option R):Option R :=
 match P.underlying dst with
 | some (.int kd)=>match x with | .int _ n=>cond (P.underlying src).isSome (k (.int kd (kd.wrap n)) []) none | _=>none
 | some .string=>match P.underlying src with
  | some .string=>match x with | .str s=>k (.str s) [] | _=>none
  | some (.slice el)=>match P.underlying el with
   | some (.int .u8)=>match x with
    | .str _=>none
    | x=>(Ala g 1 x).bind fun q=>(nK q.1).bind fun s=>k (.str s) []
   | _=>none
  | _=>none
 | some (.slice el)=>match P.underlying src,P.underlying el,x with
  | some (.slice _),some (.int .u8),.own b off n=>cond (Nat.beq src dst&&Nat.ble 1 n) ((Kh g b).bind fun x=>cond x.sealed none (k (.own b off n) [])) none
  | some .string,some (.int .u8),.str s=>k (.own (nid d) 0 s.length) (Qm d true false 1 (s.map fun b=>.int .u8 (b.toNat:Int)))
  | _,_,_=>none
 | _=>none
def nP:List AV→Int→Bool
 | [],_=>false
 | .int _ m::r,n=>cond (n==m) true (nP r n)
 | _::r,n=>nP r n
def Axk (c:List AV) (n:Int):List AV:=cond (nP c n) c (c++[.int .i64 n])
def Ao1 (P:Program) (t:TypeId):Bool:=match P.underlying t with
 | some (.map k e)=>(match P.underlying k with | some (.int .i64)=>true | _=>false)&&(match Asu P e with | some (.bool false)=>true | _=>false)
 | _=>false
def EH {R:Type} (d:Nat) (r:Option AV) (k:AV→If→Option R):Option R :=
 match r with
 | none=>k (.omap (nid d)) [(nid d,some { dead:=false,sealed:=false,pure:=true,taint:=false,sz:=0,cells:=[],mp:=true })]
 | some _=>none
def rt {R:Type} (P:Program) (g:B8) (t:TypeId) (m key val:AV) (k:AV→If→Option R):Option R :=
 match m,key,val with
 | .omap b,.int .i64 n,.bool true=>cond (Ao1 P t) ((Kh g b).bind fun x=>cond x.mp (k .undef [(b,some { x with cells:=Axk x.cells n })]) none) none
 | _,_,_=>none
def Alf {R:Type} (P:Program) (g:B8) (t:TypeId) (m key:AV) (comma:Bool) (k:AV→Option R):Option R :=
 match m,key,comma with
 | .omap b,.int .i64 n,false=>cond (Ao1 P t) ((Kh g b).bind fun x=>cond x.mp (k (.bool (nP x.cells n))) none) none
 | _,_,_=>none
mutual
def Hp:AV→List Nat
 | .own b _ _=>[b]
 | .optr b _=>[b]
 | .omap b=>[b]
 | .agg c=>Jl c
 | .tup c=>Jl c
 | .fn _ c=>Jl c
 | _=>[]
def Jl:List AV→List Nat
 | []=>[]
 | v::r=>Hp v++Jl r
end
mutual
def gt (ρ:Nat→Nat):AV→AV
 | .own b off n=>.own (ρ b) off n
 | .optr b off=>.optr (ρ b) off
 | .omap b=>.omap (ρ b)
 | .agg c=>.agg (AM ρ c)
 | .tup c=>.tup (AM ρ c)
 | .fn f c=>.fn f (AM ρ c)
 | v=>v
def AM (ρ:Nat→Nat):List AV→List AV
 | []=>[]
 | v::r=>gt ρ v::AM ρ r
end
def SG (g:B8):AV→Option (AV×Bool)
 | .own b off n=>(Kh g b).bind fun x=>cond x.pure (some (.imm ((x.cells.drop off).take (n*x.sz)) n x.sz false (!x.sealed||x.taint),!x.sealed||x.taint)) none
 | .imm c n sz _ org=>some (.imm c n sz false org,org)
 | .iptr c org=>some (.iptr c org,org)
 | .optr .. | .agg _ | .tup _ | .undef | .fn .. | .pagg .. | .omap _=>none
 | v=>some (v,false)
def aX (g:B8):List AV→Option (List AV×Bool)
 | []=>some ([],false)
 | v::r=>(SG g v).bind fun p=>(aX g r).bind fun q=>some (p.1::q.1,p.2||q.2)
def Ao2 (g:B8):AV→Option (AV×Bool)
 | .own b off n=>(Kh g b).bind fun x=>cond x.pure (some (.imm ((x.cells.drop off).take (n*x.sz)) n x.sz false (!x.sealed||x.taint),!x.sealed)) none
 | .imm c n sz _ org=>some (.imm c n sz false org,false)
 | .optr b off=>(Kh g b).bind fun x=>cond x.pure (some (.iptr (x.cells.drop off) (!x.sealed||x.taint),!x.sealed)) none
 | .agg c=>(aX g c).bind fun q=>some (.pagg q.1 q.2,true)
 | .fn f []=>some (.fn f [],false)
 | .fn _ _ | .tup _ | .undef | .omap _=>none
 | v=>some (v,false)
def J6 (d:Nat):List (Nat×Nat)→Nat→Nat
 | [],_=>d
 | (i,x)::r,b=>cond (Nat.beq i b) x (J6 d r b)
def Kj:List Nat→Nat→Bool
 | [],_=>false
 | i::r,b=>cond (Nat.beq i b) true (Kj r b)
def uK:List Nat→List Nat→List Nat
 | [],acc=>acc.reverse
 | i::r,acc=>cond (Kj acc i) (uK r acc) (uK r (i::acc))
def aY:List Nat→Bool
 | []=>true
 | i::r=>!Kj r i&&aY r
def A8 (base:Nat):List Nat→List (Nat×Nat)
 | []=>[]
 | i::r=>(i,base)::A8 (base+1) r
def Mq (g:B8):List Nat→List Nat
 | []=>[]
 | b::r=>(match g b with | some x=>cond x.pure [] (Jl x.cells) | none=>[])++Mq g r
def EI (g:B8) (ids:List Nat):List Nat:=uK (ids++Mq g (ids++Mq g ids)) []
def aZ (g:B8):List Nat→Bool
 | []=>true
 | b::r=>(match g b with | some x=>!x.dead | none=>false)&&aZ g r
def MJ (ρ:Nat→Nat) (x:Blk):Blk:={ x with cells:=cond x.pure x.cells (AM ρ x.cells) }
def sub (g:B8) (ρ:Nat→Nat):List Nat→Am
 | []=>[]
 | b::r=>match g b with
  | some x=>G0 (sub g ρ r) (ρ b) (MJ ρ x)
  | none=>sub g ρ r
structure Tw where
 runK:{R:Type}→List AV→Am→(AV→Am→Option R)→Option R
 eq:∀ {R:Type} (args:List AV) (h:Am) (k:AV→Am→Option R),runK args h k=(runK args h fun v h'=>some (v,h')).bind fun p=>k p.1 p.2
def nQ {R:Type}:List (Nat×Tw)→Nat→List AV→Am→(AV→Am→Option R)→Option R
 | [],_,_,_,_=>none
 | (g,t)::r,f,args,h,k=>cond (Nat.beq g f) (t.runK args h k) (nQ r f args h k)
structure Env where
 P:Program
 nt:Nat
 muts:Nat→List Bool
 nils:List (Nat×Nat)
 free:List Nat
 cob:List Nat
 tbl:List (Nat×Tw)
mutual
def MK:AV→Bool
 | .imm _ _ _ _ o=>o
 | .iptr _ o=>o
 | .pagg _ o=>o
 | .agg c=>W4 c
 | .tup c=>W4 c
 | .fn _ c=>W4 c
 | _=>false
def W4:List AV→Bool
 | []=>false
 | v::r=>MK v||W4 r
end
def nR:Am→Bool
 | []=>false
 | (_,x)::r=>x.taint||(cond x.pure false (W4 x.cells))||nR r
def Ll (g:B8):List AV→List Nat
 | []=>[]
 | .own b _ _::r=>match g b with | some x=>cond x.sealed (Ll g r) (b::Ll g r) | none=>Ll g r
 | _::r=>Ll g r
def NO (g:B8):AV→List Nat
 | .own b _ _=>match g b with | some x=>cond x.sealed [] [b] | none=>[]
 | .optr b _=>match g b with | some x=>cond x.sealed [] [b] | none=>[]
 | .agg c=>Ll g c
 | _=>[]
def NP (g:B8):List Bool→List AV→Option (List AV×List Nat×List Nat)
 | _,[]=>some ([],[],[])
 | ms,v::r =>
  cond (ms.headD false)
   ((NP g ms.tail r).bind fun q=>some (v::q.1,Hp v++q.2.1,q.2.2))
   ((Ao2 g v).bind fun p=>(NP g ms.tail r).bind fun q=>some (p.1::q.1,q.2.1,NO g v++q.2.2))
def WB (ids:List Nat):List Nat→Bool
 | []=>true
 | b::r=>Kj ids b&&WB ids r
def Asx:List Nat→List Nat→Bool
 | [],_=>true
 | i::r,l=>!Kj l i&&Asx r l
def Ao3:List Nat→Bool
 | []=>true
 | _=>false
def Alg {R:Type} (E:Env) (g:B8) (d:Nat) (f:Nat) (args:List AV) (k:AV→If→Option R):Option R :=
 (NP g (E.muts f) args).bind fun q =>
 let ids:=EI g q.2.1
 let tin:=A8 100000 ids
 let outs:=tin.map (·.2)
 cond (aZ g ids&&(WB ids q.2.1&&(WB ids (Mq g ids)&&(Asx q.2.2 ids&&(aY (ids.map (J6 0 tin))&&Nat.ble ids.length 100000))))) (
  nQ E.tbl f (AM (J6 0 tin) q.1) (sub g (J6 0 tin) ids) fun rv rh =>
  let all:=EI (Au rh) (Hp rv++outs)
  let new:=all.filter fun b=>!Kj outs b
  let tnew:=A8 (nid d) new
  let σ:=J6 0 ((tin.map fun p=>(p.2,p.1))++tnew)
  cond (!Ao3 q.2.2&&(MK rv||nR rh)) none
   (cond (aZ (Au rh) new&&(Nat.ble new.length 16&&(WB all (Hp rv)&&(WB all outs&&(WB all (Mq (Au rh) all)&&aY (all.map σ))))))
    (k (gt σ rv) ((tin.map fun p=>(p.1,(Au rh p.2).map (MJ σ)))++tnew.map fun p=>(p.2,(Au rh p.1).map (MJ σ)))) none)) none
def Alh {R:Type} (c a b:AV) (k:AV→Option R):Option R :=
 match c,a,b with
 | .bool t,.bool x,.bool y=>k (.bool (cond t x y))
 | .bool t,x,.tup []=>cond t (k x) none
 | .bool t,.tup [],y=>cond t none (k y)
 | .bool t,x,y=>cond t (k x) (k y)
 | _,_,_=>none
def A1p (P : Program) (f : Nat) : Bool := match P.funcs[f]? with | some fn => fn.body.isSome && !(fn.name == "runtime.NumGoroutine") | none => false
def Bv (a b:Int):Int:=cond (decide (b<a)) b a
def Ig (a b:Int):Int:=cond (decide (b>a)) b a
def A26:AV→AV→Option AV
 | .int k a,.int _ b=>some (.int k (Bv a b))
 | _,_=>none
def A27:AV→AV→Option AV
 | .int k a,.int _ b=>some (.int k (Ig a b))
 | _,_=>none
def Ain {R:Type} (E:Env) (g:B8) (d:Nat) (v:Operand→AV) (o:Op) (k:AV→If→Option R):Option R :=
 match o with
 | .move x=>k (v x) []
 | .assign x=>k (v x) []
 | .pick c a b=>Alh (v c) (v a) (v b) fun r=>k r []
 | .alloc t=>rp E.P g (Kj E.cob d) d t k
 | .box t x=>rs E.P (Kj E.cob d) t (v x) fun u=>Asv E.P g d t u k
 | .build t parts=>Aoz E.P t (parts.toList.map fun p=>(p.1,v p.2)) fun r=>A25 E.P t (Kj E.cob d) d r k
 | .buildSlice t len parts=>cond ((parts.toList.map fun p=>(p.1,v p.2)).any fun p=>A6h p.2) (V1 E.P g d t len (parts.toList.map fun p=>(p.1,v p.2)) k) (S9 E.P g d t len (parts.toList.map fun p=>(p.1,v p.2)) k)
 | .load t a=>zg E.P g t (v a) fun r=>k r []
 | .store t a x=>ro E.P g t (v a) (v x) k
 | .nilCheck x=>match v x with | .iptr c o=>k (.iptr c o) [] | .optr b o=>k (.optr b o) [] | _=>none
 | .binOp op t x y _=>Ak9 E.P t op (v x) (v y) fun r=>k r []
 | .unOp op _ x=>(Bc3 op (v x)).bind fun r=>k r []
 | .convert s t x=>Ale E.P g d s t (v x) k
 | .makeFunc (.func f) first caps=>cond (Nat.blt f 1000000) (k (.fn (f+1000000*first.toList.length) ((first.toList++caps.toList).map v)) []) none
 | .makeSlice t l c=>Alc E.P d t (v l) (v c) k
 | .slice t x lo hi mx=>rn E.P g t (v x) (lo.map v) (hi.map v) (mx.map v) fun r=>k r []
 | .fieldAddr t x f=>V0 E.P t (v x) f fun r=>k r []
 | .field t x f=>rk E.P t (v x) f fun r=>k r []
 | .indexAddr t x i=>Vz E.P t (v x) (v i) fun r=>k r []
 | .index t x i=>rm E.P t (v x) (v i) fun r=>k r []
 | .makeMap _ r=>EH d (r.map v) k
 | .mapUpdate t m x y=>rt E.P g t (v m) (v x) (v y) k
 | .lookup t m x c=>Alf E.P g t (v m) (v x) c fun r=>k r []
 | .extract t i=>match v t with | .tup vs=>(vs[i]?).bind fun r=>k r [] | _=>none
 | .call c=>match c.callee with
  | .builtin .len=>match c.args.toList,c.argTypes.toList with | [x],[t]=>(Bay E.P t (v x)).bind fun r=>k r [] | _,_=>none
  | .builtin .append=>match c.args.toList,c.argTypes.toList with | [s,x],[t,tx]=>fg E.P g d t tx (v s) (v x) k | _,_=>none
  | .builtin .copy=>match c.args.toList,c.argTypes.toList with | [s,x],[t,_]=>Ald E.P g t (v s) (v x) k | _,_=>none
  | .builtin .min=>match c.args.toList with | [x,y]=>(A26 (v x) (v y)).bind fun r=>k r [] | [x,y,z]=>(A26 (v x) (v y)).bind fun q=>(A26 q (v z)).bind fun r=>k r [] | _=>none
  | .builtin .max=>match c.args.toList with | [x,y]=>(A27 (v x) (v y)).bind fun r=>k r [] | [x,y,z]=>(A27 (v x) (v y)).bind fun q=>(A27 q (v z)).bind fun r=>k r [] | _=>none
  | .value fo=>match v fo with
   | .fn f caps=>cond (A1p E.P (f%1000000)) (Alg E g d (f%1000000) (caps.take (f/1000000)++(c.args.toList.map v++caps.drop (f/1000000))) k) none
   | _=>none
  | _=>none
 | _=>none
structure Foot where
 r:List Nat
 w:Option Nat
 f:List Nat
 u:List Nat
def lO:List Operand→List Nat
 | []=>[]
 | .tmp t::r=>t::lO r
 | _::r=>lO r
def At:If→Am→Am
 | [],h=>h
 | (b,some x)::r,h=>At r (G0 h b x)
 | (b,none)::r,h=>At r (match Au h b with | some x=>G0 h b { x with dead:=true,pure:=true,cells:=[] } | none=>h)
def fh (ops:Array Oper) (o:Oper):Option (Nat×Bool) :=
 match o.guard with
 | none=>none
 | some (j,want)=>((ops[j]?).bind (·.dst)).map fun t=>(t,want)
def SH (ops:Array Oper) (s:Ho) (o:Oper):Option Bool :=
 match o.guard with
 | none=>some true
 | some (j,want)=>match (ops[j]?).bind (·.dst) with
  | some t=>match Gu s t with
   | .bool b=>some (b==want)
   | .tup []=>some false
   | _=>none
  | none=>some false
def Axl (nt:Nat) (s:Ho) (d:Option Nat) (v:AV):Ho:=match d with | some d=>cond (Nat.blt d nt) (lL s d v) s | none=>s
def A1q:Op→Bool
 | .move _ | .assign _ | .pick .. | .build .. | .binOp .. | .unOp .. | .makeFunc .. | .fieldAddr .. | .field .. | .indexAddr .. | .index .. | .extract .. | .nilCheck _=>false
 | .call c=>match c.callee with
  | .builtin .len | .builtin .min | .builtin .max=>false
  | _=>true
 | _=>true
def A1r:Op→Bool
 | .load ..=>true
 | _=>false
def Z3 (h:Am) (op:Op) (vals:List AV):List Nat:=cond (A1q op) (cond (A1r op) (uK (Jl vals) []) (EI (Au h) (Jl vals))) []
def WC (d b:Nat):Bool:=Nat.ble (nid d) b&&Nat.blt b (nid d+16)
def iS (d:Nat) (F:List Nat) (h:Am):If→Bool
 | []=>true
 | (b,_)::r=>cond (WC d b) (Au h b).isNone (Kj F b&&(Au h b).isSome)&&iS d F h r
def Asy {R:Type} (E:Env) (ops:Array Oper) (o:Oper) (st:St) (k:St→Foot→Option R):Option R :=
 (SH ops st.s o).bind fun wanted=>cond wanted (
  Ain E (fun b=>cond (Kj (Z3 st.h o.op (o.op.operands.toList.map (ev st.s))) b) (Au st.h b) none) (o.dst.getD 50000) (ev st.s) o.op fun v ups =>
  cond (iS (o.dst.getD 50000) (Z3 st.h o.op (o.op.operands.toList.map (ev st.s))) st.h ups)
   (k { s:=Axl E.nt st.s o.dst v,h:=At ups st.h } { r:=(match fh ops o with | some p=>[p.1] | none=>[])++lO o.op.operands.toList,w:=o.dst,f:=Z3 st.h o.op (o.op.operands.toList.map (ev st.s)),u:=ups.map (·.1) }) none)
  (k { st with s:=Axl E.nt st.s o.dst (.tup []) } { r:=(match fh ops o with | some p=>[p.1] | none=>[]),w:=o.dst,f:=[],u:=[] })
def rx {R:Type} (ops:Array Oper) (o:Oper) (st:St) (k:St→Option R):Option R :=
 match o.guard with
 | none=>k st
 | some (j,want)=>match (ops[j]?).bind (·.dst) with
  | none=>k st
  | some t=>match Gu st.s t with
   | .bool b=>cond (b==want) (k { s:=lL st.s t (.bool want),h:=st.h }) (k { s:=lL st.s t (.bool (!want)),h:=st.h })
   | _=>k st
def zk {R:Type} (E:Env) (ops:Array Oper):List Oper→St→List Foot→(St→List Foot→Option R)→Option R
 | [],st,tr,k=>k st tr
 | o::r,st,tr,k=>rx ops o st fun st=>Asy E ops o st fun st f=>zk E ops r st (f::tr) k
def Bcv:Option Nat→List Nat→Bool
 | none,_=>false
 | some d,l=>Kj l d
def uL (a b:Foot):Bool :=
 !Bcv a.w b.r&&!Bcv b.w a.r&&(match a.w,b.w with | some x,some y=>!Nat.beq x y | _,_=>true)&&Asx a.u (b.f++b.u)&&Asx b.u a.f
def a6 (e:Edge):Bool:=match e.ground with | .textOnly _=>false | .gcOnly _=>false | _=>true
def SI (o:Oper):List Nat:=(o.after.toList.filter a6).map (·.on)
def Ao4 {α:Type}:List Nat→(List Nat→α)→α
 | [],k=>k []
 | i::r,k=>Ao4 r fun s=>k (i::s)
theorem NQ {α:Type}:∀ (l:List Nat) (k:List Nat→α),Ao4 l k=k l
 | [],_=>rfl
 | i::r,k=>by rw[Ao4,NQ r]
def Hf:List Oper→List (List Nat)→List (List Nat)
 | [],acc=>acc
 | o::r,acc=>Ao4 (uK (SI o++((SI o).flatMap fun i=>(acc[i]?).getD [])) []) fun a=>Hf r (acc++[a])
def DQ:Nat→List Oper→Bool
 | _,[]=>true
 | i,o::r=>(o.after.toList.all fun e=>!a6 e||Nat.blt e.on i)&&DQ (i+1) r
def nS (f:Foot) (anc:List Nat):Nat→List Foot→Bool
 | _,[]=>true
 | i,g::r=>(Kj anc i||uL g f)&&nS f anc (i+1) r
def fi:List Foot→List (List Nat)→List Foot→Bool
 | [],_,_=>true
 | f::r,a::az9,seen=>nS f a 0 seen&&fi r az9 (seen++[f])
 | _::_,[],_=>false
def Mr (b:Nat):Nat:=cond (Nat.ble H9 b) (b - H9) b
mutual
def EJ (g:B8):AV→AV
 | .own b off n=>match Kh g b with | some _=>.own (Mr b) off n | none=>.undef
 | .optr b off=>match Kh g b with | some _=>.optr (Mr b) off | none=>.undef
 | .omap b=>match Kh g b with | some _=>.omap (Mr b) | none=>.undef
 | .agg c=>.agg (Lm g c)
 | .tup c=>.tup (Lm g c)
 | .fn f c=>.fn f (Lm g c)
 | v=>v
def Lm (g:B8):List AV→List AV
 | []=>[]
 | v::r=>EJ g v::Lm g r
end
def ry (g:B8) (K:List Nat):Ho→Ho
 | []=>[]
 | (t,v)::r=>cond (Kj K t) ((t,EJ g v)::ry g K r) (ry g K r)
def zl (K:List Nat):Ho→List Nat
 | []=>[]
 | (t,v)::r=>cond (Kj K t) (Hp v++zl K r) (zl K r)
def EK (g:B8):List Nat→Am
 | []=>[]
 | b::r=>match Kh g b with
  | some x=>G0 (EK g r) (Mr b) { x with cells:=cond x.pure x.cells (Lm g x.cells) }
  | none=>EK g r
def IM (g:B8) (ids:List Nat):List Nat:=ids.filter fun b=>match Kh g b with | some _=>true | none=>false
def zm (g:B8) (ids:List Nat):List Nat→Bool
 | []=>true
 | b::r=>(Kj ids b||(Kh g b).isNone)&&zm g ids r
def A1s:List Nat→Bool
 | []=>true
 | b::r=>cond (Nat.ble H9 b) (Nat.blt (Mr b) 100000) true&&A1s r
def clean (K roots:List Nat) (st:St):Option St :=
 let g:=Au st.h
 let ids:=IM g (EI g (zl K st.s++roots))
 cond (aY (ids.map Mr)&&(zm g ids (zl K st.s)&&(zm g ids (Mq g ids)&&A1s ids))) (some { s:=ry g K st.s,h:=EK g ids }) none
def fj {R:Type} (E:Env) (roots:List Nat) (ops:Array Oper) (draw:Bool) (st:St) (k:St→Option R):Option R :=
 zk E ops ops.toList st [] fun st tr =>
  cond (!draw||(DQ 0 ops.toList&&fi tr.reverse (Hf ops.toList []) [])) ((clean (st.s.map (·.1)) roots st).bind k) none
def zn (b:Nat):Bool:=Nat.ble 100000 b&&Nat.blt b 200000
def SK (live:List Nat):List (Nat×Nat)→St→Option St
 | [],st=>some st
 | (t,sz)::r,st=>cond (Nat.ble 1000000 sz)
  (match Kj live t,Gu st.s t with
  | true,.nsl=>SK live r { s:=lL st.s t (.imm [] 0 (sz - 1000000) false false),h:=st.h }
  | true,.own b off n=>(iR (Au st.h) (.own b off n)).bind fun q=>SK live r { s:=lL st.s t q.1,h:=At q.2.1 st.h }
  | _,_=>SK live r st)
  (match Kj live t,Gu st.s t with
  | true,.nsl=>cond (Au st.h (nid t+15)).isSome none (SK live r { s:=lL st.s t (.own (nid t+15) 0 0),h:=G0 st.h (nid t+15) (Gv sz) })
  | _,_=>SK live r st)
def NR (free:List Nat) (b:Nat):Bool:=zn b&&!Kj free b
def A6j (free ids:List Nat):List (Nat×Nat):=A8 300000 (ids.filter fun b=>!NR free b)
def EL (free ids:List Nat) (b:Nat):Nat:=cond (NR free b) b (J6 0 (A6j free ids) b)
def A6k (ρ:Nat→Nat) (K:List Nat):Ho→Ho
 | []=>[]
 | (t,v)::r=>cond (Kj K t) ((t,gt ρ v)::A6k ρ K r) (A6k ρ K r)
def nT (E:Env) (live roots:List Nat) (st:St):Option St :=
 (SK live E.nils st).bind fun st =>
 let g:=Au st.h
 let ids:=IM g (EI g (zl live st.s++roots))
 cond (aY (ids.map (EL E.free ids))&&(WB ids (zl live st.s)&&(WB ids (Mq g ids)&&Nat.ble ids.length 100000))) (some { s:=A6k (EL E.free ids) live st.s,h:=sub g (EL E.free ids) ids }) none
inductive Hint where
 | leaf
 | node (live:List Nat) (a b:Hint)
 | join (live:List Nat) (a b:Hint)
def Hint.live:Hint→List Nat
 | .leaf=>[]
 | .node l _ _=>l
 | .join l _ _=>l
def Hint.a:Hint→Hint
 | .leaf=>.leaf
 | .node _ a _=>a
 | .join _ a _=>a
def Hint.b:Hint→Hint
 | .leaf=>.leaf
 | .node _ _ b=>b
 | .join _ _ b=>b
def Hint.isJoin:Hint→Bool
 | .join _ _ _=>true
 | _=>false
noncomputable def Ah {α:Type} (a:α):{ x:α // x=a }:=Classical.choice ⟨⟨a,rfl⟩⟩
noncomputable def A6l {R:Type} (j:Bool) (f:St→Option R):St→Option R:=cond j (Ah f).1 f
theorem IN {R:Type} (j:Bool) (f:St→Option R):A6l j f=f:=by cases j;rfl;exact(Ah f).2
noncomputable def A28 {R:Type} (E:Env) (roots:List Nat) (H:Hint) (f:St→Option R) (st:St):Option R:=cond H.isJoin ((nT E H.live roots st).bind (A6l true f)) (f st)
def a7 {R:Type} (cn:St→Option St) (body:(St→Option R)→St→Option R):Nat→St→Option R
 | 0,_=>none
 | n+1,st=>body (fun st=>(cn st).bind (a7 cn body n)) st
noncomputable def Gw {R:Type} (E:Env) (roots:List Nat) (N:Nat):Code→Hint→(St→Option R)→(Nat→St→Option R)→(St→Option R)→St→Option R
 | .skip,_,k,_,_,st=>k st
 | .region _ ops draw,_,k,_,_,st=>fj E roots ops draw st k
 | .seq a b,H,k,x,r,st=>Gw E roots N a H.a (A28 E roots H fun st=>Gw E roots N b H.b k x r st) x r st
 | .cond c a b,H,k,x,r,st=>match ev st.s c with
  | .bool t=>cond t (Gw E roots N a H.a k x r st) (Gw E roots N b H.b k x r st)
  | _=>none
 | .block id c,H,k,x,r,st=>Gw E roots N c H.a k (fun j st=>cond (Nat.beq j id) (k st) (x j st)) r st
 | .loop c,H,_,x,r,st=>(nT E H.live roots st).bind (A6l true (a7 (nT E H.live roots) (fun k st=>Gw E roots N c H.a k x r st) N))
 | .exit id,_,_,x,_,st=>x id st
 | .ret,_,_,_,r,st=>r st
 | _,_,_,_,_,_=>none
def Pt {R:Type} (E:Env) (st:St):List ResultVar→List AV→(List AV→Option R)→Option R
 | [],acc,k=>k acc.reverse
 | .tmp t::r,acc,k=>Pt E st r (Gu st.s t::acc) k
 | .cell a t::r,acc,k=>zg E.P (Au st.h) t (Gu st.s a) fun v=>Pt E st r (v::acc) k
def Baz (g:B8) (i:Nat) (m:Nat×Nat) (v:AV):Option (AV×If) :=
 cond (Nat.beq m.1 0) (some (v,[]))
 (cond (Nat.beq m.1 1) (match v with
  | .nsl=>some (.imm [] 0 m.2 false false,[])
  | .imm c n sz _ o=>some (.imm c n sz false o,[])
  | .own b off n=>(iR g (.own b off n)).bind fun q=>some (q.1,q.2.1)
  | _=>none)
 (cond (Nat.beq m.1 2) (match v with
  | .nsl=>cond (g (nid 90000+i)).isSome none (some (.own (nid 90000+i) 0 0,[(nid 90000+i,some (Gv m.2))]))
  | v=>some (v,[]))
 (match v with
  | .agg c=>(EG g c).bind fun q=>some (.pagg q.1 q.2.2,q.2.1)
  | .pagg c o=>some (.pagg c o,[])
  | _=>none)))
def Asz (h:Am):Nat→List (Nat×Nat)→List AV→Option (List AV×Am)
 | _,_,[]=>some ([],h)
 | i,ms,v::r=>(Baz (Au h) i (ms.headD (0,0)) v).bind fun p=>(Asz (At p.2 h) (i+1) ms.tail r).bind fun q=>some (p.1::q.1,q.2)
def Ba0 (l:List AV):AV:=match l with | [v]=>v | l=>.tup l
def CH {R:Type} (E:Env) (fn:Func) (modes:List (Nat×Nat)) (outs:List Nat) (k:AV→Am→Option R) (st:St):Option R :=
 Pt E st fn.results.toList [] fun l =>
 (Asz st.h 0 modes l).bind fun q =>
 let v:=Ba0 q.1
 let g:=Au q.2
 let ids:=IM g (EI g (Hp v++outs))
 cond (aY (ids.map (EL E.free ids))&&(WB ids (Hp v)&&(WB ids (Mq g ids)&&Nat.ble ids.length 100000))) (k (gt (EL E.free ids) v) (sub g (EL E.free ids) ids)) none
def Ali:Nat→List AV→Ho
 | _,[]=>[]
 | i,v::r=>(i,v)::Ali (i+1) r
structure Hints where
 H:Hint
 nils:List (Nat×Nat):=[]
 modes:List (Nat×Nat):=[]
 free:List Nat:=[]
 cob:List Nat:=[]
def z8:Am→Bool
 | []=>true
 | (b,_)::r=>zn b&&z8 r
noncomputable def WD {R:Type} (P:Program) (muts:Nat→List Bool) (T:List (Nat×Tw)) (hs:Hints) (N f:Nat) (args:List AV) (h:Am) (k:AV→Am→Option R):Option R :=
 match P.funcs[f]? with
 | none=>none
 | some fn=>match fn.body with
  | none=>none
  | some c =>
   let E:Env:={ P,nt:=fn.ntmps,muts,nils:=hs.nils,free:=hs.free,cob:=hs.cob,tbl:=T }
   let outs:=h.map (·.1)
   let fin:=CH E fn hs.modes outs k
   cond (Nat.ble args.length fn.ntmps&&z8 h) (Gw E outs N c hs.H fin (fun _ _=>none) fin { s:=Ali 0 args,h }) none
end Gx

namespace Gx
open Go
mutual
def RepC (J:Nat→Prop) (w:World):AV→Value→Prop
 | .int k n,v=>v=.int k n
 | .bool b,v=>v=.bool b
 | .str s,v=>v=.string ⟨⟨s⟩⟩
 | .nsl,v=>v=.slice none 0 0
 | .imm c len sz tight _,v=>c.length=len*sz∧∃ A cap,v=.slice A len cap∧len≤cap∧(tight=true→cap=len) ∧
   (len=0∨∃ a,A=some a∧J a.block∧RepCs J w c (fun j=>w.cell? (a.add j)) 0)
 | .iptr c _,v=>∃ a,v=.pointer (some a)∧J a.block∧RepCs J w c (fun j=>w.cell? (a.add j)) 0
 | .nilptr,v=>v=.pointer none
 | .nilfn,v=>v=.nilFunc
 | .fn f [],v=>v=.func (.func (f%1000000)) #[] #[]
 | _,_=>False
def RepCs (J:Nat→Prop) (w:World):List AV→(Nat→Option Value)→Nat→Prop
 | [],_,_=>True
 | x::r,rd,i=>(∃ u,rd i=some u∧RepC J w x u)∧RepCs J w r rd (i+1)
end
theorem Cw {J:Nat→Prop} {w:World}:∀ {c:List AV} {rd:Nat→Option Value} {i:Nat},
  RepCs J w c rd i↔∀ j x,c[j]?=some x→∃ u,rd (i+j)=some u∧RepC J w x u:=by
 intro c
 induction c with
 | nil=>intro rd i;simp[RepCs]
 | cons x r A =>
  intro rd i
  rw[RepCs,A]
  constructor
  ·rintro⟨B,C⟩ j y k
   cases j with
   | zero=>simp at k;subst k;simpa using B
   | succ j=>have:=C j y (by simpa using k);rwa [show i+1+j=i+(j+1) by omega] at this
  ·intro h
   refine⟨by simpa using h 0 x (by simp),fun j y k=>?_⟩
   have:=h (j+1) y (by simpa using k)
   rwa [show i+(j+1)=i+1+j by omega] at this
def A1t (J:Nat→Prop) (w w':World):Prop:=∀ k,J k→w'.heap[k]?=w.heap[k]?
theorem Alj {J:Nat→Prop} {w w':World} (h:A1t J w w') {a:Addr} (k:J a.block):w'.cell? a=w.cell? a:=by
 unfold World.cell?;rw[h a.block k]
theorem V3 (a:Addr) (n:Nat):(a.add n).block=a.block:=by unfold Addr.add;split<;>rfl
mutual
theorem RepC.keep {J J':Nat→Prop} {w w':World} (hJ:∀ k,J k→J' k) (hk:A1t J w w'):∀ {x:AV} {v:Value},RepC J w x v→RepC J' w' x v
 | .int ..,_,h=>h
 | .bool _,_,h=>h
 | .str _,_,h=>h
 | .nsl,_,h=>h
 | .imm c _ _ _ _,_,h=>by
  rw[RepC] at h ⊢
  obtain⟨h1,A,cap,h2,h3,h4,h5⟩:=h
  refine⟨h1,A,cap,h2,h3,h4,?_⟩
  rcases h5 with h5 | ⟨a,ha,hj,hc⟩
  ·exact .inl h5
  ·refine .inr ⟨a,ha,hJ _ hj,RepCs.keep hJ hk (c:=c) (fun j=>?_) hc⟩
   exact Alj hk (by rw[V3];exact hj)
 | .iptr c _,_,h=>by
  rw[RepC] at h ⊢
  obtain⟨a,ha,hj,hc⟩:=h
  exact⟨a,ha,hJ _ hj,RepCs.keep hJ hk (c:=c) (fun j=>Alj hk (by rw[V3];exact hj)) hc⟩
 | .nilptr,_,h=>h
 | .nilfn,_,h=>h
 | .fn _ [],_,h=>h
 | .fn _ (_::_),_,h=>by simp[RepC] at h
 | .pagg ..,_,h=>by simp[RepC] at h
 | .agg _,_,h=>by simp[RepC] at h
 | .tup _,_,h=>by simp[RepC] at h
 | .own ..,_,h=>by simp[RepC] at h
 | .optr ..,_,h=>by simp[RepC] at h
 | .undef,_,h=>by simp[RepC] at h
 | .omap _,_,h=>by simp[RepC] at h
theorem RepCs.keep {J J':Nat→Prop} {w w':World} (hJ:∀ k,J k→J' k) (hk:A1t J w w'):∀ {c:List AV} {rd rd':Nat→Option Value} {i:Nat},(∀ j,rd' j=rd j)→RepCs J w c rd i→RepCs J' w' c rd' i
 | [],_,_,_,_,_=>trivial
 | x::r,rd,rd',i,he,h=>by
  rw[RepCs] at h ⊢
  obtain⟨⟨u,hu,hx⟩,hr⟩:=h
  exact⟨⟨u,by rw[he];exact hu,RepC.keep hJ hk (x:=x) hx⟩,RepCs.keep hJ hk (c:=r) he hr⟩
end
abbrev C1:=Nat→Option (Nat×Nat)
def Bt (w:World) (k:Nat):Nat:=match w.heap[k]? with | some (.cells cs _ _)=>cs.size | _=>0
mutual
def Rep (J:Bool→Nat→Prop) (β:C1) (h:Am) (w:World):AV→Value→Prop
 | .own b off n,v=>∃ x A cap,(Au h b=some x∧x.mp=false)∧v=.slice A n cap∧n≤cap∧(cap=0∨∃ k o,A=some ⟨k,o+off,none⟩ ∧
   (x.dead=true∨(β b=some (k,o)∧o+off+cap*x.sz≤Bt w k∧off+n*x.sz≤x.cells.length)))
 | .omap b,v=>∃ x k,(Au h b=some x∧x.mp=true)∧v=.map (some k)∧(x.dead=true∨β b=some (k,0))
 | .optr b off,v=>∃ x k o,(Au h b=some x∧x.mp=false)∧v=.pointer (some ⟨k,o+off,none⟩)∧(x.dead=true∨β b=some (k,o))
 | .pagg c org,v=>∃ cs,v=.agg ⟨cs⟩∧cs.length=c.length∧RepCs (J org) w c (fun j=>cs[j]?) 0
 | .agg c,v=>∃ cs,v=.agg ⟨cs⟩∧Reps J β h w c cs
 | .tup c,v=>∃ cs,v=.tuple ⟨cs⟩∧Reps J β h w c cs
 | .fn f c,v=>∃ cs:List Value,v=.func (.func (f%1000000)) ⟨cs.take (f/1000000)⟩ ⟨cs.drop (f/1000000)⟩∧Reps J β h w c cs
 | .undef,_=>True
 | .imm c n sz t org,v=>RepC (J org) w (.imm c n sz t org) v
 | .iptr c org,v=>RepC (J org) w (.iptr c org) v
 | .int k n,v=>v=.int k n
 | .bool b,v=>v=.bool b
 | .str s,v=>v=.string ⟨⟨s⟩⟩
 | .nsl,v=>v=.slice none 0 0
 | .nilptr,v=>v=.pointer none
 | .nilfn,v=>v=.nilFunc
def Reps (J:Bool→Nat→Prop) (β:C1) (h:Am) (w:World):List AV→List Value→Prop
 | [],cs=>cs=[]
 | x::r,cs=>∃ u us,cs=u::us∧Rep J β h w x u∧Reps J β h w r us
end
structure Ext (J:Bool→Nat→Prop) (β:C1) (h:Am) (w:World) (J':Bool→Nat→Prop) (β':C1) (h':Am) (w':World):Prop where
 jsub:∀ o k,J o k→J' o k
 keep:∀ o,A1t (J o) w w'
 blk:∀ b x,Au h b=some x→∃ x',(Au h' b=some x'∧x'.mp=x.mp)∧(x'.dead=true∨(x.dead=false∧β' b=β b∧x'.sz=x.sz∧(x.mp=false→x'.cells.length=x.cells.length)))
 size:∀ b k o,β b=some (k,o)→Bt w k≤Bt w' k
mutual
theorem Rep.ext {J J':Bool→Nat→Prop} {β β':C1} {h h':Am} {w w':World} (E:Ext J β h w J' β' h' w'):∀ {x:AV} {v:Value},Rep J β h w x v→Rep J' β' h' w' x v
 | .own b off n,v,hr=>by
  rw[Rep] at hr ⊢
  obtain⟨x,A,cap,⟨hx,hm⟩,h1,h2,hr⟩:=hr
  obtain⟨x',⟨hx',hm'⟩,hd⟩:=E.blk b x hx
  refine⟨x',A,cap,⟨hx',by rw[hm',hm]⟩,h1,h2,?_⟩
  rcases hr with hr | ⟨k,o,h3,hr⟩
  ·exact .inl hr
  ·refine .inr ⟨k,o,h3,?_⟩
   rcases hd with hd | ⟨hd,hβ,hs,hl⟩
   ·exact .inl hd
   ·rcases hr with hr | ⟨h4,h5,h6⟩
    ·simp[hd] at hr
    ·exact .inr ⟨by rw[hβ];exact h4,by rw[hs];exact Nat.le_trans h5 (E.size b k o h4),by rw[hs,hl hm];exact h6⟩
 | .optr b off,v,hr=>by
  rw[Rep] at hr ⊢
  obtain⟨x,k,o,⟨hx,hm⟩,h1,hr⟩:=hr
  obtain⟨x',⟨hx',hm'⟩,hd⟩:=E.blk b x hx
  refine⟨x',k,o,⟨hx',by rw[hm',hm]⟩,h1,?_⟩
  rcases hd with hd | ⟨hd,hβ,hs,hl⟩
  ·exact .inl hd
  ·rcases hr with hr | hr
   ·simp[hd] at hr
   ·exact .inr (by rw[hβ];exact hr)
 | .omap b,v,hr=>by
  rw[Rep] at hr ⊢
  obtain⟨x,k,⟨hx,hm⟩,h1,hr⟩:=hr
  obtain⟨x',⟨hx',hm'⟩,hd⟩:=E.blk b x hx
  refine⟨x',k,⟨hx',by rw[hm',hm]⟩,h1,?_⟩
  rcases hd with hd | ⟨hd,hβ,hs,hl⟩
  ·exact .inl hd
  ·rcases hr with hr | hr
   ·simp[hd] at hr
   ·exact .inr (by rw[hβ];exact hr)
 | .pagg c org,v,hr=>by
  rw[Rep] at hr ⊢
  obtain⟨cs,h1,h2,h3⟩:=hr
  exact⟨cs,h1,h2,RepCs.keep (E.jsub org) (E.keep org) (fun _=>rfl) h3⟩
 | .agg c,v,hr=>by
  rw[Rep] at hr ⊢
  obtain⟨cs,h1,h2⟩:=hr
  exact⟨cs,h1,Reps.ext E (c:=c) h2⟩
 | .tup c,v,hr=>by
  rw[Rep] at hr ⊢
  obtain⟨cs,h1,h2⟩:=hr
  exact⟨cs,h1,Reps.ext E (c:=c) h2⟩
 | .fn f c,v,hr=>by
  rw[Rep] at hr ⊢
  obtain⟨cs,h1,h2⟩:=hr
  exact⟨cs,h1,Reps.ext E (c:=c) h2⟩
 | .undef,_,_=>by rw[Rep];trivial
 | .imm c n sz t org,v,hr=>by rw[Rep] at hr ⊢;exact RepC.keep (E.jsub org) (E.keep org) hr
 | .iptr c org,v,hr=>by rw[Rep] at hr ⊢;exact RepC.keep (E.jsub org) (E.keep org) hr
 | .int ..,_,hr=>hr
 | .bool _,_,hr=>hr
 | .str _,_,hr=>hr
 | .nsl,_,hr=>hr
 | .nilptr,_,hr=>hr
 | .nilfn,_,hr=>hr
theorem Reps.ext {J J':Bool→Nat→Prop} {β β':C1} {h h':Am} {w w':World} (E:Ext J β h w J' β' h' w'):∀ {c:List AV} {cs:List Value},Reps J β h w c cs→Reps J' β' h' w' c cs
 | [],_,hr=>hr
 | x::r,cs,hr=>by
  rw[Reps] at hr ⊢
  obtain⟨u,us,h1,h2,h3⟩:=hr
  exact⟨u,us,h1,Rep.ext E (x:=x) h2,Reps.ext E (c:=r) h3⟩
end
end Gx

namespace Gx
open Go
def CellsRep (J:Bool→Nat→Prop) (β:C1) (h:Am) (w:World) (x:Blk) (rd:Nat→Option Value):Prop :=
 (x.pure=true→RepCs (J x.taint) w x.cells rd 0) ∧
 (x.pure=false→∀ j c,x.cells[j]?=some c→∃ u,rd j=some u∧Rep J β h w c u∧u.oneCell'=true)
def FrOk (n:Nat) (fr:Nat×Nat):Prop:=fr.1=fr.2∨n≤fr.1
theorem FrOk.at {n:Nat} {fr:Nat×Nat} (h:FrOk n fr) (j:Nat) (k:j<n):¬ (fr.1≤j∧j<fr.2):=by rcases h with h | h<;>omega
def Ba1 (J:Bool→Nat→Prop) (β:C1) (h:Am) (w:World) (b:Nat) (x:Blk):Prop :=
 (β b=none∧x.cells=[])∨∃ k o cs ty fr,β b=some (k,o)∧w.heap[k]?=some (.cells cs ty fr) ∧
  FrOk cs.size fr∧o+x.cells.length≤cs.size∧CellsRep J β h w x (fun j=>cs[o+j]?) ∧
  (x.sealed=false→∀ g,¬ J g k)∧(x.sealed=true→J x.taint k)
def A8p (c:List AV) (es:Array MapEntry):Prop:=∃ l:List Int,c=l.map (fun n=>.int .i64 n)∧es.toList.map (fun e=>(e.key,e.val))=l.map (fun n=>(.int .i64 n,.bool true))
def MapRep (J:Bool→Nat→Prop) (β:C1) (w:World) (b:Nat) (x:Blk):Prop :=
 x.pure=true∧x.sealed=false∧∃ k es clk,β b=some (k,0)∧w.heap[k]?=some (.map es clk)∧A8p x.cells es∧∀ g,¬ J g k
structure SimH (J:Bool→Nat→Prop) (β:C1) (h:Am) (w:World):Prop where
 jlt:∀ o k,J o k→k<w.heap.size
 jft:∀ k,J false k→J true k
 blk:∀ b x,Au h b=some x→x.dead=false→x.mp=false→Ba1 J β h w b x
 mblk:∀ b x,Au h b=some x→x.dead=false→x.mp=true→MapRep J β w b x
 sep:∀ b b' x x' k o o',Au h b=some x→Au h b'=some x'→x.dead=false→x'.dead=false→x.sealed=false→β b=some (k,o)→β b'=some (k,o')→b=b'
mutual
theorem fk {J:Bool→Nat→Prop} {β:C1} {h:Am} {w:World}:∀ v:Value,Rep J β h w (uE v) v
 | .int ..=>by simp[uE,Rep]
 | .bool _=>by simp[uE,Rep]
 | .string ⟨⟨s⟩⟩=>by simp[uE,Rep]
 | .slice none 0 0=>by simp[uE,Rep]
 | .slice none 0 (_+1)=>by simp[uE,Rep]
 | .slice none (_+1) _=>by simp[uE,Rep]
 | .slice (some _) _ _=>by simp[uE,Rep]
 | .pointer none=>by simp[uE,Rep]
 | .pointer (some _)=>by simp[uE,Rep]
 | .nilFunc=>by simp[uE,Rep]
 | .agg ⟨cs⟩=>by rw[uE,Rep];exact⟨cs,rfl,fl cs⟩
 | .float ..=>by simp[uE,Rep]
 | .complex ..=>by simp[uE,Rep]
 | .map _=>by simp[uE,Rep]
 | .chan _=>by simp[uE,Rep]
 | .func ..=>by simp[uE,Rep]
 | .iface ..=>by simp[uE,Rep]
 | .nilIface=>by simp[uE,Rep]
 | .tuple _=>by simp[uE,Rep]
theorem fl {J:Bool→Nat→Prop} {β:C1} {h:Am} {w:World}:∀ cs:List Value,Reps J β h w (Qx cs) cs
 | []=>by simp[Qx,Reps]
 | v::r=>by rw[Qx,Reps];exact⟨v,r,rfl,fk v,fl r⟩
end
structure SimS (J:Bool→Nat→Prop) (β:C1) (h:Am) (w:World) (s:Ho) (t:Array Value):Prop where
 slot:∀ i v,t[i]?=some v→Rep J β h w (Gu s i) v
 out:∀ i,t.size≤i→Gu s i=.undef
theorem Bp {J:Bool→Nat→Prop} {β:C1} {h:Am} {w:World} {s:Ho} {a:Act} (H:SimS J β h w s a.tmps) (x:Operand):Rep J β h w (ev s x) (a.eval x):=by
 cases x with
 | tmp t =>
  rw[ev,Act.eval,Array.getD_eq_getD_getElem?]
  cases k:a.tmps[t]? with
  | some v=>exact H.slot t v k
  | none =>
   have:a.tmps.size≤t:=by simpa using k
   rw[H.out t this];simp[Rep]
 | const v=>exact fk v
 | global g=>simp[ev,Rep]
 | func f =>
  rw[ev]
  cases A:Nat.blt f 1000000 with
  | false=>simp[Rep]
  | true =>
   have:f<1000000:=by simpa using A
   simp[Rep,Act.eval,Reps,Nat.mod_eq_of_lt this]
section
variable {R:Type} {r:R} {P:Program} {J:Bool→Nat→Prop} {β:C1} {h:Am} {w:World}
theorem Ao5 {t:TypeId} {op:BinOp} {k:IntKind} {a b:Int} {v:AV} (A:rj op k a b=some v) :
  ∃ vc,(binOp op t (.int k a) (.int k b)).run P w=.ok vc w∧Rep J β h w v vc:=by
 cases op<;>simp[rj] at A<;>subst A<;>simp[binOp,Op.intArith,Op.intBits,Op.intCmp,Rep]
theorem Axm {op:BinOp} {t:TypeId} {x y:AV} {k:AV→Option R} {vx vy:Value} (A:A23 P t op x y k=some r) (L:Rep J β h w x vx) (M:Rep J β h w y vy) (ox oy:Operand) :
  ∃ v vc,k v=some r∧(do eqGuard op t ox oy vx vy;binOp op t vx vy:Sem Value).run P w=.ok vc w∧Rep J β h w v vc:=by
 unfold A23 at A
 split at A
 ·rename_i F a I b
  rw[Rep] at L M;subst L M
  have C:(eqGuard op t ox oy (.int F a) (.int I b)).run P w=.ok () w:=by
   unfold eqGuard;cases op<;>simp
  split at A
  ·cases B:decide (b<0)<;>rw[B] at A<;>simp at A B
   refine⟨_,_,A,?_,by rw[Rep]⟩
   simp[C,binOp,Op.shift];intro T;omega
  ·cases B:decide (b<0)<;>rw[B] at A<;>simp at A B
   refine⟨_,_,A,?_,by rw[Rep]⟩
   simp[C,binOp,Op.shift];intro T;omega
  ·cases G:Tz F I<;>rw[G] at A<;>simp at A
   have D:F=I:=by simpa[Tz] using G
   subst D
   cases B:(b==0)<;>rw[B] at A<;>simp at A B
   refine⟨_,_,A,?_,by rw[Rep]⟩
   simp[C,binOp,Op.intDiv,B]
  ·cases G:Tz F I<;>rw[G] at A<;>simp at A
   have D:F=I:=by simpa[Tz] using G
   subst D
   cases B:(b==0)<;>rw[B] at A<;>simp at A B
   refine⟨_,_,A,?_,by rw[Rep]⟩
   simp[C,binOp,Op.intDiv,B]
  ·cases G:Tz F I<;>rw[G] at A<;>simp at A
   have D:F=I:=by simpa[Tz] using G
   subst D
   cases hi:rj op F a b with
   | none=>rw[hi] at A;simp at A
   | some v =>
    rw[hi] at A
    obtain⟨vc,U,V⟩:=Ao5 (P:=P) (J:=J) (β:=β) (h:=h) (w:=w) (t:=t) hi
    exact⟨v,vc,by simpa using A,by simp[C,U],V⟩
 ·rename_i a b
  rw[Rep] at L M;subst L M
  split at A
  ·cases B:ff P t<;>rw[B] at A<;>simp at A
   have O:P.underlying t=some .bool:=by unfold ff at B;split at B<;>simp_all
   refine⟨_,_,A,?_,by rw[Rep]⟩
   have S:(Op.equal t (.bool a) (.bool b)).run P w=.ok (a==b) w:=by
    have:∀ d,(Op.equalIn (d+1) t (.bool a) (.bool b)).run P w=.ok (a==b) w:=fun d=>by
     unfold Op.equalIn;simp only[Sem.run_bind,run_underlying O,Result.andThen_ok,Sem.run_pure]
    exact this 9999
   have C:∀ op,(eqGuard op t ox oy (.bool a) (.bool b)).run P w=.ok () w:=fun op=>by unfold eqGuard;cases op<;>simp
   simp only[Sem.run_bind,C,Result.andThen_ok,binOp,S,Sem.run_pure]
  ·cases B:ff P t<;>rw[B] at A<;>simp at A
   have O:P.underlying t=some .bool:=by unfold ff at B;split at B<;>simp_all
   refine⟨_,_,A,?_,by rw[Rep]⟩
   have S:(Op.equal t (.bool a) (.bool b)).run P w=.ok (a==b) w:=by
    have:∀ d,(Op.equalIn (d+1) t (.bool a) (.bool b)).run P w=.ok (a==b) w:=fun d=>by
     unfold Op.equalIn;simp only[Sem.run_bind,run_underlying O,Result.andThen_ok,Sem.run_pure]
    exact this 9999
   have C:∀ op,(eqGuard op t ox oy (.bool a) (.bool b)).run P w=.ok () w:=fun op=>by unfold eqGuard;cases op<;>simp
   simp only[Sem.run_bind,C,Result.andThen_ok,binOp,S,Sem.run_pure]
  ·simp at A
 ·rename_i a b
  rw[Rep] at L M;subst L M
  have ea:(⟨⟨a⟩⟩:ByteArray).toList=a:=by simp[ByteArray.toList_eq]
  have eb:(⟨⟨b⟩⟩:ByteArray).toList=b:=by simp[ByteArray.toList_eq]
  have C:∀ op,(eqGuard op t ox oy (.string ⟨⟨a⟩⟩) (.string ⟨⟨b⟩⟩)).run P w=.ok () w:=fun op=>by unfold eqGuard;cases op<;>simp
  split at A
  ·cases B:Nat.ble (a.length+b.length) 140737488355328<;>rw[B] at A<;>simp at A B
   refine⟨_,_,A,?_,by rw[Rep]⟩
   have Y:¬ (((⟨⟨a⟩⟩:ByteArray).size+(⟨⟨b⟩⟩:ByteArray).size:Nat):Int)>IntKind.i64.max:=by
    show ¬ ((a.length+b.length:Nat):Int)>9223372036854775807
    omega
   have ec:(⟨⟨a⟩⟩:ByteArray)++⟨⟨b⟩⟩=⟨⟨a++b⟩⟩:=by
    apply ByteArray.ext;simp[ByteArray.data_append]
   simp only[Sem.run_bind,C,Result.andThen_ok,binOp,Op.stringOp,if_neg Y,Sem.run_pure,ec]
  all_goals first
   | (refine⟨_,_,A,?_,by rw[Rep]⟩;simp only[Sem.run_bind,C,Result.andThen_ok,binOp,Op.stringOp,Sem.run_pure,ea,eb];done)
   | simp at A
 ·simp at A
end
end Gx

namespace Gx
open Go
section
variable {R:Type} {r:R} {P:Program} {J:Bool→Nat→Prop} {β:C1} {h:Am} {w:World}
theorem ub {α:Type} {o:Option α} {f:α→Option R} (k:o.bind f=some r):∃ x,o=some x∧f x=some r:=by
 cases o with
 | none=>simp at k
 | some x=>exact⟨x,rfl,by simpa using k⟩
theorem uc {b:Bool} {x:Option R} (k:cond b x none=some r):b=true∧x=some r:=by
 cases b<;>simp at k;exact⟨rfl,k⟩
theorem Axn {b:Bool} {x:Option R} (k:cond b none x=some r):b=false∧x=some r:=by
 cases b<;>simp at k;exact⟨rfl,k⟩
theorem A29 {op:UnOp} {x v:AV} {vx:Value} (A:Bc3 op x=some v) (C:Rep J β h w x vx) :
  ∃ vc,(Op.unary op vx).run P w=.ok vc w∧Rep J β h w v vc:=by
 unfold Bc3 at A
 split at A
 ·rename_i k n
  rw[Rep] at C;subst C;simp at A;subst A
  refine⟨.int k (k.wrap (-n)),by simp[Op.unary,Op.intArith],?_⟩
  rw[Rep]
 ·rename_i k n
  rw[Rep] at C;subst C
  have B:=A
  rw[rj] at B
  simp only[Option.some.injEq] at B;subst B
  refine⟨_,rfl,?_⟩
  rw[Rep];cases k.signed<;>rfl
 ·rename_i b
  rw[Rep] at C;subst C;simp at A;subst A
  exact⟨.bool (!b),by simp[Op.unary],by rw[Rep]⟩
 ·simp at A
def uM (P:Program) (J:Bool→Nat→Prop) (β:C1) (h:Am) (w:World) (t:TypeId) (rd:Nat→Option Value) (v:AV):Prop :=
 (∃ d,P.underlying t=some d∧d.isRow=false∧∃ u,rd 0=some u∧Rep J β h w v u) ∨
 (∃ d,P.underlying t=some d∧d.isRow=true∧∃ us:List Value,(P.info? t).map (·.size)=some us.length∧(∀ j u,us[j]?=some u→rd j=some u)∧Rep J β h w v (.agg us.toArray))
theorem RepCs.at {J:Nat→Prop} {c:List AV} {rd:Nat→Option Value} (k:RepCs J w c rd 0) {j:Nat} {x:AV} (A:c[j]?=some x):∃ u,rd j=some u∧RepC J w x u:=by
 have:=Cw.1 k j x A;simpa using this
theorem RepCs.drop {J:Nat→Prop} {c:List AV} {rd:Nat→Option Value} (k:RepCs J w c rd 0) (n:Nat):RepCs J w (c.drop n) (fun j=>rd (n+j)) 0:=by
 rw[Cw] at k ⊢
 intro j x A
 rw[List.getElem?_drop] at A
 simpa using k (n+j) x A
theorem RepCs.take {J:Nat→Prop} {c:List AV} {rd:Nat→Option Value} (A:RepCs J w c rd 0) (n:Nat):RepCs J w (c.take n) rd 0:=by
 rw[Cw] at A ⊢
 intro j x k
 rw[List.getElem?_take] at k
 split at k
 ·exact A j x k
 ·simp at k
theorem RepCs.list {J:Nat→Prop} {c:List AV} {rd:Nat→Option Value} (C:RepCs J w c rd 0) :
  ∃ us:List Value,us.length=c.length∧(∀ j u,us[j]?=some u→rd j=some u)∧RepCs J w c (fun j=>us[j]?) 0:=by
 refine⟨c.zipIdx.map fun p=>(rd p.2).getD undef,by simp,fun j u k=>?_,?_⟩
 ·rw[List.getElem?_map,List.getElem?_zipIdx] at k
  cases B:c[j]? with
  | none=>rw[B] at k;simp at k
  | some x =>
   rw[B] at k
   obtain⟨u',A,_⟩:=C.at B
   simp[A] at k
   rw[A,k]
 ·rw[Cw]
  intro j x k
  obtain⟨u,A,hr⟩:=C.at k
  refine⟨u,?_,hr⟩
  simp[k,A]
theorem uN {J1 J2:Nat→Prop}:∀ {c:List AV} {rd:Nat→Option Value} {i:Nat},Bd c=true→RepCs J1 w c rd i→RepCs J2 w c rd i
 | [],_,_,_,_=>trivial
 | x::r,rd,i,k,A=>by
  rw[RepCs] at A ⊢
  obtain⟨⟨u,B,D⟩,C⟩:=A
  have hr:Bd r=true:=by unfold Bd at k;split at k<;>simp_all
  refine⟨⟨u,B,?_⟩,uN hr C⟩
  unfold Bd at k
  split at k<;>simp_all[RepC]
theorem iT {t:TypeId} {c:List AV} {org:Bool} {k:Bool→Option R} {rd:Nat→Option Value} {i:Nat} (A:CF P t c org k=some r) (B:RepCs (J org) w c rd i):∃ o,k o=some r∧RepCs (J o) w c rd i:=by
 unfold CF at A
 cases C:A1l P t with
 | true=>rw[C] at A;exact⟨org,A,B⟩
 | false =>
  rw[C,cond_false] at A
  obtain⟨D,F⟩:=uc A
  refine⟨false,F,?_⟩
  cases org with
  | false=>exact B
  | true=>exact uN (by simpa using D) B
theorem Yf {t:TypeId} {c:List AV} {org:Bool} {k:AV→Option R} {rd:Nat→Option Value} (B:aU P t c org k=some r) (L:RepCs (J org) w c rd 0) :
  ∃ v,k v=some r∧uM P J β h w t rd v:=by
 unfold aU at B
 have agg:∀ {d:TypeDesc},P.underlying t=some d→d.isRow=true→((C5 P t).bind fun n=>cond (Nat.ble n c.length) (CF P t (c.take n) org fun o=>k (.pagg (c.take n) o)) none)=some r →
   ∃ v,k v=some r∧uM P J β h w t rd v:=by
  intro d D hd B
  obtain⟨n,hn,B⟩:=ub B
  obtain⟨T,B⟩:=uc B
  have Y:n≤c.length:=by simpa using T
  obtain⟨us,F,C,U⟩:=(L.take n).list
  have hl:us.length=n:=by rw[F];simp;omega
  obtain⟨o,B,V⟩:=iT B U
  refine⟨_,B,.inr ⟨d,D,hd,us,?_,C,?_⟩⟩
  ·rw[hl];exact hn
  ·rw[Rep];exact⟨us,rfl,by rw[F],V⟩
 split at B
 ·rename_i kd D
  obtain⟨x,G,B⟩:=ub B
  obtain⟨n,hn,B⟩:=ub B
  obtain⟨u,F,C⟩:=L.at (by rw[←List.head?_eq_getElem?];exact G)
  refine⟨_,B,.inl ⟨_,D,rfl,u,F,?_⟩⟩
  unfold uG at hn
  split at hn
  ·obtain⟨M,O⟩:=uc hn
   simp[Tz] at M O;subst M;subst O
   rw[RepC] at C;rw[Rep];exact C
  ·simp at hn
 ·rename_i D
  obtain⟨x,G,B⟩:=ub B
  obtain⟨n,hn,B⟩:=ub B
  obtain⟨u,F,C⟩:=L.at (by rw[←List.head?_eq_getElem?];exact G)
  refine⟨_,B,.inl ⟨_,D,rfl,u,F,?_⟩⟩
  unfold asBool at hn
  split at hn
  ·simp at hn;subst hn
   rw[RepC] at C;rw[Rep];exact C
  ·simp at hn
 ·rename_i D
  obtain⟨x,G,B⟩:=ub B
  obtain⟨n,hn,B⟩:=ub B
  obtain⟨u,F,C⟩:=L.at (by rw[←List.head?_eq_getElem?];exact G)
  refine⟨_,B,.inl ⟨_,D,rfl,u,F,?_⟩⟩
  unfold uH at hn
  split at hn
  ·simp at hn;subst hn
   rw[RepC] at C;rw[Rep];exact C
  ·simp at hn
 ·rename_i e D
  obtain⟨sz,hsz,B⟩:=ub B
  obtain⟨x,G,B⟩:=ub B
  obtain⟨p,I,B⟩:=ub B
  obtain⟨u,F,C⟩:=L.at (by rw[←List.head?_eq_getElem?];exact G)
  refine⟨_,B,.inl ⟨_,D,rfl,u,F,?_⟩⟩
  unfold A24 at I
  rw[Rep,RepC]
  split at I
  ·obtain⟨M,S⟩:=uc I
   simp at M S;subst M;subst S
   rw[RepC] at C
   obtain⟨U,A,cap,V,h5,h6,h7⟩:=C
   exact⟨U,A,cap,V,h5,by simp,h7⟩
  ·simp at I;subst I
   rw[RepC] at C
   exact⟨by simp,none,0,C,by simp,by simp,.inl rfl⟩
  ·simp at I
 ·rename_i D;exact agg D rfl B
 ·rename_i D;exact agg D rfl B
 ·simp at B
theorem C2:∀ {c:List AV} {cs:List Value},Reps J β h w c cs↔cs.length=c.length∧∀ (j:Nat) (x:AV) (u:Value),c[j]?=some x→cs[j]?=some u→Rep J β h w x u
 | [],cs=>by rw[Reps];simp
 | x::r,cs=>by
  rw[Reps]
  constructor
  ·rintro⟨u,us,rfl,B,C⟩
   rw[C2] at C
   refine⟨by simp[C.1],fun j y v k A=>?_⟩
   cases j with
   | zero=>simp at k A;subst k A;exact B
   | succ j=>exact C.2 j y v (by simpa using k) (by simpa using A)
  ·rintro⟨D,B⟩
   cases cs with
   | nil=>simp at D
   | cons u us =>
    refine⟨u,us,rfl,B 0 x u (by simp) (by simp),?_⟩
    rw[C2]
    exact⟨by simpa using D,fun j y v k A=>B (j+1) y v (by simpa using k) (by simpa using A)⟩
theorem a8 {t:TypeId} {c:List AV} {k:AV→Option R} {rd:Nat→Option Value} (A:uI P t c k=some r)
  (I:∀ j x,c[j]?=some x→∃ u,rd j=some u∧Rep J β h w x u) :
  ∃ v,k v=some r∧uM P J β h w t rd v:=by
 unfold uI at A
 have agg:∀ {d:TypeDesc},P.underlying t=some d→d.isRow=true→((C5 P t).bind fun n=>cond (Nat.ble n c.length) (k (.agg (c.take n))) none)=some r →
   ∃ v,k v=some r∧uM P J β h w t rd v:=by
  intro d C M A
  obtain⟨n,hn,A⟩:=ub A
  obtain⟨L,A⟩:=uc A
  have G:n≤c.length:=by simpa using L
  refine⟨_,A,.inr ⟨d,C,M,(c.take n).zipIdx.map fun p=>(rd p.2).getD undef,?_,fun j u F=>?_,?_⟩⟩
  ·simp;rw[Nat.min_eq_left G];exact Option.map_eq_some_iff.1 hn
  ·rw[List.getElem?_map,List.getElem?_zipIdx] at F
   cases B:(c.take n)[j]? with
   | none=>rw[B] at F;simp at F
   | some x =>
    rw[B] at F
    rw[List.getElem?_take] at B
    split at B
    ·obtain⟨u',D,_⟩:=I j x B
     simp[D] at F
     rw[D,F]
    ·simp at B
  ·rw[Rep]
   refine⟨_,rfl,C2.2 ⟨by simp,fun j x u B C=>?_⟩⟩
   simp[B] at C
   rw[List.getElem?_take] at B
   split at B
   ·obtain⟨u',D,hr⟩:=I j x B
    simp[D] at C;subst C;exact hr
   ·simp at B
 split at A
 ·rename_i C;exact agg C rfl A
 ·rename_i C;exact agg C rfl A
 ·rename_i d _ _ C
  obtain⟨x,B,A⟩:=ub A
  obtain⟨u,O,S⟩:=I 0 x (by rw[←List.head?_eq_getElem?];exact B)
  refine⟨x,A,.inl ⟨d,C,?_,u,O,S⟩⟩
  cases d<;>simp_all
 ·simp at A
theorem Alk {n:Nat} {k:AV→Option R}:∀ {c:List AV} {i:Nat},SE n k c i=some r→i≤n∧∃ x,c[n - i]?=some x∧k x=some r
 | [],i,A=>by simp[SE] at A
 | v::c,i,A=>by
  rw[SE] at A
  cases B:Nat.beq n i with
  | true =>
   rw[B] at A
   have:n=i:=Nat.eq_of_beq_eq_true B
   subst this
   exact⟨Nat.le_refl _,v,by simp,A⟩
  | false =>
   rw[B] at A
   obtain⟨F,x,C,D⟩:=Alk (c:=c) A
   refine⟨by omega,x,?_,D⟩
   rw[show n - i=(n - (i+1))+1 by omega];simpa using C
theorem nU {t:TypeId} {c:List AV} {off:Nat} {k:AV→Option R} (A:aV P t c off k=some r):uI P t (c.drop off) k=some r:=by
 unfold aV at A
 unfold uI
 split at A
 ·exact A
 ·exact A
 ·rename_i d F G I
  obtain⟨_,x,B,C⟩:=Alk A
  have D:(c.drop off).head?=some x:=by rw[List.head?_eq_getElem?,List.getElem?_drop];simpa using B
  rw[D];exact C
 ·simp at A
theorem fm {t:TypeId} {d:TypeDesc} (k:P.underlying t=some d):(isAgg t).run P w=.ok d.isRow w:=by
 unfold isAgg
 rw[Sem.run_bind,run_underlying k w]
 cases d<;>simp
theorem iU {t:TypeId} {a:Addr} {v:AV} (hr:uM P J β h w t (fun j=>w.cell? (a.add j)) v):∃ vc,(loadVar t a).run P w=.ok vc w∧Rep J β h w v vc:=by
 rcases hr with⟨d,A,B,u,k,C⟩ | ⟨d,A,B,us,k,C,G⟩
 ·refine⟨u,?_,C⟩
  have D:w.cell? a=some u:=by simpa[Addr.add] using k
  simp[loadVar,fm A,B,D]
 ·refine⟨_,?_,G⟩
  have I:=run_loadCells_list (P:=P) w a us C
  cases F:P.info? t with
  | none=>simp[F] at k
  | some i =>
   have hs:i.size=us.length:=by simpa[F] using k
   simp[loadVar,Sem.run_bind,fm A,B,Go.sizeOf,typeInfo,F,hs,I]
theorem W5 {t:TypeId} {cs:List Value} {off:Nat} {v:AV} (hr:uM P J β h w t (fun j=>cs[off+j]?) v):∃ vc,(part t ⟨cs⟩ off).run P w=.ok vc w∧Rep J β h w v vc:=by
 rcases hr with⟨d,A,B,u,k,C⟩ | ⟨d,A,B,us,k,C,G⟩
 ·refine⟨u,?_,C⟩
  simp at k
  simp[part,fm A,B,k]
 ·refine⟨_,?_,G⟩
  cases D:P.info? t with
  | none=>simp[D] at k
  | some i =>
   have hs:i.size=us.length:=by simpa[D] using k
   have:(⟨cs⟩:Array Value).extract off (off+us.length)=us.toArray:=by
    apply Array.ext'
    simp
    apply List.ext_getElem?
    intro j
    rw[List.getElem?_take,List.getElem?_drop]
    split
    ·rename_i F
     rw[List.getElem?_eq_getElem F]
     exact C j _ (List.getElem?_eq_getElem F)
    ·rename_i F
     rw[List.getElem?_eq_none (by omega)]
   simp only[part,Sem.run_bind,fm A,B,Go.sizeOf,typeInfo,run_program,Result.andThen_ok,D,Sem.run_pure,hs,if_true,this]
end
end Gx

namespace Gx
open Go
section
variable {R:Type} {r:R} {P:Program} {J:Bool→Nat→Prop} {β:C1} {h:Am} {w:World} {g:B8}
theorem Yg {k:Nat} {cs:Array Value} {ty:TypeId} {fr:Nat×Nat} (A:w.heap[k]?=some (.cells cs ty fr)) (i:Nat):w.cell? ⟨k,i,none⟩=cs[i]?:=by
 simp[World.cell?,A]
def Looks (g:B8) (h:Am):Prop:=∀ b x,g b=some x→Au h b=some x
theorem M7 {b:Nat} {x:Blk} (A:Looks g h) (k:Kh g b=some x):Au h b=some x∧x.dead=false:=by
 unfold Kh at k
 obtain⟨y,B,k⟩:=ub k
 obtain⟨C,k⟩:=Axn k
 simp at k;subst k
 exact⟨A b _ B,C⟩
theorem Ao6 {b off:Nat} {x:Blk} {v:Value} (S:SimH J β h w) (D:Au h b=some x) (F:x.dead=false) (hr:Rep J β h w (.optr b off) v) :
  ∃ k o cs ty fr,β b=some (k,o)∧v=.pointer (some ⟨k,o+off,none⟩)∧w.heap[k]?=some (.cells cs ty fr) ∧
  FrOk cs.size fr∧o+x.cells.length≤cs.size∧CellsRep J β h w x (fun j=>cs[o+j]?) ∧
  (x.sealed=false→∀ g,¬ J g k)∧(x.sealed=true→J x.taint k):=by
 rw[Rep] at hr
 obtain⟨y,k,o,⟨B,G⟩,I,hr⟩:=hr
 rw[D] at B;simp at B;subst B
 rcases hr with hr | C
 ·simp[F] at hr
 ·rcases S.blk b x D F G with⟨hn,_⟩ | ⟨k',o',cs,ty,fr,A,L,M,O,T,U,V⟩
  ·rw[C] at hn;simp at hn
  ·rw[C] at A;simp at A;obtain⟨rfl,rfl⟩:=A
   exact⟨k,o,cs,ty,fr,C,I,L,M,O,T,U,V⟩
theorem CellsRep.reads {t:TypeId} {x:Blk} {cs:Array Value} {o off:Nat} {k:AV→Option R} (F:CellsRep J β h w x (fun j=>cs[o+j]?))
  (A:cond x.pure (aU P t (x.cells.drop off) x.taint k) (aV P t x.cells off k)=some r) :
  ∃ v,k v=some r∧uM P J β h w t (fun j=>cs[o+off+j]?) v:=by
 cases B:x.pure with
 | true =>
  rw[B] at A
  have:=(F.1 B).drop off
  obtain⟨v,C,D⟩:=Yf (β:=β) (h:=h) A this
  exact⟨v,C,by simpa[Nat.add_assoc] using D⟩
 | false =>
  rw[B] at A
  obtain⟨v,C,D⟩:=a8 (J:=J) (β:=β) (h:=h) (w:=w) (rd:=fun j=>cs[o+(off+j)]?) (nU A) (fun j y G=>by
   rw[List.getElem?_drop] at G
   obtain⟨u,I,hr,_⟩:=F.2 B _ _ G
   exact⟨u,I,hr⟩)
  exact⟨v,C,by simpa[Nat.add_assoc] using D⟩
theorem uO {t:TypeId} {p:AV} {vp:Value} {k:AV→Option R} (S:SimH J β h w) (M:Looks g h) (A:zg P g t p k=some r) (B:Rep J β h w p vp) :
  ∃ v vc,k v=some r∧(Instr.loadAt t vp).run P w=.ok vc w∧Rep J β h w v vc:=by
 unfold zg at A
 split at A
 ·rename_i c org
  rw[Rep,RepC] at B
  obtain⟨a,rfl,_,C⟩:=B
  obtain⟨v,D,F⟩:=Yf (β:=β) (h:=h) A C
  obtain⟨vc,G,I⟩:=iU F
  exact⟨v,vc,D,by simp[Instr.loadAt,Instr.sureAddr,G],I⟩
 ·rename_i b off
  obtain⟨x,O,A⟩:=ub A
  obtain⟨T,U⟩:=M7 M O
  obtain⟨kk,o,cs,ty,fr,Y,rfl,V,_,_,C,_⟩:=Ao6 S T U B
  obtain⟨v,D,F⟩:=C.reads A
  have L:uM P J β h w t (fun j=>w.cell? ((⟨kk,o+off,none⟩:Addr).add j)) v:=by
   simpa only[Addr.add_mid,Yg V] using F
  obtain⟨vc,G,I⟩:=iU L
  exact⟨v,vc,D,by simp[Instr.loadAt,Instr.sureAddr,G],I⟩
 ·simp at A
theorem Dx {t:TypeId} {n:Nat} (hs:C5 P t=some n) (w:World):(Go.sizeOf t).run P w=.ok n w:=by
 unfold C5 at hs
 cases k:P.info? t with
 | none=>simp[k] at hs
 | some i=>simp[k] at hs;simp[Go.sizeOf,typeInfo,k,hs]
theorem V4 {i:Int} {n:Nat} (hi:Ad i n=true):0≤i∧i<(n:Int):=by simpa[Ad] using hi
theorem nV {J:Nat→Prop} {c:List AV} {a:Addr} (k:RepCs J w c (fun j=>w.cell? (a.add j)) 0) (n:Nat):RepCs J w (c.drop n) (fun j=>w.cell? ((a.add n).add j)) 0:=by
 have e:∀ j,(a.add n).add j=a.add (n+j):=fun j=>by
  unfold Addr.add
  by_cases A:n=0<;>by_cases B:j=0<;>simp[A,B,Nat.add_assoc]
 simpa[e] using k.drop n
theorem A8q {b off n:Nat} {v:Value} (m:Nat) (hr:Rep J β h w (.own b off n) v) (hn:n≠0) :
  ∃ k o cap,v=.slice (some ⟨k,o,none⟩) n cap∧Rep J β h w (.optr b (off+m)) (.pointer (some ⟨k,o+m,none⟩)):=by
 rw[Rep] at hr
 obtain⟨x,A,cap,B,rfl,C,hr⟩:=hr
 rcases hr with hr | ⟨k,o,rfl,hr⟩
 ·omega
 ·refine⟨k,o+off,cap,rfl,?_⟩
  rw[Rep];exact⟨x,k,o,B,by rw[Nat.add_assoc],hr.imp id (·.1)⟩
theorem iV {t el:TypeId} {kd:IntKind} {i:Int} {len cap sz:Nat} {a:Addr} (k:P.underlying t=some (.slice el)) (hs:C5 P el=some sz) (A:Ad i len=true) :
  (Instr.indexAt t (.slice (some a) len cap) (.int kd i)).run P w=.ok (.pointer (some (a.add (i.toNat*sz)))) w:=by
 obtain⟨B,C⟩:=V4 A
 simp[Instr.indexAt,asIntOf,run_underlying k,B,C,Dx hs]
theorem iW {t el:TypeId} {kd:IntKind} {i:Int} {len sz:Nat} {a:Addr} (k:P.underlying t=some (.array len el)) (hs:C5 P el=some sz) (A:Ad i len=true) :
  (Instr.indexAt t (.pointer (some a)) (.int kd i)).run P w=.ok (.pointer (some (a.add (i.toNat*sz)))) w:=by
 obtain⟨B,C⟩:=V4 A
 simp[Instr.indexAt,asIntOf,run_underlying k,B,C,Dx hs,Instr.sureAddr]
theorem rz {t:TypeId} {x i:AV} {vx vi:Value} {k:AV→Option R} (C:Vz P t x i k=some r) (D:Rep J β h w x vx) (hi:Rep J β h w i vi) :
  ∃ v vc,k v=some r∧(Instr.indexAt t vx vi).run P w=.ok vc w∧Rep J β h w v vc:=by
 unfold Vz at C
 split at C
 ·rename_i el c len sz tight org kd i F
  obtain⟨sz',hs,G⟩:=ub C
  obtain⟨T,Y⟩:=uc G
  obtain⟨B,I⟩:=uc Y
  have L:sz'=sz:=by simp at T;exact T.symm
  subst L
  rw[Rep] at hi;subst hi
  rw[Rep,RepC] at D
  obtain⟨U,A,cap,rfl,V,_,hA⟩:=D
  rcases hA with hA | ⟨a,rfl,M,O⟩
  ·have:=V4 B;omega
  refine⟨_,_,I,iV F hs B,?_⟩
  rw[Rep,RepC]
  exact⟨_,rfl,by rw[V3];exact M,nV O _⟩
 ·rename_i el b off len kd i F
  obtain⟨sz,hs,G⟩:=ub C
  obtain⟨B,I⟩:=uc G
  rw[Rep] at hi;subst hi
  obtain⟨kk,o,cap,rfl,S⟩:=A8q (i.toNat*sz) D (by have:=V4 B;omega)
  exact⟨_,_,I,iV F hs B,by rw[Addr.add_mid];exact S⟩
 ·rename_i len el c org kd i F
  obtain⟨sz,hs,G⟩:=ub C
  obtain⟨B,I⟩:=uc G
  rw[Rep] at hi;subst hi
  rw[Rep,RepC] at D
  obtain⟨a,rfl,M,O⟩:=D
  refine⟨_,_,I,iW F hs B,?_⟩
  rw[Rep,RepC]
  exact⟨_,rfl,by rw[V3];exact M,nV O _⟩
 ·rename_i len el b off kd i F
  obtain⟨sz,hs,G⟩:=ub C
  obtain⟨B,I⟩:=uc G
  rw[Rep] at hi;subst hi
  rw[Rep] at D
  obtain⟨y,kk,o,hy,rfl,S⟩:=D
  refine⟨_,_,I,iW F hs B,?_⟩
  rw[Rep,Addr.add_mid]
  exact⟨y,kk,o,hy,by rw[Nat.add_assoc],S⟩
 ·simp at C
theorem nW {t:TypeId} {f:Nat} {p:Nat×TypeId} (k:z7 P t f=some p):∃ fs fd,P.underlying t=some (.struct fs)∧fs[f]?=some fd∧fd.offset=p.1∧fd.type=p.2:=by
 unfold z7 at k
 split at k
 ·rename_i fs B
  cases A:fs[f]? with
  | none=>simp[A] at k
  | some fd=>simp[A] at k;subst k;exact⟨fs,fd,B,A,rfl,rfl⟩
 ·simp at k
theorem sA {t:TypeId} {x:AV} {f:Nat} {vx:Value} {k:AV→Option R} (D:V0 P t x f k=some r) (A:Rep J β h w x vx) :
  ∃ v vc,k v=some r∧(Instr.fieldAt t vx f).run P w=.ok vc w∧Rep J β h w v vc:=by
 unfold V0 at D
 obtain⟨p,F,G⟩:=ub D
 obtain⟨n,hn,I⟩:=ub G
 obtain⟨L,B⟩:=Axn I
 obtain⟨fs,fd,M,O,S,T⟩:=nW F
 have C:n≠0:=by intro e;subst e;simp at L
 have run:∀ a:Addr,(Instr.fieldAt t (.pointer (some a)) f).run P w=.ok (.pointer (some (a.add p.1))) w:=fun a=>by
  simp[Instr.fieldAt,run_underlying M,O,Instr.sureAddr,fieldPlace,T,Dx hn,C,S]
 split at B
 ·rw[Rep,RepC] at A
  obtain⟨a,rfl,U,V⟩:=A
  refine⟨_,_,B,run a,?_⟩
  rw[Rep,RepC]
  exact⟨_,rfl,by rw[V3];exact U,nV V _⟩
 ·rw[Rep] at A
  obtain⟨y,kk,o,Y,rfl,h4⟩:=A
  refine⟨_,_,B,run _,?_⟩
  rw[Rep,Addr.add_mid]
  exact⟨y,kk,o,Y,by rw[Nat.add_assoc],h4⟩
 ·simp at B
theorem Ao7 {t:TypeId} {x:AV} {f:Nat} {vx:Value} {k:AV→Option R} (M:rk P t x f k=some r) (B:Rep J β h w x vx) :
  ∃ v vc,k v=some r∧(Instr.field t vx f).run P w=.ok vc w∧Rep J β h w v vc:=by
 unfold rk at M
 obtain⟨p,V,C⟩:=ub M
 obtain⟨fs,fd,O,S,T,U⟩:=nW V
 split at C
 ·rename_i c org
  rw[Rep] at B
  obtain⟨cs,rfl,Y,A⟩:=B
  obtain⟨v,D,F⟩:=Yf (β:=β) (h:=h) C (A.drop p.1)
  obtain⟨vc,G,I⟩:=W5 F
  exact⟨v,vc,D,by simp[Instr.field,run_underlying O,S,asAgg,U,T,G],I⟩
 ·rename_i c
  rw[Rep] at B
  obtain⟨cs,rfl,A⟩:=B
  rw[C2] at A
  obtain⟨v,D,F⟩:=a8 (J:=J) (β:=β) (h:=h) (w:=w) (rd:=fun j=>cs[p.1+j]?) C (fun j y L=>by
   rw[List.getElem?_drop] at L
   have:p.1+j<cs.length:=by
    rw[A.1];exact(List.getElem?_eq_some_iff.1 L).1
   exact⟨cs[p.1+j],List.getElem?_eq_getElem this,A.2 _ _ _ L (List.getElem?_eq_getElem this)⟩)
  obtain⟨vc,G,I⟩:=W5 F
  exact⟨v,vc,D,by simp[Instr.field,run_underlying O,S,asAgg,U,T,G],I⟩
 ·simp at C
theorem Ao8 {t:TypeId} {x i:AV} {vx vi:Value} {k:AV→Option R} (A:rm P t x i k=some r) (B:Rep J β h w x vx) (hi:Rep J β h w i vi) :
  ∃ v vc,k v=some r∧(Instr.index t vx vi).run P w=.ok vc w∧Rep J β h w v vc:=by
 unfold rm at A
 split at A
 ·rename_i s kd i C
  obtain⟨D,F⟩:=uc A
  obtain⟨G,M⟩:=V4 D
  rw[Rep] at hi;rw[Rep] at B;subst hi B
  have I:i.toNat<s.length:=by omega
  refine⟨_,.int .u8 ((s.getD i.toNat 0).toNat:Int),F,?_,by rw[Rep]⟩
  have hg:(⟨⟨s⟩⟩:ByteArray)[i.toNat]?=some s[i.toNat]:=by
   have:i.toNat<(⟨⟨s⟩⟩:ByteArray).size:=I
   rw[getElem?_pos (⟨⟨s⟩⟩:ByteArray) i.toNat this];rfl
  simp only[Instr.index,asIntOf,Sem.run_bind,Sem.run_pure,Result.andThen_ok,run_underlying C,G,if_true,hg,List.getD_eq_getElem?_getD,List.getElem?_eq_getElem I,Option.getD_some]
 ·rename_i len el c org kd i C
  obtain⟨sz,hs,F⟩:=ub A
  obtain⟨D,M⟩:=uc F
  obtain⟨G,O⟩:=V4 D
  rw[Rep] at hi;rw[Rep] at B;subst hi
  obtain⟨cs,rfl,hl,L⟩:=B
  obtain⟨v,S,T⟩:=Yf (β:=β) (h:=h) M (L.drop (i.toNat*sz))
  obtain⟨vc,U,V⟩:=W5 T
  exact⟨v,vc,S,by simp[Instr.index,asIntOf,run_underlying C,G,O,Dx hs,U],V⟩
 ·rename_i len el c kd i C
  obtain⟨sz,hs,F⟩:=ub A
  obtain⟨D,M⟩:=uc F
  obtain⟨G,O⟩:=V4 D
  rw[Rep] at hi;rw[Rep] at B;subst hi
  obtain⟨cs,rfl,L⟩:=B
  rw[C2] at L
  obtain⟨v,S,T⟩:=a8 (J:=J) (β:=β) (h:=h) (w:=w) (rd:=fun j=>cs[i.toNat*sz+j]?) (nU M) (fun j y Y=>by
   rw[List.getElem?_drop] at Y
   have:i.toNat*sz+j<cs.length:=by
    rw[L.1];exact(List.getElem?_eq_some_iff.1 Y).1
   exact⟨cs[i.toNat*sz+j],List.getElem?_eq_getElem this,L.2 _ _ _ Y (List.getElem?_eq_getElem this)⟩)
  obtain⟨vc,U,V⟩:=W5 T
  exact⟨v,vc,S,by simp[Instr.index,asIntOf,run_underlying C,G,O,Dx hs,U],V⟩
 ·simp at A
end
end Gx

namespace Gx
open Go
section
variable {R:Type} {r:R} {P:Program} {J:Bool→Nat→Prop} {β:C1} {h:Am} {w:World} {g:B8}
def IK (J:Bool→Nat→Prop) (β:C1) (h:Am) (w:World):Option AV→Option Value→Prop
 | none,none=>True
 | some x,some v=>Rep J β h w x v
 | _,_=>False
theorem a9 {o:Option AV} {vo:Option Value} {d:Nat} {i:Int} (A:nL o d=some i) (B:IK J β h w o vo) :
  (o=none∧vo=none∧i=d)∨∃ k,vo=some (.int k i):=by
 unfold nL at A
 split at A
 ·simp at A;subst A
  cases vo with
  | none=>exact .inl ⟨rfl,rfl,rfl⟩
  | some v=>simp[IK] at B
 ·rename_i k j
  simp at A;subst A
  cases vo with
  | none=>simp[IK] at B
  | some v=>rw[IK,Rep] at B;subst B;exact .inr ⟨k,rfl⟩
 ·simp at A
theorem W6 {lo hi mx:Option AV} {vlo vhi vmx:Option Value} {n cap:Nat} {k:Nat→Nat→Option R} {isSlice:Bool} (L:CG lo hi mx n k=some r)
  (G:IK J β h w lo vlo)
  (C:IK J β h w hi vhi)
  (D:IK J β h w mx vmx) (M:n≤cap) :
  ∃ l B m,k l B=some r∧l≤B∧B≤n∧B≤m∧m≤cap∧(mx=none→m=cap)∧(∀ kd i,vmx=some (.int kd i)→(m:Int)=i)∧(∀ kd i,vhi=some (.int kd i)→(B:Int)=i)∧(hi=none→B=n) ∧
   (Instr.sliceBounds isSlice n cap vlo vhi vmx).run P w=.ok (l,B,m) w:=by
 unfold CG at L
 obtain⟨l,U,V⟩:=ub L
 obtain⟨A,Y,h4⟩:=ub V
 obtain⟨m,h5,I⟩:=ub h4
 obtain⟨O,I⟩:=Axn I
 obtain⟨S,T⟩:=uc I
 simp at S O
 obtain⟨c1,c2,c3,c4⟩:=S
 have run:∀ (kd:IntKind) (i:Int) (y:Nat) (code:BoundsCode),0≤i→i≤(y:Int)→(Instr.sliceBound (.int kd i) y code).run P w=.ok i.toNat w:=fun kd i y code a b=>by
  simp[Instr.sliceBound,asIntOf,a,b]
 have bl:=a9 (J:=J) (β:=β) (h:=h) (w:=w) U G
 have bh:=a9 (J:=J) (β:=β) (h:=h) (w:=w) Y C
 have bm:=a9 (J:=J) (β:=β) (h:=h) (w:=w) h5 D
 rcases bm with⟨rfl,rfl,rfl⟩ | ⟨km,rfl⟩
 ·refine⟨l.toNat,A.toNat,cap,T,by omega,by omega,by omega,by omega,fun _=>rfl,by simp,?_,?_,?_⟩
  ·intro kd i F
   rcases bh with⟨_,rfl,_⟩ | ⟨kh,rfl⟩
   ·simp at F
   ·simp at F;omega
  ·intro hn
   rcases bh with⟨_,_,rfl⟩ | ⟨kh,rfl⟩
   ·simp
   ·subst hn;simp[IK] at C
  ·rcases bh with⟨_,rfl,rfl⟩ | ⟨kh,rfl⟩<;>rcases bl with⟨_,rfl,rfl⟩ | ⟨kl,rfl⟩
   ·simp[Instr.sliceBounds]
   ·simp[Instr.sliceBounds,run _ l n _ c1 (by omega)]
   ·simp[Instr.sliceBounds,run _ A cap _ (by omega) (by omega)]
   ·simp[Instr.sliceBounds,run _ A cap _ (by omega) (by omega),run _ l A.toNat _ c1 (by omega)]
 ·rcases bh with⟨rfl,rfl,rfl⟩ | ⟨kh,rfl⟩
  ·have:mx.isSome=true:=by
    cases mx with
    | none=>simp[IK] at D
    | some _=>rfl
   have:=O this;simp at this
  ·refine⟨l.toNat,A.toNat,m.toNat,T,by omega,by omega,by omega,by omega,?_,?_,?_,?_,?_⟩
   ·intro hn;subst hn;simp[IK] at D
   ·intro kd i F;simp at F;omega
   ·intro kd i F;simp at F;omega
   ·intro hn;subst hn;simp[IK] at C
   ·rcases bl with⟨_,rfl,rfl⟩ | ⟨kl,rfl⟩
    ·simp[Instr.sliceBounds,run _ m cap _ (by omega) (by omega),run _ A m.toNat _ (by omega) (by omega)]
    ·simp[Instr.sliceBounds,run _ m cap _ (by omega) (by omega),run _ A m.toNat _ (by omega) (by omega),run _ l A.toNat _ c1 (by omega)]
theorem Ao9 {t:TypeId} {x:AV} {lo hi mx:Option AV} {vx:Value} {vlo vhi vmx:Option Value} {k:AV→Option R} (hl:Looks g h) (I:rn P g t x lo hi mx k=some r)
  (O:Rep J β h w x vx) (L:IK J β h w lo vlo) (C:IK J β h w hi vhi) (D:IK J β h w mx vmx) :
  ∃ v vc,k v=some r∧(Instr.sliceAt t vx vlo vhi vmx).run P w=.ok vc w∧Rep J β h w v vc:=by
 unfold rn at I
 split at I
 ·rename_i s S
  obtain⟨hm,Y⟩:=Axn I
  have hmn:mx=none:=by cases mx<;>simp_all
  subst hmn
  have hv:vmx=none:=by cases vmx<;>simp_all[IK]
  subst hv
  rw[Rep] at O;subst O
  obtain⟨l,B,m,T,h3,h4,_,_,h5,_,_,_,h6⟩:=W6 (P:=P) (isSlice:=false) Y L C (vmx:=none) (by simp[IK]) (Nat.le_refl _)
  refine⟨_,_,T,?_,by rw[Rep]⟩
  have hs:(⟨⟨s⟩⟩:ByteArray).size=s.length:=rfl
  have V:(⟨⟨s⟩⟩:ByteArray).extract l B=⟨⟨(s.drop l).take (B - l)⟩⟩:=by
   apply ByteArray.ext
   rw[ByteArray.data_extract]
   simp
  simp[Instr.sliceAt,Instr.slice,run_underlying S,hs,h6,V]
 ·rename_i el S
  rw[Rep] at O;subst O
  obtain⟨sz,hs,I⟩:=ub I
  obtain⟨l,B,m,T,h3,h4,h5,h6,_,_,_,_,h7⟩:=W6 (P:=P) (isSlice:=true) I L C D (Nat.le_refl _)
  have:l=0:=by omega
  have:B=0:=by omega
  have:m=0:=by omega
  subst l;subst B;subst m
  refine⟨_,.slice none 0 0,T,?_,by rw[Rep]⟩
  simp[Instr.sliceAt,Instr.slice,run_underlying S,h7,Dx hs]
 ·rename_i el c n sz tight org S
  obtain⟨sz',hs,Y⟩:=ub I
  obtain⟨V,T⟩:=uc Y
  have M:sz'=sz:=by simp at V;exact V.symm
  subst M
  rw[Rep,RepC] at O
  obtain⟨hlen,A,cap,rfl,F,ht,hA⟩:=O
  obtain⟨l,B,m,h3,h4,h5,h6,h7,h8,h9,h10,h11,h12⟩:=W6 (P:=P) (isSlice:=true) T L C D F
  refine⟨_,.slice (if m=l then A else A.map (·.add (l*sz'))) (B - l) (m - l),h3,?_,?_⟩
  ·simp[Instr.sliceAt,Instr.slice,run_underlying S,h12,Dx hs]
  ·rw[Rep,RepC]
   refine⟨?_,_,_,rfl,by omega,?_,?_⟩
   ·simp;rw[hlen,←Nat.sub_mul]
    exact Nat.min_eq_left (Nat.mul_le_mul_right _ (by omega))
   ·intro G
    unfold A1m at G
    split at G
    ·have:=ht G
     have:=h8 rfl
     have:=h11 rfl
     omega
    ·rename_i ka a kb b
     cases vhi with
     | none=>simp[IK] at C
     | some u1=>cases vmx with
      | none=>simp[IK] at D
      | some u2 =>
       rw[IK,Rep] at C D;subst C D
       have e1:=h10 _ _ rfl
       have e2:=h9 _ _ rfl
       simp at G
       omega
    ·simp at G
   ·by_cases hz:B - l=0
    ·exact .inl hz
    ·right
     rcases hA with hA | ⟨a,rfl,hj,hc⟩
     ·omega
     ·refine⟨a.add (l*sz'),by rw[if_neg (by omega)];rfl,by rw[V3];exact hj,(nV hc _).take _⟩
 ·rename_i el b off n S
  obtain⟨sz,hs,Y⟩:=ub I
  obtain⟨y,hy,T⟩:=ub Y
  obtain⟨V,h3⟩:=uc T
  obtain⟨hb,hd⟩:=M7 hl hy
  have M:sz=y.sz:=by simpa using V
  rw[Rep] at O
  obtain⟨x,A,cap,⟨U,hmp⟩,rfl,F,hr⟩:=O
  rw[hb] at U;simp at U;subst U
  obtain⟨l,B,m,h4,h5,h6,h7,h8,_,_,_,_,h9⟩:=W6 (P:=P) (isSlice:=true) h3 L C D F
  refine⟨_,.slice (if m=l then A else A.map (·.add (l*sz))) (B - l) (m - l),h4,?_,?_⟩
  ·simp[Instr.sliceAt,Instr.slice,run_underlying S,h9,Dx hs]
  ·rw[Rep]
   refine⟨y,_,_,⟨hb,hmp⟩,rfl,by omega,?_⟩
   by_cases hz:m - l=0
   ·exact .inl hz
   ·right
    rcases hr with hr | ⟨kk,o,rfl,hr⟩
    ·omega
    ·refine⟨kk,o,by rw[if_neg (by omega)];simp[Addr.add_mid,Nat.add_assoc],?_⟩
     rcases hr with hr | ⟨r1,r2,r3⟩
     ·simp[hd] at hr
     ·refine .inr ⟨r1,?_,?_⟩
      ·have:l*sz+(m - l)*y.sz≤cap*y.sz:=by
        rw[M,←Nat.add_mul];exact Nat.mul_le_mul_right _ (by omega)
       omega
      ·have:l*sz+(B - l)*y.sz≤n*y.sz:=by
        rw[M,←Nat.add_mul];exact Nat.mul_le_mul_right _ (by omega)
       omega
 ·simp at I
theorem Axo {t:TypeId} {x v:AV} {vx:Value} {ty:TypeId} (k:Bay P t x=some v) (C:Rep J β h w x vx) :
  ∃ vc,(Builtin.len_ #[t] ty #[vx]).run P w=.ok vc w∧Rep J β h w v vc:=by
 unfold Bay at k
 split at k
 ·rename_i B
  simp at k;subst k;rw[Rep] at C;subst C
  exact⟨.int .i64 0,by simp[Builtin.len_,run_underlying B,goInt],by rw[Rep]⟩
 ·rename_i n _ _ _ B
  simp at k;subst k;rw[Rep,RepC] at C
  obtain⟨_,A,cap,rfl,_⟩:=C
  exact⟨.int .i64 n,by simp[Builtin.len_,run_underlying B,goInt],by rw[Rep]⟩
 ·rename_i n B
  simp at k;subst k;rw[Rep] at C
  obtain⟨_,A,cap,_,rfl,_⟩:=C
  exact⟨.int .i64 n,by simp[Builtin.len_,run_underlying B,goInt],by rw[Rep]⟩
 ·rename_i s B
  simp at k;subst k;rw[Rep] at C;subst C
  refine⟨.int .i64 s.length,?_,by rw[Rep]⟩
  have hs:(⟨⟨s⟩⟩:ByteArray).size=s.length:=rfl
  simp[Builtin.len_,run_underlying B,goInt,hs]
 ·rename_i n _ B
  simp at k;subst k
  exact⟨.int .i64 n,by simp[Builtin.len_,run_underlying B,goInt],by rw[Rep]⟩
 ·simp at k
theorem nX {J:Nat→Prop}:∀ {x:AV} {u:Value},RepC J w x u→u.oneCell'=true
 | .int ..,_,hr=>by rw[RepC] at hr;subst hr;rfl
 | .bool _,_,hr=>by rw[RepC] at hr;subst hr;rfl
 | .str _,_,hr=>by rw[RepC] at hr;subst hr;rfl
 | .nsl,_,hr=>by rw[RepC] at hr;subst hr;rfl
 | .imm ..,_,hr=>by rw[RepC] at hr;obtain⟨_,A,cap,rfl,_⟩:=hr;rfl
 | .iptr ..,_,hr=>by rw[RepC] at hr;obtain⟨a,rfl,_⟩:=hr;rfl
 | .nilptr,_,hr=>by rw[RepC] at hr;subst hr;rfl
 | .nilfn,_,hr=>by rw[RepC] at hr;subst hr;rfl
 | .fn _ [],_,hr=>by rw[RepC] at hr;subst hr;rfl
 | .fn _ (_::_),_,hr=>by simp[RepC] at hr
 | .pagg ..,_,hr=>by simp[RepC] at hr
 | .agg _,_,hr=>by simp[RepC] at hr
 | .tup _,_,hr=>by simp[RepC] at hr
 | .own ..,_,hr=>by simp[RepC] at hr
 | .optr ..,_,hr=>by simp[RepC] at hr
 | .undef,_,hr=>by simp[RepC] at hr
 | .omap _,_,hr=>by simp[RepC] at hr
theorem RepCs.one {J:Nat→Prop} {c:List AV} {us:List Value} (B:RepCs J w c (fun j=>us[j]?) 0) (F:us.length=c.length):∀ u ∈ us,u.oneCell'=true:=by
 intro u C
 obtain⟨j,D,rfl⟩:=List.getElem_of_mem C
 have A:j<c.length:=by omega
 obtain⟨u',k,hr⟩:=B.at (List.getElem?_eq_getElem A)
 simp[List.getElem?_eq_getElem D] at k
 rw[k];exact nX hr
structure Yield (P:Program) (w:World) (sz:Nat) (vx:Value) (n:Nat) (us:List Value):Prop where
 len:∀ w':World,(Builtin.lenOf vx).run P w'=.ok n w'
 cells:∀ (w':World) (m:Nat),(∀ a,w'.cell? a=w.cell? a)→m≤n→(Builtin.firstCells sz m vx).run P w'=.ok (us.take (m*sz)).toArray w'
 length:us.length=n*sz
theorem uP {sz:Nat} {x:AV} {vx:Value} {q:List AV×Nat×Bool} (S:SimH J β h w) (hl:Looks g h) (D:Ala g sz x=some q) (F:Rep J β h w x vx) :
  ∃ us:List Value,Yield P w sz vx q.2.1 us∧q.1.length=us.length∧RepCs (J q.2.2) w q.1 (fun j=>us[j]?) 0:=by
 have ofSlice:∀ (a:Addr) (n cap:Nat) (us:List Value),us.length=n*sz→(∀ j u,us[j]?=some u→w.cell? (a.add j)=some u)→Yield P w sz (.slice (some a) n cap) n us:=fun a n cap us B hu =>
  ⟨fun _=>rfl,fun w' m C Y=>by
   have hle:m*sz≤n*sz:=Nat.mul_le_mul_right _ Y
   refine run_firstCells_some (P:=P) w' sz m a n cap (us.take (m*sz)) (by simp;omega) (fun j v O=>?_)
   rw[C]
   rw[List.getElem?_take] at O
   split at O
   ·exact hu j v O
   ·simp at O,B⟩
 have ofEmpty:∀ (A:Option Addr) (cap:Nat),Yield P w sz (.slice A 0 cap) 0 []:=fun A cap =>
  ⟨fun _=>rfl,fun w' m C Y=>by
   have:m=0:=by omega
   subst this
   cases A with
   | none=>simp[run_firstCells_none]
   | some a=>have:=run_firstCells_some (P:=P) w' sz 0 a 0 cap [] (by simp) (fun j v O=>by simp at O);simpa using this,by simp⟩
 unfold Ala at D
 split at D
 ·simp at D;subst D;rw[Rep] at F;subst F
  exact⟨[],ofEmpty _ _,rfl,by simp[RepCs]⟩
 ·rename_i c n sz' tight org
  obtain⟨C,I⟩:=uc D
  have he':sz'=sz:=by simp at C;exact C.symm
  subst he'
  simp at I;subst I
  rw[Rep,RepC] at F
  obtain⟨B,A,cap,rfl,T,ht,hA⟩:=F
  rcases hA with rfl | ⟨a,rfl,U,hc⟩
  ·have:c=[]:=by simpa using B
   subst this
   exact⟨[],ofEmpty _ _,rfl,by simp[RepCs]⟩
  ·obtain⟨us,G,h3,h4⟩:=hc.list
   exact⟨us,ofSlice a n cap us (by rw[G,B]) h3,G.symm,h4⟩
 ·rename_i b off n
  obtain⟨y,hy,I⟩:=ub D
  obtain⟨C,G⟩:=uc I
  obtain⟨V,hd⟩:=M7 hl hy
  simp at C G
  obtain⟨hp,C⟩:=C
  subst G;subst C
  rw[Rep] at F
  obtain⟨x,A,cap,⟨L,hmp⟩,rfl,T,hr⟩:=F
  rw[V] at L;simp at L;subst L
  rcases hr with hr | ⟨kk,o,rfl,hr⟩
  ·have:n=0:=by omega
   subst this
   exact⟨[],ofEmpty _ _,by simp,by simp[RepCs]⟩
  ·rcases hr with hr | ⟨r1,r2,r3⟩
   ·simp[hd] at hr
   ·rcases S.blk b y V hd hmp with⟨hn,_⟩ | ⟨k',o',cs,ty,fr,M,g1,g2,g3,g4,g5,g6⟩
    ·rw[r1] at hn;simp at hn
    ·rw[r1] at M;simp at M;obtain⟨rfl,rfl⟩:=M
     obtain⟨us,G,h3,h4⟩:=(((g4.1 hp).drop off).take (n*y.sz)).list
     have B:us.length=n*y.sz:=by rw[G];simp;omega
     refine⟨us,ofSlice _ n cap us B (fun j u U=>?_),G.symm,h4⟩
     have:=h3 j u U
     rw[Addr.add_mid,Yg g1,Nat.add_assoc];exact this
 ·rename_i s
  obtain⟨C,I⟩:=uc D
  simp at C I
  subst C;subst I
  rw[Rep] at F;subst F
  refine⟨s.map fun b=>.int .u8 (b.toNat:Int),⟨fun _=>rfl,fun w' m _ Y=>?_,by simp⟩,by simp,?_⟩
  ·simp[Builtin.firstCells]
  ·rw[Cw]
   intro j x U
   simp at U
   obtain⟨b,V,rfl⟩:=U
   exact⟨_,by simp[V];rfl,by rw[RepC]⟩
 ·simp at D
theorem SL {el:TypeId} {sz:Nat} {x:AV} {vx:Value} {k:List AV×Nat×Bool→Option R} (S:SimH J β h w) (D:Looks g h) (C:lM P el g sz x k=some r) (F:Rep J β h w x vx) :
  ∃ (q:List AV×Nat×Bool) (us:List Value),k q=some r∧Yield P w sz vx q.2.1 us∧q.1.length=us.length∧RepCs (J q.2.2) w q.1 (fun j=>us[j]?) 0:=by
 unfold lM at C
 obtain⟨q,G,I⟩:=ub C
 obtain⟨us,Y,A,B⟩:=uP (P:=P) S D G F
 obtain⟨o,L,M⟩:=iT I B
 exact⟨_,us,L,Y,A,M⟩
end
end Gx

namespace Gx
open Go
theorem gv {a b:Nat} (h:a≠b):Nat.beq a b=false:=by
 cases k:Nat.beq a b with
 | false=>rfl
 | true=>exact absurd (Nat.eq_of_beq_eq_true k) h
theorem AN {a b:Nat} (h:Nat.beq a b=false):a≠b:=fun e=>by subst e;rw[Nat.beq_refl] at h;cases h
theorem Ai:∀ (h:Am) (b:Nat) (y:Blk) (c:Nat),Au (G0 h b y) c=if c=b then some y else Au h c
 | [],b,y,c=>by
  by_cases e:c=b
  ·subst e;simp[G0,Au]
  ·have:Nat.beq b c=false:=gv (fun e'=>e e'.symm)
   simp[G0,Au,e,this]
 | (i,x)::r,b,y,c=>by
  rw[G0]
  cases B:Nat.beq i b with
  | true =>
   have k:i=b:=by simpa using B
   subst k
   by_cases e:c=i
   ·subst e;simp[Au]
   ·have:Nat.beq i c=false:=gv (fun e'=>e e'.symm)
    simp[Au,e,this]
  | false =>
   have k:i≠b:=AN B
   cases D:Nat.blt b i with
   | true =>
    by_cases e:c=b
    ·subst e;simp[Au]
    ·have:Nat.beq b c=false:=gv (fun e'=>e e'.symm)
     simp[Au,e,this]
   | false =>
    simp only[cond_false]
    rw[Au]
    cases C:Nat.beq i c with
    | true =>
     have A:i=c:=by simpa using C
     subst A
     simp[Au,k]
    | false=>simp[Au,C,Ai r b y c]
theorem Pu:∀ (h:Ho) (b:Nat) (y:AV) (c:Nat),Gu (lL h b y) c=if c=b then y else Gu h c
 | [],b,y,c=>by
  by_cases e:c=b
  ·subst e;simp[lL,Gu]
  ·have:Nat.beq b c=false:=gv (fun e'=>e e'.symm)
   simp[lL,Gu,e,this]
 | (i,x)::r,b,y,c=>by
  rw[lL]
  cases B:Nat.beq i b with
  | true =>
   have k:i=b:=by simpa using B
   subst k
   by_cases e:c=i
   ·subst e;simp[Gu]
   ·have:Nat.beq i c=false:=gv (fun e'=>e e'.symm)
    simp[Gu,e,this]
  | false =>
   have k:i≠b:=AN B
   cases D:Nat.blt b i with
   | true =>
    by_cases e:c=b
    ·subst e;simp[Gu]
    ·have:Nat.beq b c=false:=gv (fun e'=>e e'.symm)
     simp[Gu,e,this]
   | false =>
    simp only[cond_false]
    rw[Gu]
    cases C:Nat.beq i c with
    | true =>
     have A:i=c:=by simpa using C
     subst A
     simp[Gu,k]
    | false=>simp[Gu,C,Pu r b y c]
def As0 (β:C1) (h:Am) (k:Nat):Prop:=∃ b x o,Au h b=some x∧x.dead=false∧x.sealed=false∧β b=some (k,o)
structure Step (J:Bool→Nat→Prop) (β:C1) (h:Am) (w:World) (J':Bool→Nat→Prop) (β':C1) (h':Am) (w':World):Prop where
 ext:Ext J β h w J' β' h' w'
 sim:SimH J' β' h' w'
 os:w'.os=w.os
 tape:w'.tape=w.tape
 output:w'.output=w.output
 size:w.heap.size≤w'.heap.size
 frame:∀ k,k<w.heap.size→¬ As0 β h k→w'.heap[k]?=w.heap[k]?
 wr:∀ k,As0 β' h' k→k<w.heap.size→As0 β h k
 jup:∀ o k,J' o k→J o k∨As0 β h k∨w.heap.size≤k
section
variable {J J' J'':Bool→Nat→Prop} {β β' β'':C1} {h h' h'':Am} {w w' w'':World}
theorem Ext.refl:Ext J β h w J β h w:=⟨fun _ _ k=>k,fun _ _ _=>rfl,fun b x A=>⟨x,⟨A,rfl⟩,by cases B:x.dead<;>simp⟩,fun _ _ _ _=>Nat.le_refl _⟩
theorem Ext.trans (A:Ext J β h w J' β' h' w') (B:Ext J' β' h' w' J'' β'' h'' w'') (hs:∀ b k o,β b=some (k,o)→Bt w k≤Bt w'' k):Ext J β h w J'' β'' h'' w'' where
 jsub o k D:=B.jsub o k (A.jsub o k D)
 keep o k D:=(B.keep o k (A.jsub o k D)).trans (A.keep o k D)
 blk b x I:=by
  obtain⟨x',⟨L,m1⟩,F⟩:=A.blk b x I
  obtain⟨x'',⟨M,m3⟩,C⟩:=B.blk b x' L
  refine⟨x'',⟨M,m3.trans m1⟩,?_⟩
  rcases C with C | ⟨C,O,S,T⟩
  ·exact .inl C
  ·rcases F with F | ⟨U,V,Y,g4⟩
   ·simp[C] at F
   ·exact .inr ⟨U,O.trans V,S.trans Y,fun G=>(T (m1.trans G)).trans (g4 G)⟩
 size:=hs
theorem Step.refl (S:SimH J β h w):Step J β h w J β h w:=⟨Ext.refl,S,rfl,rfl,rfl,Nat.le_refl _,fun _ _ _=>rfl,fun _ k _=>k,fun _ _ A=>.inl A⟩
theorem Step.trans (A:Step J β h w J' β' h' w') (B:Step J' β' h' w' J'' β'' h'' w'') (hs:∀ b k o,β b=some (k,o)→Bt w k≤Bt w'' k):Step J β h w J'' β'' h'' w'' where
 ext:=A.ext.trans B.ext hs
 sim:=B.sim
 os:=B.os.trans A.os
 tape:=B.tape.trans A.tape
 output:=B.output.trans A.output
 size:=Nat.le_trans A.size B.size
 frame k C F:=(B.frame k (Nat.lt_of_lt_of_le C A.size) (fun G=>F (A.wr k G C))).trans (A.frame k C F)
 wr k F C:=A.wr k (B.wr k F (Nat.lt_of_lt_of_le C A.size)) C
 jup o k I:=by
  rcases B.jup o k I with D | D | D
  ·exact A.jup o k D
  ·by_cases C:k<w.heap.size
   ·exact .inr (.inl (A.wr k D C))
   ·exact .inr (.inr (by omega))
  ·exact .inr (.inr (Nat.le_trans A.size D))
theorem CellsRep.ext (E:Ext J β h w J' β' h' w') {x:Blk} {rd:Nat→Option Value} (A:CellsRep J β h w x rd):CellsRep J' β' h' w' x rd :=
 ⟨fun k=>RepCs.keep (E.jsub _) (E.keep _) (fun _=>rfl) (A.1 k),fun k j c B=>by
  obtain⟨u,C,D,F⟩:=A.2 k j c B
  exact⟨u,C,Rep.ext E D,F⟩⟩
theorem Hq {k:Nat} {cs:Array Value} {ty:TypeId} {fr:Nat×Nat} (A:w.heap[k]?=some (.cells cs ty fr)):Bt w k=cs.size:=by simp[Bt,A]
theorem fq {k:Nat} {o:Obj} (C:w.heap[k]?=some o):k<w.heap.size:=by
 rcases Nat.lt_or_ge k w.heap.size with A | B
 ·exact A
 ·rw[Array.getElem?_eq_none B] at C;cases C
theorem MapRep.keep {b:Nat} {x:Blk} (M:MapRep J β w b x) (B:β' b=β b) (C:∀ k o,β b=some (k,o)→w'.heap[k]?=w.heap[k]?) (D:∀ g k o,β b=some (k,o)→J' g k→J g k):MapRep J' β' w' b x:=by
 obtain⟨F,G,k,es,clk,A,I,L,O⟩:=M
 exact⟨F,G,k,es,clk,by rw[B];exact A,by rw[C k 0 A];exact I,L,fun g S=>O g (D g k 0 A S)⟩
theorem Step.drew (S:SimH J β h w):Step J β h w J β h w.drew where
 ext:=⟨fun _ _ A=>A,fun _ _ _=>rfl,fun b x B=>⟨x,⟨B,rfl⟩,by cases C:x.dead<;>simp⟩,fun _ _ _ _=>Nat.le_refl _⟩
 sim:=by
  have E:Ext J β h w J β h w.drew:=⟨fun _ _ A=>A,fun _ _ _=>rfl,fun b x B=>⟨x,⟨B,rfl⟩,by cases C:x.dead<;>simp⟩,fun _ _ _ _=>Nat.le_refl _⟩
  refine⟨S.jlt,S.jft,fun b x B C D=>?_,fun b x B C D=>(S.mblk b x B C D).keep rfl (fun _ _ _=>rfl) (fun _ _ _ _ A=>A),S.sep⟩
  rcases S.blk b x B C D with F | ⟨k,o,cs,ty,fr,F,G,I,L,M,O⟩
  ·exact .inl F
  ·exact .inr ⟨k,o,cs,ty,fr,F,G,I,L,M.ext E,O⟩
 os:=rfl
 tape:=rfl
 output:=rfl
 size:=Nat.le_refl _
 frame _ _ _:=rfl
 wr _ D _:=D
 jup _ _ A:=.inl A
theorem D1 (w:World) (o:Obj) {k:Nat} (A:k<w.heap.size):(w.alloc o).heap[k]?=w.heap[k]?:=by
 show(w.heap.push o)[k]?=_
 rw[Array.getElem?_push,if_neg (by omega)]
theorem Z4 (S:SimH J β h w) {b:Nat} {x:Blk} {k o:Nat} (D:Au h b=some x) (F:x.dead=false) (B:β b=some (k,o)):k<w.heap.size:=by
 cases G:x.mp with
 | false =>
  rcases S.blk b x D F G with⟨hn,_⟩ | ⟨k',o',cs,ty,fr,A,C,_⟩
  ·rw[B] at hn;simp at hn
  ·rw[B] at A;simp at A;obtain⟨rfl,rfl⟩:=A;exact fq C
 | true =>
  obtain⟨_,_,k',es,clk,A,C,_⟩:=S.mblk b x D F G
  rw[B] at A;simp at A;obtain⟨rfl,_⟩:=A;exact fq C
theorem Step.new (S:SimH J β h w) {d:Nat} {x:Blk} {cs:Array Value} {ty:TypeId} {fr:Nat×Nat} (hn:Au h d=none) (hxd:x.dead=false) (U:x.sealed=false)
  (V:FrOk cs.size fr) (hlen:x.cells.length≤cs.size) (hc:CellsRep J β h w x (fun j=>cs[j]?)) (Y:x.mp=false:=by rfl) :
  Step J β h w J (fun b=>if b=d then some (w.heap.size,0) else β b) (G0 h d x) (w.alloc (.cells cs ty fr)):=by
 have ne:∀ {b y},Au h b=some y→b≠d:=fun A e=>by subst e;rw[hn] at A;cases A
 have E:Ext J β h w J (fun b=>if b=d then some (w.heap.size,0) else β b) (G0 h d x) (w.alloc (.cells cs ty fr)):=by
  refine⟨fun _ _ C=>C,fun o k C=>D1 w _ (S.jlt o k C),fun b y A=>⟨y,⟨by rw[Ai,if_neg (ne A)];exact A,rfl⟩,?_⟩,fun b k o B=>?_⟩
  ·cases G:y.dead
   ·exact .inr ⟨rfl,by simp[ne A],rfl,fun _=>rfl⟩
   ·exact .inl rfl
  ·by_cases I:k<w.heap.size
   ·simp[Bt,D1 w _ I]
   ·simp[Bt,Array.getElem?_eq_none (Nat.le_of_not_lt I)]
 have L:(w.alloc (.cells cs ty fr)).heap[w.heap.size]?=some (.cells cs ty fr):=by
  show(w.heap.push _)[_]?=_;simp
 have hsz:(w.alloc (.cells cs ty fr)).heap.size=w.heap.size+1:=by show(w.heap.push _).size=_;simp
 refine⟨E,⟨fun o k C=>by have:=S.jlt o k C;omega,S.jft,fun b y A G O=>?_,fun b y A G O=>by
   rw[Ai] at A
   by_cases e:b=d
   ·rw[if_pos e] at A;simp at A;subst A;simp[Y] at O
   ·rw[if_neg e] at A
    exact(S.mblk b y A G O).keep (by simp[e]) (fun k o B=>D1 w _ (Z4 S A G B)) (fun _ _ _ _ C=>C),?_⟩,rfl,rfl,rfl,by omega,fun k I _=>D1 w _ I,?_,fun _ _ C=>.inl C⟩
 ·rw[Ai] at A
  by_cases e:b=d
  ·subst e;simp at A;subst A
   exact .inr ⟨w.heap.size,0,cs,ty,fr,by simp,L,V,by omega,by simpa using hc.ext E,fun _ g C=>by have:=S.jlt g _ C;omega,fun hs=>by simp[U] at hs⟩
  ·rw[if_neg e] at A
   rcases S.blk b y A G O with T | ⟨k,o,cs',ty',fr',T,h2,h3,h4,h5,h6⟩
   ·exact .inl ⟨by simp[e,T.1],T.2⟩
   ·exact .inr ⟨k,o,cs',ty',fr',by simp[e,T],by rw[D1 w _ (fq h2)];exact h2,h3,h4,h5.ext E,h6⟩
 ·intro b b' y y' k o o' A D G M hs B F
  rw[Ai] at A D
  by_cases e:b=d<;>by_cases e':b'=d
  ·rw[e,e']
  ·rw[if_neg e'] at D
   simp[e] at B;simp[e'] at F
   have:=Z4 S D M F;omega
  ·rw[if_neg e] at A
   simp[e'] at F;simp[e] at B
   have:=Z4 S A G B;omega
  ·rw[if_neg e] at A;rw[if_neg e'] at D
   simp[e] at B;simp[e'] at F
   exact S.sep b b' y y' k o o' A D G M hs B F
 ·rintro k ⟨b,y,o,A,G,hs,B⟩ I
  rw[Ai] at A
  by_cases e:b=d
  ·simp[e] at B;omega
  ·rw[if_neg e] at A;simp[e] at B
   exact⟨b,y,o,A,G,hs,B⟩
theorem Step.newNone (S:SimH J β h w) {d:Nat} {x:Blk} (hn:Au h d=none) (T:x.cells=[]) (M:x.mp=false:=by rfl) :
  Step J β h w J (fun b=>if b=d then none else β b) (G0 h d x) w:=by
 have ne:∀ {b y},Au h b=some y→b≠d:=fun A e=>by subst e;rw[hn] at A;cases A
 have E:Ext J β h w J (fun b=>if b=d then none else β b) (G0 h d x) w:=by
  refine⟨fun _ _ G=>G,fun o k G=>rfl,fun b y A=>⟨y,⟨by rw[Ai,if_neg (ne A)];exact A,rfl⟩,?_⟩,fun b k o B=>Nat.le_refl _⟩
  cases C:y.dead
  ·exact .inr ⟨rfl,by simp[ne A],rfl,fun _=>rfl⟩
  ·exact .inl rfl
 refine⟨E,⟨S.jlt,S.jft,fun b y A C I=>?_,fun b y A C I=>by
   rw[Ai] at A
   by_cases e:b=d
   ·rw[if_pos e] at A;simp at A;subst A;simp[M] at I
   ·rw[if_neg e] at A
    exact(S.mblk b y A C I).keep (by simp[e]) (fun k o B=>rfl) (fun _ _ _ _ G=>G),?_⟩,rfl,rfl,rfl,Nat.le_refl _,fun k U _=>rfl,?_,fun _ _ G=>.inl G⟩
 ·rw[Ai] at A
  by_cases e:b=d
  ·subst e;simp at A;subst A
   exact .inl ⟨by simp,T⟩
  ·rw[if_neg e] at A
   rcases S.blk b y A C I with L | ⟨k,o,cs',ty',fr',L,V,Y,h4,h5,h6⟩
   ·exact .inl ⟨by simp[e,L.1],L.2⟩
   ·exact .inr ⟨k,o,cs',ty',fr',by simp[e,L],V,Y,h4,h5.ext E,h6⟩
 ·intro b b' y y' k o o' A D C O hs B F
  rw[Ai] at A D
  by_cases e:b=d
  ·simp[e] at B
  ·by_cases e':b'=d
   ·simp[e'] at F
   ·rw[if_neg e] at A;rw[if_neg e'] at D
    simp[e] at B;simp[e'] at F
    exact S.sep b b' y y' k o o' A D C O hs B F
 ·rintro k ⟨b,y,o,A,C,hs,B⟩ U
  rw[Ai] at A
  by_cases e:b=d
  ·simp[e] at B
  ·rw[if_neg e] at A;simp[e] at B
   exact⟨b,y,o,A,C,hs,B⟩
theorem Step.newMap (S:SimH J β h w) {d:Nat} {x:Blk} (hn:Au h d=none) (hxd:x.dead=false) (U:x.sealed=false) (V:x.pure=true) (Y:x.cells=[]) (hxm:x.mp=true) :
  Step J β h w J (fun b=>if b=d then some (w.heap.size,0) else β b) (G0 h d x) (w.alloc (.map #[] 0)):=by
 have ne:∀ {b y},Au h b=some y→b≠d:=fun A e=>by subst e;rw[hn] at A;cases A
 have E:Ext J β h w J (fun b=>if b=d then some (w.heap.size,0) else β b) (G0 h d x) (w.alloc (.map #[] 0)):=by
  refine⟨fun _ _ C=>C,fun o k C=>D1 w _ (S.jlt o k C),fun b y A=>⟨y,⟨by rw[Ai,if_neg (ne A)];exact A,rfl⟩,?_⟩,fun b k o B=>?_⟩
  ·cases G:y.dead
   ·exact .inr ⟨rfl,by simp[ne A],rfl,fun _=>rfl⟩
   ·exact .inl rfl
  ·by_cases I:k<w.heap.size
   ·simp[Bt,D1 w _ I]
   ·simp[Bt,Array.getElem?_eq_none (Nat.le_of_not_lt I)]
 have L:(w.alloc (.map #[] 0)).heap[w.heap.size]?=some (.map #[] 0):=by
  show(w.heap.push _)[_]?=_;simp
 have hsz:(w.alloc (.map #[] 0)).heap.size=w.heap.size+1:=by show(w.heap.push _).size=_;simp
 refine⟨E,⟨fun o k C=>by have:=S.jlt o k C;omega,S.jft,fun b y A G O=>?_,fun b y A G O=>?_,?_⟩,rfl,rfl,rfl,by omega,fun k I _=>D1 w _ I,?_,fun _ _ C=>.inl C⟩
 ·rw[Ai] at A
  by_cases e:b=d
  ·rw[if_pos e] at A;simp at A;subst A;simp[hxm] at O
  ·rw[if_neg e] at A
   rcases S.blk b y A G O with T | ⟨k,o,cs',ty',fr',T,h2,h3,h4,h5,h6⟩
   ·exact .inl ⟨by simp[e,T.1],T.2⟩
   ·exact .inr ⟨k,o,cs',ty',fr',by simp[e,T],by rw[D1 w _ (fq h2)];exact h2,h3,h4,h5.ext E,h6⟩
 ·rw[Ai] at A
  by_cases e:b=d
  ·rw[if_pos e] at A;simp at A;subst A
   exact⟨V,U,w.heap.size,#[],0,by simp[e],L,⟨[],by simp[Y],by simp⟩,fun g C=>by have:=S.jlt g _ C;omega⟩
  ·rw[if_neg e] at A
   exact(S.mblk b y A G O).keep (by simp[e]) (fun k o B=>D1 w _ (Z4 S A G B)) (fun _ _ _ _ C=>C)
 ·intro b b' y y' k o o' A D G M hs B F
  rw[Ai] at A D
  by_cases e:b=d<;>by_cases e':b'=d
  ·rw[e,e']
  ·rw[if_neg e'] at D
   simp[e] at B;simp[e'] at F
   have:=Z4 S D M F;omega
  ·rw[if_neg e] at A
   simp[e'] at F;simp[e] at B
   have:=Z4 S A G B;omega
  ·rw[if_neg e] at A;rw[if_neg e'] at D
   simp[e] at B;simp[e'] at F
   exact S.sep b b' y y' k o o' A D G M hs B F
 ·rintro k ⟨b,y,o,A,G,hs,B⟩ I
  rw[Ai] at A
  by_cases e:b=d
  ·simp[e] at B;omega
  ·rw[if_neg e] at A;simp[e] at B
   exact⟨b,y,o,A,G,hs,B⟩
theorem Step.kill (S:SimH J β h w) {d:Nat} {x y:Blk} (U:Au h d=some x) (D:y.dead=true) (L:y.mp=x.mp:=by rfl):Step J β h w J β (G0 h d y) w:=by
 have E:Ext J β h w J β (G0 h d y) w:=by
  refine⟨fun _ _ F=>F,fun o k F=>rfl,fun b z A=>?_,fun b k o G=>Nat.le_refl _⟩
  by_cases e:b=d
  ·subst e;rw[U] at A;simp at A;subst A;exact⟨y,⟨by rw[Ai,if_pos rfl],L⟩,.inl D⟩
  ·refine⟨z,⟨by rw[Ai,if_neg e];exact A,rfl⟩,?_⟩
   cases C:z.dead
   ·exact .inr ⟨rfl,rfl,rfl,fun _=>rfl⟩
   ·exact .inl rfl
 refine⟨E,⟨S.jlt,S.jft,fun b z A C M=>?_,fun b z A C M=>by
   rw[Ai] at A
   by_cases e:b=d
   ·rw[if_pos e] at A;simp at A;subst A;simp[D] at C
   ·rw[if_neg e] at A
    exact(S.mblk b z A C M).keep rfl (fun k o G=>rfl) (fun _ _ _ _ F=>F),?_⟩,rfl,rfl,rfl,Nat.le_refl _,fun k V _=>rfl,?_,fun _ _ F=>.inl F⟩
 ·rw[Ai] at A
  by_cases e:b=d
  ·rw[if_pos e] at A;simp at A;subst A;simp[D] at C
  ·rw[if_neg e] at A
   rcases S.blk b z A C M with O | ⟨k,o,cs',ty',fr',O,Y,h3,h4,h5,h6⟩
   ·exact .inl O
   ·exact .inr ⟨k,o,cs',ty',fr',O,Y,h3,h4,h5.ext E,h6⟩
 ·intro b b' z z' k o o' A B C I hs G T
  rw[Ai] at A B
  by_cases e:b=d
  ·rw[if_pos e] at A;simp at A;subst A;simp[D] at C
  ·by_cases e':b'=d
   ·rw[if_pos e'] at B;simp at B;subst B;simp[D] at I
   ·rw[if_neg e] at A;rw[if_neg e'] at B
    exact S.sep b b' z z' k o o' A B C I hs G T
 ·rintro k ⟨b,z,o,A,C,hs,G⟩ V
  rw[Ai] at A
  by_cases e:b=d
  ·rw[if_pos e] at A;simp at A;subst A;simp[D] at C
  ·rw[if_neg e] at A
   exact⟨b,z,o,A,C,hs,G⟩
end
end Gx

namespace Gx
open Go
section
variable {J J' J'':Bool→Nat→Prop} {β β' β'':C1} {h h' h'':Am} {w w' w'':World}
theorem Step.shutB (S:SimH J β h w) {d:Nat} {x:Blk} (I:Au h d=some x) (G:x.dead=false) (L:x.mp=false) :
  Step J β h w (fun o k=>J o k∨∃ o',β d=some (k,o')∧(x.taint=true→o=true)) β (G0 h d { x with sealed:=true }) w:=by
 have E:Ext J β h w (fun o k=>J o k∨∃ o',β d=some (k,o')∧(x.taint=true→o=true)) β (G0 h d { x with sealed:=true }) w:=by
  refine⟨fun _ _ C=>.inl C,fun o k C=>rfl,fun b z A=>?_,fun b k o B=>Nat.le_refl _⟩
  by_cases e:b=d
  ·subst e;rw[I] at A;simp at A;subst A
   exact⟨{ x with sealed:=true },⟨by rw[Ai,if_pos rfl],rfl⟩,.inr ⟨G,rfl,rfl,fun _=>rfl⟩⟩
  ·refine⟨z,⟨by rw[Ai,if_neg e];exact A,rfl⟩,?_⟩
   cases G:z.dead
   ·exact .inr ⟨rfl,rfl,rfl,fun _=>rfl⟩
   ·exact .inl rfl
 refine⟨E,⟨?_,?_,fun b z A F V=>?_,fun b z A F V=>by
   rw[Ai] at A
   by_cases e:b=d
   ·rw[if_pos e] at A;simp at A;subst A;simp[L] at V
   ·rw[if_neg e] at A
    have M:=S.mblk b z A F V
    refine M.keep rfl (fun k o B=>rfl) (fun g k o B C=>?_)
    rcases C with C | ⟨o',O,_⟩
    ·exact C
    ·exact absurd (S.sep b d z x k o o' A I F G M.2.1 B O) e,?_⟩,rfl,rfl,rfl,Nat.le_refl _,fun k hk _=>rfl,?_,?_⟩
 ·rintro o k (C | ⟨o',B,_⟩)
  ·exact S.jlt o k C
  ·exact Z4 S I G B
 ·rintro k (C | ⟨o',B,ht⟩)
  ·exact .inl (S.jft k C)
  ·exact .inr ⟨o',B,fun _=>rfl⟩
 ·rw[Ai] at A
  by_cases e:b=d
  ·rw[if_pos e] at A;simp at A;subst A;subst e
   rcases S.blk b x I G L with D | ⟨k,o,cs',ty',fr',D,Y,h3,h4,h5,h6,h7⟩
   ·exact .inl D
   ·exact .inr ⟨k,o,cs',ty',fr',D,Y,h3,h4,h5.ext E,fun hs=>by simp at hs,fun _=>.inr ⟨o,D,id⟩⟩
  ·rw[if_neg e] at A
   rcases S.blk b z A F V with D | ⟨k,o,cs',ty',fr',D,Y,h3,h4,h5,h6,h7⟩
   ·exact .inl D
   ·refine .inr ⟨k,o,cs',ty',fr',D,Y,h3,h4,h5.ext E,fun hs g C=>?_,fun hs=>.inl (h7 hs)⟩
    rcases C with C | ⟨o',B,_⟩
    ·exact h6 hs g C
    ·exact e (S.sep b d z x k o o' A I F G hs D B)
 ·intro b b' z z' k o o' A hb' hd1 hd2 hs B O
  have get:∀ {c y},Au (G0 h d { x with sealed:=true }) c=some y→y.dead=false→∃ y',Au h c=some y'∧y'.dead=false∧(y.sealed=false→y'.sealed=false):=by
   intro c y U hyd
   rw[Ai] at U
   by_cases e:c=d
   ·subst e;exact⟨x,I,G,fun hs=>by simp at U;subst U;simp at hs⟩
   ·rw[if_neg e] at U;exact⟨y,U,hyd,id⟩
  obtain⟨y1,g1,g2,g3⟩:=get A hd1
  obtain⟨y2,g4,g5,g6⟩:=get hb' hd2
  exact S.sep b b' y1 y2 k o o' g1 g4 g2 g5 (g3 hs) B O
 ·rintro k ⟨b,z,o,A,F,hs,B⟩ hk
  rw[Ai] at A
  by_cases e:b=d
  ·rw[if_pos e] at A;simp at A;subst A;simp at hs
  ·rw[if_neg e] at A
   exact⟨b,z,o,A,F,hs,B⟩
 ·rintro o k (C | ⟨o',B,ht⟩)
  ·exact .inl C
  ·cases hs:x.sealed with
   | false=>exact .inr (.inl ⟨d,x,o',I,G,hs,B⟩)
   | true =>
    left
    rcases S.blk d x I G L with⟨D,_⟩ | ⟨k',o1,cs',ty',fr',D,Y,h3,h4,h5,h6,h7⟩
    ·rw[B] at D;simp at D
    ·rw[B] at D;simp at D;obtain⟨rfl,rfl⟩:=D
     have:=h7 hs
     cases T:x.taint with
     | true=>rw[T] at this;rw[ht T];exact this
     | false =>
      rw[T] at this
      cases o
      ·exact this
      ·exact S.jft _ this
structure OnlyBlk (w w':World) (k:Nat) (cs cs':Array Value) (ty:TypeId) (fr:Nat×Nat):Prop where
 old:w.heap[k]?=some (.cells cs ty fr)
 new:w'.heap[k]?=some (.cells cs' ty fr)
 sz:cs'.size=cs.size
 other:∀ j,j≠k→w'.heap[j]?=w.heap[j]?
 size:w'.heap.size=w.heap.size
 os:w'.os=w.os
 tape:w'.tape=w.tape
 output:w'.output=w.output
theorem OnlyBlk.setCell {k i:Nat} {cs:Array Value} {ty:TypeId} {fr:Nat×Nat} (A:w.heap[k]?=some (.cells cs ty fr)) (u:Value) :
  OnlyBlk w (w.setCell ⟨k,i,none⟩ u) k cs (cs.setIfInBounds i u) ty fr:=by
 refine⟨A,?_,by simp,fun j B=>?_,by simp[World.setCell],rfl,rfl,rfl⟩
 ·simp[World.setCell,Array.getElem?_modify,A]
 ·simp only[World.setCell,Array.getElem?_modify];rw[if_neg (fun e=>B e.symm)]
theorem OnlyBlk.setCells {k:Nat} {ty:TypeId} {fr:Nat×Nat}:∀ (us:List Value) (i:Nat) (w:World) (cs:Array Value),w.heap[k]?=some (.cells cs ty fr) →
  ∃ cs',OnlyBlk w (w.setCells k i us) k cs cs' ty fr∧∀ j,cs'[j]?=if i≤j∧j<i+us.length∧j<cs.size then us[j - i]? else cs[j]?
 | [],i,w,cs,C=>⟨cs,⟨C,C,rfl,fun _ _=>rfl,rfl,rfl,rfl,rfl⟩,fun j=>by rw[if_neg (by simp;omega)]⟩
 | u::us,i,w,cs,C=>by
  have A:=OnlyBlk.setCell (i:=i) C u
  obtain⟨cs',B,hB⟩:=OnlyBlk.setCells us (i+1) (w.setCell ⟨k,i,none⟩ u) _ A.new
  refine⟨cs',⟨C,B.new,B.sz.trans A.sz,fun j D=>(B.other j D).trans (A.other j D),B.size.trans A.size,B.os.trans A.os,B.tape.trans A.tape,B.output.trans A.output⟩,fun j=>?_⟩
  rw[hB j]
  simp only[Array.size_setIfInBounds,List.length_cons]
  by_cases D:j=i
  ·subst D
   rw[if_neg (by omega)]
   by_cases hs:j<cs.size
   ·rw[if_pos (by omega)];simp[hs]
   ·rw[if_neg (by omega)];simp[hs]
  ·by_cases F:i+1≤j∧j<i+1+us.length∧j<cs.size
   ·rw[if_pos F,if_pos (by omega),show j - i=(j - (i+1))+1 by omega];simp
   ·rw[if_neg F,if_neg (by omega),Array.getElem?_setIfInBounds_ne (by omega)]
theorem Step.set (S:SimH J β h w) {d k o:Nat} {x x':Blk} {cs cs':Array Value} {ty:TypeId} {fr:Nat×Nat} (G:Au h d=some x) (D:x.dead=false) (hs:x.sealed=false) (T:β d=some (k,o))
  (O:OnlyBlk w w' k cs cs' ty fr) (hd':x'.dead=false) (hs':x'.sealed=false) (hz:x'.sz=x.sz) (hl:x'.cells.length=x.cells.length) (Y:CellsRep J β h w x' (fun j=>cs'[o+j]?)) (hxm:x.mp=false) (F:x'.mp=x.mp:=by rfl) :
  Step J β h w J β (G0 h d x') w':=by
 obtain⟨k',o',cs0,ty0,fr0,I,h2,h3,h4,h5,h6,h7⟩:∃ k' o' cs0 ty0 fr0,β d=some (k',o')∧w.heap[k']?=some (.cells cs0 ty0 fr0) ∧
   FrOk cs0.size fr0∧o'+x.cells.length≤cs0.size∧CellsRep J β h w x (fun j=>cs0[o'+j]?)∧(x.sealed=false→∀ g,¬ J g k')∧(x.sealed=true→J x.taint k'):=by
  rcases S.blk d x G D hxm with⟨h1,_⟩ | h1
  ·rw[T] at h1;simp at h1
  ·exact h1
 rw[T] at I;simp at I;obtain⟨rfl,rfl⟩:=I
 rw[O.old] at h2;simp at h2;obtain⟨rfl,rfl,rfl⟩:=h2
 have nj:∀ g j,J g j→j≠k:=fun g j C e=>by subst e;exact h6 hs g C
 have E:Ext J β h w J β (G0 h d x') w':=by
  refine⟨fun _ _ C=>C,fun o j C=>O.other j (nj o j C),fun b z A=>?_,fun b j oo A=>?_⟩
  ·by_cases e:b=d
   ·subst e;rw[G] at A;simp at A;subst A
    exact⟨_,⟨by rw[Ai,if_pos rfl],F⟩,.inr ⟨D,rfl,hz,fun _=>hl⟩⟩
   ·refine⟨z,⟨by rw[Ai,if_neg e];exact A,rfl⟩,?_⟩
    cases D:z.dead
    ·exact .inr ⟨rfl,rfl,rfl,fun _=>rfl⟩
    ·exact .inl rfl
  ·by_cases e:j=k
   ·subst e;rw[Hq O.old,Hq O.new,O.sz];exact Nat.le_refl _
   ·simp[Bt,O.other j e]
 refine⟨E,⟨fun g j C=>by rw[O.size];exact S.jlt g j C,S.jft,fun b z A B U=>?_,fun b z A B U=>by
   rw[Ai] at A
   by_cases e:b=d
   ·rw[if_pos e] at A;simp at A;subst A;simp[F,hxm] at U
   ·rw[if_neg e] at A
    exact(S.mblk b z A B U).keep rfl (fun L o2 M=>O.other L (fun e2=>by subst e2;exact e (S.sep d b x z L o o2 G A D B hs T M).symm)) (fun _ _ _ _ C=>C),?_⟩,O.os,O.tape,O.output,by rw[O.size];exact Nat.le_refl _,fun j C U=>?_,?_,fun _ _ C=>.inl C⟩
 ·rw[Ai] at A
  by_cases e:b=d
  ·rw[if_pos e] at A;simp at A;subst A;subst e
   refine .inr ⟨k,o,cs',ty,fr,T,O.new,?_,by rw[hl,O.sz];exact h4,Y.ext E,fun _=>h6 hs,fun hh=>by simp[hs'] at hh⟩
   rw[O.sz];exact h3
  ·rw[if_neg e] at A
   rcases S.blk b z A B U with V | ⟨L,o2,cs2,ty2,fr2,V,g2,g3,g4,g5,g6,g7⟩
   ·exact .inl V
   ·have hne:L≠k:=fun e2=>by
     subst e2;exact e (S.sep d b x z L o o2 G A D B hs T V).symm
    exact .inr ⟨L,o2,cs2,ty2,fr2,V,by rw[O.other L hne];exact g2,g3,g4,g5.ext E,g6,g7⟩
 ·intro b b' z z' kk oo oo' A hb' hd1 hd2 hs1 hβ1 M
  have get:∀ {c y},Au (G0 h d x') c=some y→y.dead=false→∃ y',Au h c=some y'∧y'.dead=false∧(y.sealed=false→y'.sealed=false):=by
   intro c y Y hyd
   rw[Ai] at Y
   by_cases e:c=d
   ·subst e;exact⟨x,G,D,fun _=>hs⟩
   ·rw[if_neg e] at Y;exact⟨y,Y,hyd,id⟩
  obtain⟨y1,V,g2,g3⟩:=get A hd1
  obtain⟨y2,g4,g5,g6⟩:=get hb' hd2
  exact S.sep b b' y1 y2 kk oo oo' V g4 g2 g5 (g3 hs1) hβ1 M
 ·exact O.other j (fun e=>U (by subst e;exact⟨d,x,o,G,D,hs,T⟩))
 ·rintro j ⟨b,z,oo,A,B,hsz,hβz⟩ C
  rw[Ai] at A
  by_cases e:b=d
  ·subst e;exact⟨b,x,oo,G,D,hs,hβz⟩
  ·rw[if_neg e] at A
   exact⟨b,z,oo,A,B,hsz,hβz⟩
theorem Step.setMap (S:SimH J β h w) {d k:Nat} {x x':Blk} {es es':Array MapEntry} {clk clk':Nat} (L:Au h d=some x) (G:x.dead=false) (T:x.mp=true) (hβ:β d=some (k,0))
  (old:w.heap[k]?=some (.map es clk)) (new:w'.heap[k]?=some (.map es' clk')) (other:∀ j,j≠k→w'.heap[j]?=w.heap[j]?) (size:w'.heap.size=w.heap.size) (os:w'.os=w.os) (tape:w'.tape=w.tape) (output:w'.output=w.output)
  (U:A8p x'.cells es') (hx'd:x'.dead=false) (V:x'.sealed=false) (Y:x'.pure=true) (hx'z:x'.sz=x.sz) (F:x'.mp=true):Step J β h w J β (G0 h d x') w':=by
 have M:=S.mblk d x L G T
 have nJ:∀ g,¬ J g k:=by
  obtain⟨_,_,k',_,_,h1,_,_,h2⟩:=M
  rw[hβ] at h1;simp at h1;subst h1;exact h2
 have nj:∀ g j,J g j→j≠k:=fun g j B e=>by subst e;exact nJ g B
 have E:Ext J β h w J β (G0 h d x') w':=by
  refine⟨fun _ _ B=>B,fun o j B=>other j (nj o j B),fun b z A=>?_,fun b j oo A=>?_⟩
  ·by_cases e:b=d
   ·subst e;rw[L] at A;simp at A;subst A
    exact⟨_,⟨by rw[Ai,if_pos rfl],by rw[F,T]⟩,.inr ⟨G,rfl,hx'z,fun h=>by simp[T] at h⟩⟩
   ·refine⟨z,⟨by rw[Ai,if_neg e];exact A,rfl⟩,?_⟩
    cases G:z.dead
    ·exact .inr ⟨rfl,rfl,rfl,fun _=>rfl⟩
    ·exact .inl rfl
  ·by_cases e:j=k
   ·subst e;simp[Bt,old,new]
   ·simp[Bt,other j e]
 refine⟨E,⟨fun g j B=>by rw[size];exact S.jlt g j B,S.jft,fun b z A C D=>?_,fun b z A C D=>?_,?_⟩,os,tape,output,by rw[size];exact Nat.le_refl _,fun j B T=>?_,?_,fun _ _ B=>.inl B⟩
 ·rw[Ai] at A
  by_cases e:b=d
  ·rw[if_pos e] at A;simp at A;subst A;simp[F] at D
  ·rw[if_neg e] at A
   rcases S.blk b z A C D with g1 | ⟨O,o2,cs2,ty2,fr2,g1,g2,g3,g4,g5,g6,g7⟩
   ·exact .inl g1
   ·have hne:O≠k:=fun e2=>by
     subst e2;rw[old] at g2;cases g2
    exact .inr ⟨O,o2,cs2,ty2,fr2,g1,by rw[other O hne];exact g2,g3,g4,g5.ext E,g6,g7⟩
 ·rw[Ai] at A
  by_cases e:b=d
  ·rw[if_pos e] at A;simp at A;subst A;subst e
   exact⟨Y,V,k,es',clk',hβ,new,U,nJ⟩
  ·rw[if_neg e] at A
   exact(S.mblk b z A C D).keep rfl (fun O o2 I=>other O (fun e2=>by subst e2;exact e (S.sep d b x z O 0 o2 L A G C M.2.1 hβ I).symm)) (fun _ _ _ _ B=>B)
 ·intro b b' z z' kk oo oo' A hb' hd1 hd2 hs1 hβ1 I
  have get:∀ {c y},Au (G0 h d x') c=some y→y.dead=false→∃ y',Au h c=some y'∧y'.dead=false∧(y.sealed=false→y'.sealed=false):=by
   intro c y U hyd
   rw[Ai] at U
   by_cases e:c=d
   ·subst e;exact⟨x,L,G,fun _=>M.2.1⟩
   ·rw[if_neg e] at U;exact⟨y,U,hyd,id⟩
  obtain⟨y1,g1,g2,g3⟩:=get A hd1
  obtain⟨y2,g4,g5,g6⟩:=get hb' hd2
  exact S.sep b b' y1 y2 kk oo oo' g1 g4 g2 g5 (g3 hs1) hβ1 I
 ·exact other j (fun e=>T (by subst e;exact⟨d,x,0,L,G,M.2.1,hβ⟩))
 ·rintro j ⟨b,z,oo,A,C,hsz,hβz⟩ B
  rw[Ai] at A
  by_cases e:b=d
  ·subst e;exact⟨b,x,oo,L,G,M.2.1,hβz⟩
  ·rw[if_neg e] at A
   exact⟨b,z,oo,A,C,hsz,hβz⟩
theorem Step.mark (S:SimH J β h w) {d k o:Nat} {x:Blk} {cs:Array Value} {ty:TypeId} {fr fr':Nat×Nat} (L:Au h d=some x) (M:x.dead=false) (hs:x.sealed=false) (O:β d=some (k,o))
  (old:w.heap[k]?=some (.cells cs ty fr)) (new:w'.heap[k]?=some (.cells cs ty fr')) (hf:FrOk cs.size fr') (other:∀ j,j≠k→w'.heap[j]?=w.heap[j]?) (size:w'.heap.size=w.heap.size) (os:w'.os=w.os) (tape:w'.tape=w.tape) (output:w'.output=w.output) (I:x.mp=false) :
  Step J β h w J β h w':=by
 have nj:∀ g j,J g j→j≠k:=fun g j A e=>by
  subst e
  rcases S.blk d x L M I with⟨Y,_⟩ | ⟨k',o',cs0,ty0,fr0,F,h2,h3,h4,h5,h6,h7⟩
  ·rw[O] at Y;simp at Y
  ·rw[O] at F;simp at F;obtain⟨rfl,rfl⟩:=F
   exact h6 hs g A
 have E:Ext J β h w J β h w':=by
  refine⟨fun _ _ A=>A,fun o j A=>other j (nj o j A),fun b z B=>⟨z,⟨B,rfl⟩,?_⟩,fun b j oo B=>?_⟩
  ·cases M:z.dead
   ·exact .inr ⟨rfl,rfl,rfl,fun _=>rfl⟩
   ·exact .inl rfl
  ·by_cases e:j=k
   ·subst e;rw[Hq old,Hq new];exact Nat.le_refl _
   ·simp[Bt,other j e]
 refine⟨E,⟨fun g j A=>by rw[size];exact S.jlt g j A,S.jft,fun b z B C D=>?_,fun b z B C D=>by
   refine(S.mblk b z B C D).keep rfl (fun G o2 V=>other G (fun e2=>?_)) (fun _ _ _ _ A=>A)
   subst e2
   have:=(S.sep d b x z G o o2 L B M C hs O V)
   subst this
   rw[L] at B;simp at B;subst B;simp[I] at D,S.sep⟩,os,tape,output,by rw[size];exact Nat.le_refl _,fun j A D=>?_,fun _ D _=>D,fun _ _ A=>.inl A⟩
 ·rcases S.blk b z B C D with T | ⟨G,o2,cs2,ty2,fr2,T,U,g3,g4,g5,g6,g7⟩
  ·exact .inl T
  ·by_cases e:G=k
   ·subst e
    rw[old] at U;simp at U;obtain⟨rfl,rfl,rfl⟩:=U
    exact .inr ⟨G,o2,cs,ty,fr',T,new,hf,g4,g5.ext E,g6,g7⟩
   ·exact .inr ⟨G,o2,cs2,ty2,fr2,T,by rw[other G e];exact U,g3,g4,g5.ext E,g6,g7⟩
 ·exact other j (fun e=>D (by subst e;exact⟨d,x,o,L,M,hs,O⟩))
theorem Step.move (S:SimH J β h w) {d d' k o o':Nat} {x x' y:Blk} {cs cs':Array Value} {ty:TypeId} {fr:Nat×Nat} (G:Au h d=some x) (M:x.dead=false) (hs:x.sealed=false) (T:β d=some (k,o))
  (hn:Au h d'=none) (hy:y.dead=true)
  (O:OnlyBlk w w' k cs cs' ty fr) (hd':x'.dead=false) (hs':x'.sealed=false) (hl:o'+x'.cells.length≤cs.size) (hc:CellsRep J β h w x' (fun j=>cs'[o'+j]?)) (hxm:x.mp=false) (hym:y.mp=x.mp:=by rfl) (hxm':x'.mp=false:=by rfl) :
  Step J β h w J (fun b=>if b=d' then some (k,o') else β b) (G0 (G0 h d y) d' x') w':=by
 obtain⟨k',o1,cs0,ty0,fr0,V,h2,h3,h4,h5,h6,h7⟩:∃ k' o' cs0 ty0 fr0,β d=some (k',o')∧w.heap[k']?=some (.cells cs0 ty0 fr0) ∧
   FrOk cs0.size fr0∧o'+x.cells.length≤cs0.size∧CellsRep J β h w x (fun j=>cs0[o'+j]?)∧(x.sealed=false→∀ g,¬ J g k')∧(x.sealed=true→J x.taint k'):=by
  rcases S.blk d x G M hxm with⟨h1,_⟩ | h1
  ·rw[T] at h1;simp at h1
  ·exact h1
 rw[T] at V;simp at V;obtain⟨rfl,rfl⟩:=V
 rw[O.old] at h2;simp at h2;obtain⟨rfl,rfl,rfl⟩:=h2
 have nj:∀ g j,J g j→j≠k:=fun g j D e=>by subst e;exact h6 hs g D
 have ndd:d≠d':=fun e=>by subst e;rw[hn] at G;cases G
 have ne:∀ {b z},Au h b=some z→b≠d':=fun A e=>by subst e;rw[hn] at A;cases A
 have get:∀ b,Au (G0 (G0 h d y) d' x') b=if b=d' then some x' else if b=d then some y else Au h b:=fun b=>by rw[Ai,Ai]
 have E:Ext J β h w J (fun b=>if b=d' then some (k,o') else β b) (G0 (G0 h d y) d' x') w':=by
  refine⟨fun _ _ D=>D,fun o j D=>O.other j (nj o j D),fun b z A=>?_,fun b j oo A=>?_⟩
  ·by_cases e:b=d
   ·have hb0:=A;subst e;rw[G] at A;simp at A;subst A;exact⟨y,⟨by rw[get,if_neg (ne hb0),if_pos rfl],hym⟩,.inl hy⟩
   ·refine⟨z,⟨by rw[get,if_neg (ne A),if_neg e];exact A,rfl⟩,?_⟩
    cases M:z.dead
    ·exact .inr ⟨rfl,by simp[ne A],rfl,fun _=>rfl⟩
    ·exact .inl rfl
  ·by_cases e:j=k
   ·subst e;rw[Hq O.old,Hq O.new,O.sz];exact Nat.le_refl _
   ·simp[Bt,O.other j e]
 have live:∀ {b z},Au (G0 (G0 h d y) d' x') b=some z→z.dead=false→(b=d'∧z=x')∨(b≠d'∧b≠d∧Au h b=some z):=by
  intro b z A hz
  rw[get] at A
  by_cases e:b=d'
  ·rw[if_pos e] at A;simp at A;exact .inl ⟨e,A.symm⟩
  ·rw[if_neg e] at A
   by_cases I:b=d
   ·rw[if_pos I] at A;simp at A;subst A;simp[hy] at hz
   ·rw[if_neg I] at A;exact .inr ⟨e,I,A⟩
 refine⟨E,⟨fun g j D=>by rw[O.size];exact S.jlt g j D,S.jft,fun b z A B hm=>?_,fun b z A B hm=>by
   rcases live A B with⟨rfl,rfl⟩ | ⟨e1,I,A⟩
   ·simp[hxm'] at hm
   ·exact(S.mblk b z A B hm).keep (by simp[e1]) (fun Y o2 C=>O.other Y (fun e=>by subst e;exact I (S.sep d b x z Y o o2 G A M B hs T C).symm)) (fun _ _ _ _ D=>D),?_⟩,O.os,O.tape,O.output,by rw[O.size];exact Nat.le_refl _,fun j D hm=>?_,?_,fun _ _ D=>.inl D⟩
 ·rcases live A B with⟨rfl,rfl⟩ | ⟨e1,I,A⟩
  ·refine .inr ⟨k,o',cs',ty,fr,by simp,O.new,?_,by rw[O.sz];exact hl,hc.ext E,fun _=>h6 hs,fun hh=>by simp[hs'] at hh⟩
   rw[O.sz];exact h3
  ·rcases S.blk b z A B hm with g1 | ⟨Y,o2,cs2,ty2,fr2,g1,g2,g3,g4,g5,g6,g7⟩
   ·exact .inl ⟨by simp[e1,g1.1],g1.2⟩
   ·have hne:Y≠k:=fun e=>by
     subst e;exact I (S.sep d b x z Y o o2 G A M B hs T g1).symm
    exact .inr ⟨Y,o2,cs2,ty2,fr2,by simp[e1,g1],by rw[O.other Y hne];exact g2,g3,g4,g5.ext E,g6,g7⟩
 ·intro b b' z z' kk oo oo' A hb' hd1 hd2 hs1 F C
  rcases live A hd1 with⟨e0,_⟩ | ⟨e1,I,hbb⟩<;>rcases live hb' hd2 with⟨e0',_⟩ | ⟨e3,e4,U⟩
  ·rw[e0,e0']
  ·simp[e0] at F;simp[e3] at C
   obtain⟨rfl,rfl⟩:=F
   exact absurd (S.sep d b' x z' k o oo' G U M hd2 hs T C).symm e4
  ·simp[e0'] at C;simp[e1] at F
   obtain⟨rfl,rfl⟩:=C
   exact absurd (S.sep d b x z k o oo G hbb M hd1 hs T F).symm I
  ·simp[e1] at F;simp[e3] at C
   exact S.sep b b' z z' kk oo oo' hbb U hd1 hd2 hs1 F C
 ·exact O.other j (fun e=>hm (by subst e;exact⟨d,x,o,G,M,hs,T⟩))
 ·rintro j ⟨b,z,oo,A,B,hsz,L⟩ D
  rcases live A B with⟨rfl,rfl⟩ | ⟨e1,I,A⟩
  ·simp at L;obtain⟨rfl,rfl⟩:=L
   exact⟨d,x,o,G,M,hs,T⟩
  ·simp[e1] at L;exact⟨b,z,oo,A,B,hsz,L⟩
end
end Gx

namespace Gx
open Go
theorem Cs:∀ (a b:If) (h:Am),At (a++b) h=At b (At a h)
 | [],_,_=>rfl
 | (_,some _)::r,b,h=>by simp only[List.cons_append,At];exact Cs r b _
 | (_,none)::r,b,h=>by simp only[List.cons_append,At];exact Cs r b _
def LooksS (g:B8) (h:Am):Prop:=∀ b x,g b=some x→∃ y,Au h b=some y∧{ y with sealed:=true }={ x with sealed:=true }
theorem Looks.s {g:B8} {h:Am} (k:Looks g h):LooksS g h:=fun b x A=>⟨x,k b x A,rfl⟩
section
variable {R:Type} {r:R} {P:Program} {J J':Bool→Nat→Prop} {β:C1} {h:Am} {w:World} {g:B8}
theorem LooksS.shutB (A:LooksS g h) {b:Nat} {x:Blk} (B:g b=some x):LooksS g (G0 h b { x with sealed:=true }):=by
 intro c y k
 rw[Ai]
 by_cases e:c=b
 ·subst e;rw[B] at k;simp at k;subst k
  exact⟨{ x with sealed:=true },by simp,rfl⟩
 ·rw[if_neg e];exact A c y k
theorem A1u (S:SimH J β h w) {b off n:Nat} {y:Blk} {v:Value} (T:Au h b=some y) (U:y.dead=false) (V:y.pure=true) (hr:Rep J β h w (.own b off n) v)
  (hJ:∀ k o,β b=some (k,o)→J' y.taint k) (F:∀ o k,J o k→J' o k) (t o:Bool):RepC (J' y.taint) w (.imm ((y.cells.drop off).take (n*y.sz)) n y.sz t o) v↔(t=true→∃ A cap,v=.slice A n cap∧cap=n):=by
 rw[Rep] at hr
 obtain⟨x,A,cap,⟨C,I⟩,rfl,B,hr⟩:=hr
 rw[T] at C;simp at C;subst C
 rw[RepC]
 constructor
 ·rintro⟨_,A',cap',L,_,M,_⟩ O
  exact⟨A',cap',L,M O⟩
 ·intro M
  have G:t=true→cap=n:=fun O=>by
   obtain⟨A',cap',L,hc⟩:=M O
   simp at L;omega
  rcases hr with hr | ⟨kk,oo,rfl,hr⟩
  ·have:n=0:=by omega
   subst this
   exact⟨by simp,A,cap,rfl,B,G,.inl rfl⟩
  ·rcases hr with hr | ⟨r1,r2,r3⟩
   ·simp[U] at hr
   ·rcases S.blk b y T U I with⟨hn,_⟩ | ⟨k',o',cs,ty,fr,D,Y,g2,g3,g4,g5,g6⟩
    ·rw[r1] at hn;simp at hn
    ·rw[r1] at D;simp at D;obtain⟨rfl,rfl⟩:=D
     refine⟨by simp;omega,_,cap,rfl,B,G,.inr ⟨_,rfl,hJ _ _ r1,?_⟩⟩
     have:=((g4.1 V).drop off).take (n*y.sz)
     refine RepCs.keep (fun k hk=>F _ k hk) (fun _ _=>rfl) (fun j=>?_) this
     rw[Addr.add_mid,Yg Y,Nat.add_assoc]
theorem A6m {b off n:Nat} {y:Blk} {v:Value} (C:Au h b=some y) (hr:Rep J β h w (.own b off n) v):y.mp=false:=by
 rw[Rep] at hr
 obtain⟨x,A,cap,⟨k,B⟩,_⟩:=hr
 rw[C] at k;simp at k;subst k;exact B
theorem A8r {b off:Nat} {y:Blk} {v:Value} (C:Au h b=some y) (hr:Rep J β h w (.optr b off) v):y.mp=false:=by
 rw[Rep] at hr
 obtain⟨x,k,o,⟨A,B⟩,_⟩:=hr
 rw[C] at A;simp at A;subst A;exact B
theorem a_ {v v':AV} {ups:If} {org:Bool} {vc:Value} (S:SimH J β h w) (I:LooksS g h) (D:iR g v=some (v',ups,org)) (F:Rep J β h w v vc) :
    ∃ J',Step J β h w J' β (At ups h) w∧RepC (J' org) w v' vc∧LooksS g (At ups h):=by
  unfold iR at D
  split at D
  · rename_i b off n
    obtain⟨x,C,T⟩:=ub D
    obtain⟨U,M⟩:=uc T
    simp at M
    obtain⟨rfl,rfl,rfl⟩:=M
    unfold Kh at C
    obtain⟨x0,G,C⟩:=ub C
    obtain⟨O,C⟩:=Axn C
    simp at C;subst C
    obtain⟨y,L,B⟩:=I b _ G
    have e1:y.cells=x0.cells:=by have:=congrArg Blk.cells B;simpa using this
    have V:y.sz=x0.sz:=by have:=congrArg Blk.sz B;simpa using this
    have e3:y.taint=x0.taint:=by have:=congrArg Blk.taint B;simpa using this
    have e4:y.dead=x0.dead:=by have:=congrArg Blk.dead B;simpa using this
    have Y:y.pure=x0.pure:=by have:=congrArg Blk.pure B;simpa using this
    have A:=Step.shutB S L (by rw[e4];exact O) (A6m L F)
    refine⟨_,by simp only[At];rw[←B];exact A,?_,by simp only[At];exact I.shutB G⟩
    have:=(A1u (J':=fun o k=>J o k∨∃ o',β b=some (k,o')∧(y.taint=true→o=true)) S L (by rw[e4];exact O) (by rw[Y];exact U) F (fun k o hβ=>.inr ⟨o,hβ,id⟩) (fun o k hj=>.inl hj) false x0.taint).2 (by simp)
    rw[e1,V,e3] at this
    rw[e3]
    exact this
  all_goals first
    | (simp at D;done)
    | (simp at D; obtain ⟨rfl, rfl, rfl⟩ := D
       refine⟨J,Step.refl S,?_,I⟩
       first
         | (rw[Rep] at F;exact F)
         | skip)
  · cases v
    case imm=>rename_i hi _ _;exact absurd rfl (hi _ _ _ _ _)
    case iptr=>rename_i hi _;exact absurd rfl (hi _ _)
    case pagg=>rename_i hi;exact absurd rfl (hi _ _)
    all_goals first | (rw[Rep] at F;rw[RepC];exact F) | simp_all
theorem T0:∀ {c c':List AV} {ups:If} {org:Bool} {cs:List Value} {J:Bool→Nat→Prop} {h:Am},SimH J β h w→LooksS g h→EG g c=some (c',ups,org)→Reps J β h w c cs →
  ∃ J',Step J β h w J' β (At ups h) w∧RepCs (J' org) w c' (fun j=>cs[j]?) 0∧c'.length=cs.length∧LooksS g (At ups h)
 | [],c',ups,org,cs,J,h,S,I,D,F=>by
  simp[EG] at D;obtain⟨rfl,rfl,rfl⟩:=D
  rw[Reps] at F;subst F
  exact⟨J,Step.refl S,by simp[RepCs],rfl,I⟩
 | v::r,c',ups,org,cs,J,h,S,I,D,F=>by
  rw[EG] at D
  obtain⟨⟨v1,u1,o1⟩,Y,h1⟩:=ub D
  obtain⟨⟨r2,u2,o2⟩,hq,U⟩:=ub h1
  simp at U
  obtain⟨rfl,rfl,rfl⟩:=U
  rw[Reps] at F
  obtain⟨u,us,rfl,L,M⟩:=F
  obtain⟨J1,A,hA,O⟩:=a_ S I Y L
  obtain⟨J2,B,hB,G,T⟩:=T0 A.sim O hq (Reps.ext A.ext M)
  refine⟨J2,by rw[Cs];exact A.trans B (fun _ _ _ _=>Nat.le_refl _),?_,by simp[G],by rw[Cs];exact T⟩
  have mono:∀ {a b:Bool} (k:Nat),J2 a k→J2 (a||b) k:=fun {a b} k C=>by
   cases a
   ·cases b
    ·exact C
    ·exact B.sim.jft k C
   ·exact C
  have mono':∀ {a b:Bool} (k:Nat),J2 b k→J2 (a||b) k:=fun {a b} k C=>by rw[Bool.or_comm];exact mono k C
  rw[RepCs]
  refine⟨⟨u,by simp,?_⟩,?_⟩
  ·exact RepC.keep (J:=J1 o1) (fun k C=>mono k (B.ext.jsub _ k C)) (fun _ _=>rfl) hA
  ·have:=RepCs.keep (J':=J2 (o1||o2)) (w':=w) (fun k C=>mono' k C) (fun _ _=>rfl) (rd':=fun j=>us[j]?) (fun _=>rfl) hB
   rw[Cw] at this ⊢
   intro j x hj
   have V:=this j x hj
   simp only[Nat.zero_add] at V
   rw[show 1+j=j+1 by omega]
   simpa using V
theorem WE {v:AV} {c':List AV} {ups:If} {org:Bool} {vc:Value} (S:SimH J β h w) (F:LooksS g h) (B:DP g v=some (c',ups,org)) (C:Rep J β h w v vc) :
  ∃ J',Step J β h w J' β (At ups h) w∧RepCs (J' org) w c' (fun j=>vc.cells.toList[j]?) 0∧c'.length=vc.cells.toList.length∧LooksS g (At ups h):=by
 unfold DP at B
 split at B
 ·rename_i c org'
  simp at B;obtain⟨rfl,rfl,rfl⟩:=B
  rw[Rep] at C
  obtain⟨cs,rfl,L,D⟩:=C
  exact⟨J,Step.refl S,D,by simp[Value.cells,L],F⟩
 ·rename_i c
  rw[Rep] at C
  obtain⟨cs,rfl,D⟩:=C
  exact T0 S F B D
 ·rename_i v L D
  obtain⟨J',A,hA,k,G⟩:=T0 (cs:=[vc]) S F B (by rw[Reps];exact⟨vc,[],rfl,C,by rw[Reps]⟩)
  have U:vc.oneCell'=true:=by
   have I:c'.length=1:=k
   cases M:c' with
   | nil=>simp[M] at I
   | cons x r =>
    obtain⟨u,O,hr⟩:=hA.at (j:=0) (x:=x) (by simp[M])
    simp at O;subst O
    exact nX hr
  have T:vc.cells=#[vc]:=by cases vc<;>simp_all[Value.cells,Value.oneCell']
  rw[T]
  exact⟨J',A,hA,k,G⟩
end
end Gx

namespace Gx
open Go
theorem C9:∀ (ups:If) (h:Am) (b:Nat),Bh ups b=false→Au (At ups h) b=Au h b
 | [],_,_,_=>rfl
 | (i,some x)::r,h,b,hi=>by
  rw[Bh] at hi
  cases k:Nat.beq i b with
  | true=>rw[k] at hi;simp at hi
  | false =>
   rw[k] at hi
   rw[At,C9 r _ b hi,Ai,if_neg (fun e=>AN k e.symm)]
 | (i,none)::r,h,b,hi=>by
  rw[Bh] at hi
  cases k:Nat.beq i b with
  | true=>rw[k] at hi;simp at hi
  | false =>
   rw[k] at hi
   rw[At,C9 r _ b hi]
   split
   ·rw[Ai,if_neg (fun e=>AN k e.symm)]
   ·rfl
theorem lP {c vs:List AV} {off:Nat} (B:off+vs.length≤c.length) (j:Nat):(Cr c off vs)[j]?=if off≤j∧j<off+vs.length then vs[j - off]? else c[j]?:=by
 unfold Cr
 rw[List.append_assoc,List.getElem?_append]
 simp only[List.length_take,Nat.min_eq_left (show off≤c.length by omega)]
 by_cases k:j<off
 ·rw[if_pos k,if_neg (by omega),List.getElem?_take,if_pos k]
 ·rw[if_neg k,List.getElem?_append]
  by_cases A:j - off<vs.length
  ·rw[if_pos A,if_pos (by omega)]
  ·rw[if_neg A,if_neg (by omega),List.getElem?_drop];congr 1;omega
theorem ML {c vs:List AV} {off:Nat} (k:off+vs.length≤c.length):(Cr c off vs).length=c.length:=by
 unfold Cr;simp;omega
theorem SM {c vs:List AV} {off:Nat} (k:off+vs.length≤c.length) (j:Nat):(setCells c off vs)[j]?=if off≤j∧j<off+vs.length then vs[j - off]? else c[j]?:=by
 unfold setCells
 split
 ·rename_i y
  simp at k
  rw[List.getElem?_set]
  by_cases e:off=j
  ·subst e;simp;omega
  ·rw[if_neg e,if_neg (by simp;omega)]
 ·exact lP k j
theorem Rq {c vs:List AV} {off:Nat} (k:off+vs.length≤c.length):(setCells c off vs).length=c.length:=by
 unfold setCells
 split
 ·simp
 ·exact ML k
section
variable {R:Type} {r:R} {P:Program} {J J':Bool→Nat→Prop} {β:C1} {h:Am} {w w':World} {g:B8}
theorem T1 {v:AV} {vc:Value} (hs:NM g v=true) (B:Rep J β h w v vc):vc.oneCell'=true:=by
 cases v<;>simp[NM] at hs
 case own=>rw[Rep] at B;obtain⟨x,A,cap,_,rfl,_⟩:=B;rfl
 case optr=>rw[Rep] at B;obtain⟨x,k,o,_,rfl,_⟩:=B;rfl
 case fn=>rw[Rep] at B;obtain⟨cs,rfl,_⟩:=B;rfl
 case imm=>rw[Rep,RepC] at B;obtain⟨_,A,cap,rfl,_⟩:=B;rfl
 case iptr=>rw[Rep,RepC] at B;obtain⟨a,rfl,_⟩:=B;rfl
 all_goals (rw[Rep] at B;subst B;rfl)
theorem SN:∀ {c:List AV},S8 g c=true→∀ (j:Nat) (x:AV),c[j]?=some x→NM g x=true
 | [],_,j,x,k=>by simp at k
 | v::r,hs,j,x,k=>by
  rw[S8] at hs;simp at hs
  cases j with
  | zero=>simp at k;subst k;exact hs.1
  | succ j=>exact SN hs.2 j x (by simpa using k)
theorem Axp {k:Nat} {cs cs':Array Value} {ty:TypeId} {fr:Nat×Nat} (O:OnlyBlk w w' k cs cs' ty fr):∀ j,Bt w j≤Bt w' j:=fun j=>by
 by_cases e:j=k
 ·subst e;rw[Hq O.old,Hq O.new,O.sz];exact Nat.le_refl _
 ·simp[Bt,O.other j e]
theorem bA {t:TypeId} {k o:Nat} {vc:Value} {cs:Array Value} {ty:TypeId} {fr:Nat×Nat} (C:w.heap[k]?=some (.cells cs ty fr)) (D:FrOk cs.size fr)
  (hs:C5 P t=some vc.cells.toList.length) (F:o+vc.cells.toList.length≤cs.size) (G:∀ u ∈ vc.cells.toList,u.oneCell'=true) :
  (Instr.storeAt t (.pointer (some ⟨k,o,none⟩)) vc).run P w=.ok () (w.setCells k o vc.cells.toList):=by
 have A:=run_storeCells_cells (P:=P) k o vc.cells.toList 0 w (fun j I=>by
   rw[Nat.add_zero,Yg C];simp;omega)
  (fun j I=>by
   rw[Nat.add_zero];simp only[World.frozen?,C]
   have:=D.at (o+j) (by omega)
   cases fr;simp at this ⊢;omega) G
 simp only[Nat.add_zero] at A
 have B:=Dx hs w
 simp only[Array.length_toList] at B
 simp[Instr.storeAt,Instr.sureAddr,storeVar,B,A]
theorem Apa {t:TypeId} {p v:AV} {vp vv:Value} {k:AV→If→Option R} (S:SimH J β h w) (hl:Looks g h) (hh:ro P g t p v k=some r) (hp:Rep J β h w p vp) (hv:Rep J β h w v vv) :
  ∃ val ups,k val ups=some r∧∃ J' β' w',(Instr.storeAt t vp vv).run P w=.ok () w'∧Step J β h w J' β' (At ups h) w'∧val=.undef:=by
 unfold ro at hh
 split at hh
 ·rename_i b off
  obtain⟨x,hx,h1⟩:=ub hh
  obtain⟨n,hn,h2⟩:=ub h1
  obtain⟨hs,h3⟩:=Axn h2
  obtain⟨hb,hd⟩:=M7 hl hx
  have M:=A8r hb hp
  cases hpu:x.pure with
  | true =>
   rw[hpu] at h3
   obtain⟨⟨c',u1,org⟩,hq,h4⟩:=ub h3
   obtain⟨G,h5⟩:=uc h4
   simp at G
   obtain⟨T,U,hc3⟩:=G
   obtain⟨J1,A,hA,I,_⟩:=WE S hl.s hq hv
   have hb1:Au (At u1 h) b=some x:=by rw[C9 _ _ _ hc3];exact hb
   obtain⟨kk,o,cs,ty,fr,hβ,rfl,F,hf,hle,hcr,_,_⟩:=Ao6 A.sim hb1 hd (Rep.ext A.ext hp)
   obtain⟨cs',O,hO⟩:=OnlyBlk.setCells (k:=kk) vv.cells.toList (o+off) w cs F
   have V:off+c'.length≤x.cells.length:=by omega
   have hone:=RepCs.one hA I.symm
   have B:=Step.set (x':={ x with pure:=true,cells:=setCells x.cells off c',taint:=x.taint||org }) A.sim hb1 hd hs hβ O hd hs rfl (Rq V) (by
    refine⟨fun _=>?_,fun hh=>by simp at hh⟩
    have hold:=hcr.1 hpu
    rw[Cw]
    intro j y C
    simp only[SM V] at C
    simp only[Nat.zero_add]
    have mono:∀ {a b:Bool} (k:Nat),J1 a k→J1 (a||b) k:=fun {a b} k F=>by
     cases a
     ·cases b
      ·exact F
      ·exact A.sim.jft k F
     ·exact F
    split at C
    ·rename_i hj'
     obtain⟨u,Y,hr⟩:=hA.at C
     refine⟨u,?_,RepC.keep (J:=J1 org) (fun k F=>by rw[Bool.or_comm];exact mono k F) (fun _ _=>rfl) hr⟩
     rw[hO,if_pos (by omega),←Y];congr 1;omega
    ·rename_i hj'
     obtain⟨u,Y,hr⟩:=hold.at C
     refine⟨u,?_,RepC.keep (J:=J1 x.taint) (fun k F=>mono k F) (fun _ _=>rfl) hr⟩
     rw[hO,if_neg (by omega)];exact Y)
   refine⟨_,_,h5,J1,β,_,bA F hf (by rw[←I,T];exact hn) (by omega) hone,?_,rfl⟩
   rw[Cs]
   exact A.trans (B M) (fun _ k _ _=>Axp O k)
  | false =>
   rw[hpu] at h3
   obtain⟨kk,o,cs,ty,fr,hβ,rfl,F,hf,hle,hcr,_,_⟩:=Ao6 S hb hd hp
   have go:∀ (c:List AV) (cells':List AV),(∀ (j:Nat) (y:AV),c[j]?=some y→∃ u,vv.cells.toList[j]?=some u∧Rep J β h w y u∧u.oneCell'=true)→c.length=vv.cells.toList.length→c.length=n→off+c.length≤x.cells.length →
     cells'.length=x.cells.length→(∀ j:Nat,cells'[j]?=if off≤j∧j<off+c.length then c[j - off]? else x.cells[j]?) →
     ∃ J' β' w',(Instr.storeAt t (.pointer (some ⟨kk,o+off,none⟩)) vv).run P w=.ok () w'∧Step J β h w J' β' (At [(b,some { x with pure:=false,cells:=cells' })] h) w':=by
    intro c cells' G I hcn hoff hcl hget'
    obtain⟨cs',O,hO⟩:=OnlyBlk.setCells (k:=kk) vv.cells.toList (o+off) w cs F
    have B:=Step.set (x':={ x with pure:=false,cells:=cells' }) S hb hd hs hβ O hd hs rfl hcl (by
     refine⟨fun hh=>by simp at hh,fun _ j y C=>?_⟩
     simp only[hget'] at C
     split at C
     ·rename_i hj'
      obtain⟨u,Y,hr,ho⟩:=G _ _ C
      refine⟨u,?_,hr,ho⟩
      show cs'[o+j]?=some u
      rw[hO,if_pos (by omega),←Y];congr 1;omega
     ·rename_i hj'
      obtain⟨u,Y,hr⟩:=hcr.2 hpu j y C
      refine⟨u,?_,hr⟩
      show cs'[o+j]?=some u
      rw[hO,if_neg (by omega)];exact Y)
    refine⟨J,β,_,bA F hf (by rw[hn,←hcn,I]) (by omega) (fun u Y=>?_),B M⟩
    obtain⟨j,C,rfl⟩:=List.getElem_of_mem Y
    obtain⟨u',hu',_,ho⟩:=G j c[j] (List.getElem?_eq_getElem (by omega))
    rw[List.getElem?_eq_getElem C] at hu';simp only[Option.some.injEq] at hu';rw[hu'];exact ho
   simp only[cond_false] at h3
   split at h3
   ·rename_i c
    obtain⟨G,h5⟩:=uc h3
    simp at G
    obtain⟨T,U,hc3⟩:=G
    rw[Rep] at hv
    obtain⟨us,rfl,D⟩:=hv
    rw[C2] at D
    obtain⟨J',β',w',g1,g2⟩:=go c (Cr x.cells off c) (fun j y C=>by
      have hlt:j<us.length:=by rw[D.1];exact(List.getElem?_eq_some_iff.1 C).1
      refine⟨us[j],by simp[Value.cells,List.getElem?_eq_getElem hlt],D.2 j y _ C (List.getElem?_eq_getElem hlt),T1 (SN T j y C) (D.2 j y _ C (List.getElem?_eq_getElem hlt))⟩)
     (by simp[Value.cells,D.1]) U (by omega) (ML (by omega)) (lP (by omega))
    exact⟨_,_,h5,J',β',w',g1,g2,rfl⟩
   ·rename_i c org
    obtain⟨G,h5⟩:=uc h3
    simp at G
    obtain⟨rfl,U,hc3⟩:=G
    rw[Rep] at hv
    obtain⟨us,rfl,D,hrc⟩:=hv
    obtain⟨cs',O,hO⟩:=OnlyBlk.setCells (k:=kk) us (o+0) w cs F
    have B:=Step.set (x':={ x with pure:=true,taint:=org,cells:=c }) S hb hd hs hβ O hd hs rfl (by simp;omega) (by
     refine⟨fun _=>?_,fun hh=>by simp at hh⟩
     rw[Cw]
     intro j y C
     obtain⟨u,Y,hr⟩:=hrc.at C
     have hlt:j<us.length:=by rw[D];exact(List.getElem?_eq_some_iff.1 C).1
     refine⟨u,?_,hr⟩
     show cs'[o+(0+j)]?=some u
     rw[hO,if_pos (by omega),←Y];congr 1;omega)
    exact⟨_,_,h5,J,β,_,bA (vc:=.agg ⟨us⟩) F hf (by simp[Value.cells];rw[D,U];exact hn) (by simp[Value.cells];omega) (by simpa[Value.cells] using RepCs.one hrc D),B M,rfl⟩
   ·rename_i hna
    obtain⟨G,h5⟩:=uc h3
    simp at G
    obtain⟨T,U,hc3⟩:=G
    have ho:=T1 T hv
    have L:vv.cells=#[vv]:=by cases vv<;>simp_all[Value.cells,Value.oneCell']
    obtain⟨J',β',w',g1,g2⟩:=go [v] (x.cells.set off v) (fun j y C=>by
      cases j with
      | zero=>simp at C;subst C;exact⟨vv,by simp[L],hv,ho⟩
      | succ j=>simp at C) (by simp[L]) (by simp;omega) (by simp;omega) (by simp) (fun j=>by
      have:=SM (c:=x.cells) (vs:=[v]) (off:=off) (by simp;omega) j
      simpa[setCells] using this)
    exact⟨_,_,h5,J',β',w',g1,g2,rfl⟩
 ·simp at hh
end
end Gx

namespace Gx
open Go
section
variable {R:Type} {r:R} {P:Program} {J J':Bool→Nat→Prop} {β:C1} {h:Am} {w w':World} {g:B8}
theorem All {v v':AV} {ups:If} {org:Bool} (k:iR g v=some (v',ups,org)) (b:Nat) (C:Bh ups b=true):∃ x,g b=some x:=by
 unfold iR at k
 split at k
 ·rename_i b' off n
  obtain⟨x,A,F⟩:=ub k
  obtain⟨G,D⟩:=uc F
  simp at D
  obtain⟨rfl,rfl,rfl⟩:=D
  unfold Kh at A
  obtain⟨x0,B,A⟩:=ub A
  have:b'=b:=by
   cases e:Nat.beq b' b with
   | true=>exact Nat.eq_of_beq_eq_true e
   | false=>simp[Bh,e] at C
  subst this;exact⟨x0,B⟩
 all_goals first
  | (simp at k;done)
  | (simp at k;obtain⟨rfl,rfl,rfl⟩:=k;simp[Bh] at C)
theorem Pv:∀ (a b:If) (c:Nat),Bh (a++b) c=(Bh a c||Bh b c)
 | [],_,_=>by simp[Bh]
 | (i,_)::r,b,c=>by
  rw[List.cons_append,Bh,Bh,Pv r b c]
  cases Nat.beq i c<;>simp
theorem EM:∀ {c c':List AV} {ups:If} {org:Bool},EG g c=some (c',ups,org)→∀ b,Bh ups b=true→∃ x,g b=some x
 | [],c',ups,org,k,b,A=>by simp[EG] at k;obtain⟨rfl,rfl,rfl⟩:=k;simp[Bh] at A
 | v::r,c',ups,org,k,b,A=>by
  rw[EG] at k
  obtain⟨⟨v1,u1,o1⟩,D,F⟩:=ub k
  obtain⟨⟨I,u2,o2⟩,G,B⟩:=ub F
  simp at B
  obtain⟨rfl,rfl,rfl⟩:=B
  rw[Pv] at A
  cases C:Bh u1 b with
  | true=>exact All D b C
  | false=>rw[C] at A;exact EM G b (by simpa using A)
theorem Aio {v:AV} {c':List AV} {ups:If} {org:Bool} (k:DP g v=some (c',ups,org)) (b:Nat) (A:Bh ups b=true):∃ x,g b=some x:=by
 unfold DP at k
 split at k
 ·simp at k;obtain⟨rfl,rfl,rfl⟩:=k;simp[Bh] at A
 ·exact EM k b A
 ·exact EM k b A
theorem A1v {ups:If} {d:Nat} (k:Looks g h) (A:∀ b,Bh ups b=true→∃ x,g b=some x) (hn:Au h (nid d)=none):Au (At ups h) (nid d)=none:=by
 rw[C9]
 ·exact hn
 ·cases B:Bh ups (nid d) with
  | false=>rfl
  | true =>
   obtain⟨x,C⟩:=A _ B
   rw[k _ _ C] at hn;cases hn
def OpDone (J:Bool→Nat→Prop) (β:C1) (h:Am) (w:World) (ups:If) (val:AV) (vc:Value) (w':World):Prop :=
 ∃ J' β',Step J β h w J' β' (At ups h) w'∧Rep J' β' (At ups h) w' val vc
def UpsFree (d:Nat) (h:Am) (ups:If):Prop:=∀ b,Bh ups b=true→WC d b=true→Au h b=none
theorem UpsFree.nid {d:Nat} {h:Am} {ups:If} (k:UpsFree d h ups) (hi:Bh ups (nid d)=true):Au h (nid d)=none:=k _ hi (by
 have A:Nat.ble (Gx.nid d) (Gx.nid d)=true:=by simp
 have B:Nat.blt (Gx.nid d) (Gx.nid d+16)=true:=by simp
 rw[WC,A,B];rfl)
theorem nY {d:Nat} {x:Blk} {cs:Array Value} {ty:TypeId} (S:SimH J β h w) (hn:Au h (nid d)=none) (C:x.dead=false) (hs:x.sealed=false) (k:x.cells.length≤cs.size) (D:CellsRep J β h w x (fun j=>cs[j]?)) (B:x.mp=false:=by rfl) :
  OpDone J β h w [(nid d,some x)] (.optr (nid d) 0) (.pointer (some ⟨w.heap.size,0,none⟩)) (w.alloc (.cells cs ty)):=by
 have A:=Step.new (ty:=ty) (fr:=(0,0)) S hn C hs (.inl rfl) k D B
 refine⟨_,_,A,?_⟩
 rw[Rep]
 exact⟨x,w.heap.size,0,⟨by simp[At,Ai],B⟩,rfl,.inr (by simp)⟩
theorem OpDone.after {ups ups':If} {val:AV} {vc:Value} {J1:Bool→Nat→Prop} {β1:C1} {C:World} (A:Step J β h w J1 β1 (At ups h) C) (B:OpDone J1 β1 (At ups h) C ups' val vc w')
  (hs:∀ k,Bt w k≤Bt w' k):OpDone J β h w (ups++ups') val vc w':=by
 obtain⟨J2,β2,B1,B2⟩:=B
 exact⟨J2,β2,by rw[Cs];exact A.trans B1 (fun _ k _ _=>hs k),by rw[Cs];exact B2⟩
theorem V5 (w:World) (o:Obj):∀ k,Bt w k≤Bt (w.alloc o) k:=fun k=>by
 by_cases A:k<w.heap.size
 ·simp[Bt,D1 w _ A]
 ·simp[Bt,Array.getElem?_eq_none (Nat.le_of_not_lt A)]
theorem ft {t:TypeId} {vc:Value}:(Instr.box t vc).run P w=.ok (.pointer (some ⟨w.heap.size,0,none⟩)) (w.alloc (.cells vc.cells t)):=by
 simp[Instr.box,newVar,newRow]
theorem uQ {c:List AV} {org:Bool} {cs:List Value} (I:RepCs (J org) w c (fun j=>cs[j]?) 0):∀ {L:List (Nat×TypeId)} {acc:List AV} {k:List AV→Option R},nO P c org L acc k=some r →
  (∀ (j:Nat) x,acc[j]?=some x→∃ u,cs[j]?=some u∧Rep J β h w x u)→∃ l:List AV,k l=some r∧∀ (j:Nat) x,l[j]?=some x→∃ u,cs[j]?=some u∧Rep J β h w x u
 | [],acc,k,B,C=>⟨acc,B,C⟩
 | (off,t)::L,acc,k,B,C=>by
  rw[nO] at B
  obtain⟨D,S⟩:=uc B
  simp at D
  obtain⟨v,T,U⟩:=Yf (β:=β) (h:=h) S (I.drop off)
  refine uQ I T (fun j x A=>?_)
  rw[List.getElem?_append] at A
  split at A
  ·exact C j x A
  ·have F:j=acc.length:=by
    have:=(List.getElem?_eq_some_iff.1 A).1
    simp at this;omega
   subst F
   simp at A;subst A
   rcases U with⟨d,M,V,u,O,Y⟩ | ⟨d,M,V,_⟩
   ·refine⟨u,?_,Y⟩
    rw[D.1] at O;simpa using O
   ·exfalso
    have G:=D.2
    unfold A6i at G
    rw[M] at G
    split at G<;>simp_all[TypeDesc.isRow]
theorem Apb {co:Bool} {t:TypeId} {v:AV} {vv:Value} {k:AV→Option R} (B:rs P co t v k=some r) (C:Rep J β h w v vv):∃ v',k v'=some r∧Rep J β h w v' vv:=by
 unfold rs at B
 split at B
 ·rename_i c org
  rw[Rep] at C
  obtain⟨cs,rfl,T,D⟩:=C
  obtain⟨l,F,G⟩:=uQ (β:=β) (h:=h) D B (fun j x I=>by simp at I)
  obtain⟨L,M⟩:=uc F
  simp at L
  refine⟨_,M,?_⟩
  rw[Rep]
  refine⟨cs,rfl,C2.2 ⟨by omega,fun j x u O S=>?_⟩⟩
  obtain⟨u',A,hr⟩:=G j x O
  rw[S] at A;simp at A;subst A;exact hr
 ·exact⟨_,B,C⟩
theorem zo {d:Nat} {t:TypeId} {v:AV} {vv:Value} {k:AV→If→Option R} (S:SimH J β h w) (U:Looks g h) (C:Asv P g d t v k=some r) (G:Rep J β h w v vv) :
  ∃ val ups,k val ups=some r∧(UpsFree d h ups→∃ vc w',(Instr.box t vv).run P w=.ok vc w'∧OpDone J β h w ups val vc w'):=by
 unfold Asv at C
 split at C
 ·rename_i c org
  refine⟨_,_,C,fun hn=>⟨_,_,ft,?_⟩⟩
  replace hn:=hn.nid (by simp[Qm,Bh])
  rw[Rep] at G
  obtain⟨cs,rfl,T,D⟩:=G
  exact nY S hn rfl rfl (by simp[Value.cells,T]) ⟨fun _=>by simpa[Value.cells] using D,fun F=>by simp at F⟩
 ·rename_i c
  cases F:A1l P t with
  | true =>
   rw[F] at C
   obtain⟨L,C⟩:=uc C
   refine⟨_,_,C,fun hn=>⟨_,_,ft,?_⟩⟩
   replace hn:=hn.nid (by simp[Qm,Bh])
   rw[Rep] at G
   obtain⟨cs,rfl,D⟩:=G
   rw[C2] at D
   refine nY S hn rfl rfl (by simp[Value.cells,D.1]) ⟨fun F=>by simp at F,fun _ j y I=>?_⟩
   have M:j<cs.length:=by rw[D.1];exact(List.getElem?_eq_some_iff.1 I).1
   exact⟨cs[j],by simp[Value.cells,M],D.2 j y _ I (List.getElem?_eq_getElem M),T1 (SN L j y I) (D.2 j y _ I (List.getElem?_eq_getElem M))⟩
  | false =>
   rw[F] at C
   obtain⟨⟨c',u1,o1⟩,V,T⟩:=ub C
   refine⟨_,_,T,fun hn=>⟨_,_,ft,?_⟩⟩
   replace hn:=hn.nid (by simp[Pv,Qm,Bh])
   rw[Rep] at G
   obtain⟨cs,rfl,D⟩:=G
   obtain⟨J1,A,hA,O,_⟩:=T0 S U.s V D
   refine OpDone.after A (nY A.sim (A1v U (EM V) hn) rfl rfl (by simp[Value.cells,O]) ⟨fun _=>?_,fun F=>by simp at F⟩) (V5 _ _)
   simpa[Value.cells] using hA
 ·rename_i v T D
  obtain⟨L,C⟩:=uc C
  refine⟨_,_,C,fun hn=>⟨_,_,ft,?_⟩⟩
  replace hn:=hn.nid (by simp[Qm,Bh])
  have Y:=T1 L G
  have B:vv.cells=#[vv]:=by cases vv<;>simp_all[Value.cells,Value.oneCell']
  refine nY S hn rfl rfl (by simp[B]) ⟨fun F=>by simp at F,fun _ j y I=>?_⟩
  cases j with
  | zero=>simp at I;subst I;exact⟨vv,by simp[B],G,Y⟩
  | succ j=>simp at I
end
end Gx

namespace Gx
open Go
theorem Apc (z:List AV):∀ (l j:Nat),j<l*z.length→(Ki l z)[j]?=z[j%z.length]?:=by
 have flat:∀ (l j:Nat),j<l*z.length→((List.replicate l z).flatten)[j]?=z[j%z.length]?:=by
  intro l
  induction l with
  | zero=>intro j k;simp at k
  | succ l B =>
   intro j k
   rw[List.replicate_succ,List.flatten_cons,List.getElem?_append]
   by_cases A:j<z.length
   ·rw[if_pos A,Nat.mod_eq_of_lt A]
   ·rw[if_neg A,B _ (by rw[Nat.succ_mul] at k;omega)]
    rw[Nat.mod_eq_sub_mod (a:=j) (by omega)]
 intro l j k
 unfold Ki
 split
 ·rename_i v
  simp at k
  simp[k,Nat.mod_one]
 ·exact flat l j k
theorem Iq (l:Nat) (z:List AV):(Ki l z).length=l*z.length:=by
 unfold Ki
 split
 ·simp
 ·simp
section
variable {R:Type} {r:R} {P:Program} {J J':Bool→Nat→Prop} {β:C1} {h:Am} {w w':World} {g:B8}
theorem lQ {J:Nat→Prop}:∀ {cs:List Value},Bd (Qx cs)=true→∀ (j:Nat) (u:Value),cs[j]?=some u→∃ x,(Qx cs)[j]?=some x∧RepC J w x u
 | [],_,j,u,k=>by simp at k
 | v::r,A,j,u,k=>by
  have key:∃ x,uE v=x∧Bd (Qx r)=true∧RepC J w x v:=by
   rw[Qx] at A
   have hr:=fk (J:=fun _=>J) (β:=fun _=>none) (h:=[]) (w:=w) v
   cases B:uE v<;>rw[B] at A hr<;>simp[Bd] at A<;>refine⟨_,rfl,A,?_⟩<;>(rw[Rep] at hr;rw[RepC];exact hr)
  obtain⟨x,B,C,hr⟩:=key
  cases j with
  | zero=>simp at k;subst k;exact⟨x,by simp[Qx,B],hr⟩
  | succ j =>
   obtain⟨y,D,F⟩:=lQ (J:=J) (cs:=r) C j u (by simpa using k)
   exact⟨y,by simpa[Qx] using D,F⟩
theorem IP:∀ cs:List Value,(Qx cs).length=cs.length
 | []=>rfl
 | v::r=>by simp[Qx,IP r]
theorem EN {t:TypeId} {z:List AV} (A:uF P t=some z):∃ i v,P.info? t=some i∧i.zero=some v∧z=Qx v.cells.toList∧Bd z=true∧v.cells.size=i.size∧z.length=i.size:=by
 unfold uF at A
 obtain⟨i,hi,C⟩:=ub A
 obtain⟨v,D,F⟩:=ub C
 obtain⟨k,B⟩:=uc F
 simp at B k
 subst B
 exact⟨i,v,hi,D,rfl,k.1,by simpa using k.2,by rw[IP];simpa using k.2⟩
theorem lR {J:Nat→Prop} {v:Value} (I:Bd (Qx v.cells.toList)=true) (l n:Nat) (M:l*v.cells.size≤n) :
  RepCs J w (Ki l (Qx v.cells.toList)) (fun j=>(madeCells v.cells n)[j]?) 0:=by
 rw[Cw]
 intro j x C
 have A:(Qx v.cells.toList).length=v.cells.size:=by rw[IP];simp
 have k:j<l*(Qx v.cells.toList).length:=by
  have:=(List.getElem?_eq_some_iff.1 C).1
  rwa [Iq] at this
 rw[Apc _ _ _ k] at C
 rw[A] at C k
 have B:0<v.cells.size:=by
  rcases Nat.eq_zero_or_pos v.cells.size with D | D
  ·rw[D] at k;simp at k
  ·exact D
 have G:j%v.cells.size<v.cells.size:=Nat.mod_lt _ B
 obtain⟨y,F,L⟩:=lQ (w:=w) (J:=J) I (j%v.cells.size) v.cells[j%v.cells.size] (by simp[G])
 rw[C] at F;simp at F;subst F
 refine⟨_,?_,L⟩
 have:j<n:=by omega
 simp[madeCells,this,getElem!_pos,G]
theorem nZ {d n cap sz:Nat} {x:Blk} {cs:Array Value} {ty:TypeId} {fr:Nat×Nat} (S:SimH J β h w) (hn:Au h (nid d)=none) (L:x.dead=false) (hs:x.sealed=false) (G:x.sz=sz)
  (F:FrOk cs.size fr) (k:x.cells.length=n*sz) (I:cap*sz≤cs.size) (B:n≤cap) (M:CellsRep J β h w x (fun j=>cs[j]?)) (C:x.mp=false:=by rfl) :
  OpDone J β h w [(nid d,some x)] (.own (nid d) 0 n) (.slice (some ⟨w.heap.size,0,none⟩) n cap) (w.alloc (.cells cs ty fr)):=by
 have O:n*sz≤cap*sz:=Nat.mul_le_mul_right _ B
 have A:=Step.new (ty:=ty) (fr:=fr) S hn L hs F (by omega) M C
 refine⟨_,_,A,?_⟩
 rw[Rep]
 refine⟨x,_,cap,⟨by simp[At,Ai],C⟩,rfl,B,.inr ⟨w.heap.size,0,rfl,.inr ⟨by simp,?_,by rw[G,k];omega⟩⟩⟩
 have D:(w.alloc (.cells cs ty fr)).heap[w.heap.size]?=some (.cells cs ty fr):=by show(w.heap.push _)[_]?=_;simp
 rw[Hq D,G];omega
theorem As1 {d:Nat} {t:TypeId} {l c:AV} {vl vc:Value} {k:AV→If→Option R} (S:SimH J β h w) (B:Alc P d t l c k=some r) (G:Rep J β h w l vl) (I:Rep J β h w c vc) :
  ∃ val ups,k val ups=some r∧(UpsFree d h ups→∃ u w',(Instr.makeSlice t vl vc).run P w=.ok u w'∧OpDone J β h w ups val u w'):=by
 unfold Alc at B
 split at B
 ·rename_i el l c O
  obtain⟨sz,hs,T⟩:=ub B
  obtain⟨by_,L,U⟩:=ub T
  obtain⟨z,V,Y⟩:=ub U
  obtain⟨M,h4⟩:=uc Y
  simp at M
  obtain⟨q1,q2,q3,q4⟩:=M
  rw[Rep] at G I;subst G I
  obtain⟨i,v,hi,hv,rfl,C,e1,e2⟩:=EN V
  have A:i.size=sz:=by simp[C5,hi] at hs;exact hs
  have D:i.bytes=by_:=by simp[Aou,hi] at L;exact L
  have F:Bh (Qm d true false sz (Ki l.toNat (Qx v.cells.toList))) (nid d)=true:=by simp[Qm,Bh]
  refine⟨_,_,h4,fun hn=>⟨_,_,run_make w t el i v O hi hv _ _ l c q1 q2 (by rw[D,Int.mul_comm];omega) (by omega),?_⟩⟩
  refine nZ (sz:=sz) S (hn.nid F) rfl rfl rfl (.inl rfl) ?_ (by rw[size_madeCells,A];exact Nat.le_refl _) (by omega) ⟨fun _=>?_,fun C=>by simp at C⟩
  ·show(Ki l.toNat (Qx v.cells.toList)).length=_
   rw[Iq,e2,A]
  ·exact lR C _ _ (by rw[e1];exact Nat.mul_le_mul_right _ (by omega))
 ·simp at B
theorem Yield.src {sz n:Nat} {tx:TypeId} {vx:Value} {us:List Value} (Y:Yield P w sz vx n us) (k:Ao0 P tx=true) (B:∀ u ∈ us,u.oneCell'=true):Src P sz tx vx n us w:=by
 refine⟨?_,Y.len,?_,?_,Y.length,B⟩
 ·unfold Ao0 at k
  split at k
  ·rename_i e A;exact .inl ⟨e,A⟩
  ·rename_i A;exact .inr A
  ·simp at k
 ·have:=Y.cells w n (fun _=>rfl) (Nat.le_refl _)
  rwa [←Y.length,List.take_length] at this
 ·have:=Y.cells w.drew n (fun _=>rfl) (Nat.le_refl _)
  rwa [←Y.length,List.take_length] at this
theorem Apd {J:Nat→Prop} {a b:List AV} {us vs:List Value} (C:RepCs J w a (fun j=>us[j]?) 0) (D:RepCs J w b (fun j=>vs[j]?) 0) (F:a.length=us.length) (tail:List Value) :
  RepCs J w (a++b) (fun j=>(us++vs++tail)[j]?) 0:=by
 rw[Cw]
 intro j x k
 rw[List.getElem?_append] at k
 simp only[Nat.zero_add]
 by_cases B:j<a.length
 ·rw[if_pos B] at k
  obtain⟨u,A,hr⟩:=C.at k
  refine⟨u,?_,hr⟩
  rw[List.append_assoc,List.getElem?_append,if_pos (by omega)];exact A
 ·rw[if_neg B] at k
  obtain⟨u,A,hr⟩:=D.at k
  refine⟨u,?_,hr⟩
  have G:j - a.length<vs.length:=(List.getElem?_eq_some_iff.1 A).1
  rw[List.append_assoc,List.getElem?_append,if_neg (by omega),List.getElem?_append,if_pos (by omega),←F];exact A
theorem SO (w:World) (k:Nat):Bt w.drew k=Bt w k:=rfl
theorem zp {d sz n1 n2 cap0:Nat} {t tx ty el:TypeId} {i:TypeInfo} {z vx:Value} {A:Option Addr} {olds news:List Value} {c1 B:List AV} {o:Bool} (S:SimH J β h w) (hn:Au h (nid d)=none)
  (U:P.underlying t=some (.slice el)) (hi:P.info? el=some i) (V:i.zero=some z) (I:i.size=sz) (L:z.cells.size=sz)
  (C:∀ w':World,(∀ a,w'.cell? a=w.cell? a)→(Builtin.firstCells sz n1 (.slice A n1 cap0)).run P w'=.ok olds.toArray w') (D:olds.length=n1*sz)
  (Y:Yield P w sz vx n2 news) (ht:Ao0 P tx=true) (ho:∀ u ∈ news,u.oneCell'=true)
  (h1:RepCs (J o) w c1 (fun j=>olds[j]?) 0) (F:c1.length=olds.length) (h2:RepCs (J o) w B (fun j=>news[j]?) 0) (M:B.length=news.length)
  (T:cap0<n1+n2) (hb1:n1+n2≤140737488355328) (O:(n1+n2)*i.bytes≤140737488355328) :
  ∃ u w',(Builtin.append_ #[t,tx] ty #[.slice A n1 cap0,vx]).run P w=.ok u w' ∧
   OpDone J β h w [(nid d,some { dead:=false,sealed:=false,pure:=true,taint:=o,sz:=sz,cells:=c1++B })] (.own (nid d) 0 (n1+n2)) u w'∧(∀ k,Bt w k≤Bt w' k):=by
 subst I
 have run:=run_append_grow_src (P:=P) w t tx ty el i z U hi V A n1 cap0 olds (C w.drew (fun _=>rfl)) vx n2 news (Y.src ht ho) T (by omega) (growslice_fits T O)
 have G:n1+n2≤grownCap w (n1+n2) cap0 el:=by
  unfold grownCap;simp[Question.cut]
 refine⟨_,_,run,?_,?_⟩
 ·obtain⟨J',β',B1,B2⟩:=nZ (d:=d) (n:=n1+n2) (cap:=grownCap w (n1+n2) cap0 el) (sz:=i.size) (ty:=el) (fr:=(0,0)) (x:={ dead:=false,sealed:=false,pure:=true,taint:=o,sz:=i.size,cells:=c1++B })
   (cs:=(olds++news).toArray++Builtin.zeroCells z.cells (grownCap w (n1+n2) cap0 el - (n1+n2))) (Step.drew S).sim hn rfl rfl rfl (.inl rfl)
   (by simp[F,M,D,Y.length,Nat.add_mul]) (by
    simp[Builtin.zeroCells,D,Y.length,L]
    rw[←Nat.add_mul,←Nat.add_mul];exact Nat.mul_le_mul_right _ (by omega)) G
   ⟨fun _=>by
    have:=Apd h1 h2 F (Builtin.zeroCells z.cells (grownCap w (n1+n2) cap0 el - (n1+n2))).toList
    show RepCs (J o) w.drew (c1++B) _ 0
    refine RepCs.keep (J:=J o) (w:=w) (w':=w.drew) (fun _ hj=>hj) (fun _ _=>rfl) (fun j=>?_) this
    rw[←Array.getElem?_toList]
    simp,fun hp=>by simp at hp⟩
  exact⟨J',β',(Step.drew S).trans B1 (fun _ k _ _=>by rw[←SO];exact V5 _ _ k),B2⟩
 ·intro k;rw[←SO];exact V5 _ _ k
theorem fu {J:Bool→Nat→Prop} (B:∀ k,J false k→J true k) (a b:Bool) (k:Nat) (A:J a k):J (a||b) k:=by
 cases a
 ·cases b
  ·exact A
  ·exact B k A
 ·exact A
theorem zq {J:Bool→Nat→Prop} (A:∀ k,J false k→J true k) (a b:Bool) (k:Nat) (B:J b k):J (a||b) k:=by rw[Bool.or_comm];exact fu A b a k B
theorem As2 {d sz:Nat} {x:Blk} {A:Option Addr} (S:SimH J β h w) (hn:Au h (nid d)=none) (B:x.cells=[]) (k:x.mp=false:=by rfl) :
  OpDone J β h w [(nid d,some x)] (.own (nid d) 0 0) (.slice A 0 0) w:=by
 refine⟨_,_,Step.newNone S hn B k,?_⟩
 rw[Rep]
 exact⟨x,A,0,⟨by simp[At,Ai],k⟩,rfl,Nat.le_refl _,.inl rfl⟩
theorem Aip {d:Nat} {t tx ty:TypeId} {s x:AV} {vs vx:Value} {k:AV→If→Option R} (S:SimH J β h w) (hl:Looks g h) (hh:fg P g d t tx s x k=some r) (hs:Rep J β h w s vs) (hx:Rep J β h w x vx) :
  ∃ val ups,k val ups=some r∧(UpsFree d h ups→∃ u w',(Builtin.append_ #[t,tx] ty #[vs,vx]).run P w=.ok u w'∧OpDone J β h w ups val u w'):=by
 unfold fg at hh
 split at hh
 ·rename_i el hu
  obtain⟨ht,V⟩:=uc hh
  obtain⟨sz,hsz,h1⟩:=ub V
  obtain⟨by_,hby,h2⟩:=ub h1
  obtain⟨zz,hz,h3⟩:=ub h2
  obtain⟨old,D,h4⟩:=ub h3
  obtain⟨new,us,h5,Y,G,hur⟩:=SL (P:=P) S hl h4 hx
  obtain⟨hq,h6⟩:=uc h5
  simp at hq
  obtain⟨q1,q2⟩:=hq
  obtain⟨i,z,hi,hiz,rfl,hp,e1,e2⟩:=EN hz
  have C:i.size=sz:=by simp[C5,hi] at hsz;exact hsz
  have hb':i.bytes=by_:=by simp[Aou,hi] at hby;exact hby
  have F:=RepCs.one hur G.symm
  have T:RepCs (J (old.2.2.1||new.2.2)) w new.1 (fun j=>us[j]?) 0:=RepCs.keep (J:=J new.2.2) (w:=w) (zq S.jft _ _) (fun _ _=>rfl) (fun _=>rfl) hur
  refine⟨_,_,h6,fun hn=>?_⟩
  replace hn:=hn.nid (by simp[Pv,Qm,Bh])
  have empty:∀ (A:Option Addr),vs=.slice A 0 0→old.1=[]→old.2.1=0→old.2.2.2=[] →
    ∃ u w',(Builtin.append_ #[t,tx] ty #[vs,vx]).run P w=.ok u w'∧OpDone J β h w (old.2.2.2++Qm d true (old.2.2.1||new.2.2) sz (old.1++new.1)) (.own (nid d) 0 (old.2.1+new.2.1)) u w':=by
   intro A hA o1 o2 o3
   subst hA
   rw[o1,o2,o3]
   rcases Nat.eq_zero_or_pos new.2.1 with V | V
   ·have hus:us=[]:=by have:=Y.length;rw[V] at this;simpa using this
    subst hus
    have I:=Y.src ht F
    rw[V] at I
    refine⟨_,_,run_append_nothing (P:=P) w t tx ty el i hu hi A 0 0 (Nat.le_refl _) vx (by rw[C];exact I),?_⟩
    rw[V]
    have hnc:new.1=[]:=by simpa using G
    exact As2 (sz:=sz) S hn (by simp[hnc])
   ·obtain⟨u,w',g1,g2,_⟩:=zp (ty:=ty) (c1:=[]) (olds:=[]) (n1:=0) (cap0:=0) (A:=A) S hn hu hi hiz C (by rw[e1,C]) (fun w' _=>by
      cases A with
      | none=>exact run_firstCells_none (P:=P) w' sz 0 0 0
      | some a=>exact run_firstCells_some (P:=P) w' sz 0 a 0 0 [] (by simp) (fun j v U=>by simp at U)) (by simp) Y ht F (by simp[RepCs]) rfl T G (by omega) (by rw[o2] at q1;omega) (by rw[o2,←hb'] at q2;exact q2)
    exact⟨u,w',g1,g2⟩
  unfold A1o at D
  split at D
  ·simp at D;subst D
   rw[Rep] at hs
   exact empty none hs rfl rfl rfl
  ·rename_i c n sz' org
   obtain⟨hz0,h7⟩:=uc D
   simp at hz0 h7;subst hz0;subst h7
   rw[Rep,RepC] at hs
   obtain⟨_,A,cap,U,_,hcap,_⟩:=hs
   have:=hcap rfl;subst this
   exact empty A U rfl rfl rfl
  ·rename_i b off n
   obtain⟨y,hy,h7⟩:=ub D
   obtain⟨hc,h8⟩:=uc h7
   simp at hc h8
   obtain⟨c1,c2,c3⟩:=hc
   subst h8;subst c3
   obtain⟨hb,hd⟩:=M7 hl hy
   simp only at *
   rw[Rep] at hs
   obtain⟨y',A,cap,⟨hy1,hmp⟩,rfl,hcap,hr⟩:=hs
   rw[hb] at hy1;simp at hy1;subst hy1
   have kill:=Step.kill (y:={ y with dead:=true,pure:=true,cells:=[] }) S hb rfl
   have hkn:Au (G0 h b { y with dead:=true,pure:=true,cells:=[] }) (nid d)=none:=by
    rw[Ai,if_neg (fun e=>by rw[←e,hn] at hb;cases hb)];exact hn
   have L:At [(b,none)] h=G0 h b { y with dead:=true,pure:=true,cells:=[] }:=by simp[At,hb]
   by_cases hc0:cap=0
   ·have hn0:n=0:=by omega
    subst hc0;subst hn0
    have S':=kill.sim
    rcases Nat.eq_zero_or_pos new.2.1 with V | V
    ·have hus:us=[]:=by have:=Y.length;rw[V] at this;simpa using this
     subst hus
     have I:=Y.src ht F
     rw[V] at I
     refine⟨_,_,run_append_nothing (P:=P) w t tx ty el i hu hi A 0 0 (Nat.le_refl _) vx (by rw[C];exact I),?_⟩
     rw[V]
     have hnc:new.1=[]:=by simpa using G
     refine OpDone.after (ups:=[(b,none)]) (by rw[L];exact kill) ?_ (fun _=>Nat.le_refl _)
     rw[L]
     exact As2 (sz:=y.sz) S' hkn (by simp[hnc])
    ·obtain⟨u,w',g1,g2,g3⟩:=zp (ty:=ty) (c1:=[]) (olds:=[]) (n1:=0) (cap0:=0) (A:=A) S' hkn hu hi hiz C (by rw[e1,C]) (fun w' _=>by
       cases A with
       | none=>exact run_firstCells_none (P:=P) w' y.sz 0 0 0
       | some a=>exact run_firstCells_some (P:=P) w' y.sz 0 a 0 0 [] (by simp) (fun j v U=>by simp at U)) (by simp) Y ht F (by simp[RepCs]) rfl T G (by omega) (by omega) (by rw[←hb'] at q2;exact q2)
     refine⟨u,w',g1,OpDone.after (ups:=[(b,none)]) (by rw[L];exact kill) ?_ g3⟩
     rw[L];simpa[Qm] using g2
   ·rcases hr with hr | ⟨kk,o,rfl,hr⟩
    ·exact absurd hr hc0
    ·rcases hr with hr | ⟨r1,r2,r3⟩
     ·simp[hd] at hr
     ·rcases S.blk b y hb hd hmp with⟨hn',_⟩ | ⟨k',o',cs,ty',fr,hβ',g1,g2,g3,g4,g5,g6⟩
      ·rw[r1] at hn';simp at hn'
      ·rw[r1] at hβ';simp at hβ';obtain⟨rfl,rfl⟩:=hβ'
       have hbs:=Hq g1
       have hpure:=((g4.1 c1).drop off).take (n*y.sz)
       have hpl:((y.cells.drop off).take (n*y.sz)).length=n*y.sz:=by simp;omega
       by_cases M:n+new.2.1≤cap
       ·
        have hle:(n+new.2.1)*y.sz≤cap*y.sz:=Nat.mul_le_mul_right _ M
        rw[Nat.add_mul] at hle
        have run:=run_append_room_src (P:=P) w t tx ty el i hu hi kk (o+off) n cap vx new.2.1 us (by rw[C];exact Y.src ht F) M (fun j hj=>by
          rw[C,Yg g1];have:=Y.length;simp;omega) (fun j hj=>by
          rw[C];simp only[World.frozen?,g1]
          have h9:=Y.length
          have:=g2.at (o+off+n*y.sz+j) (by omega)
          cases fr;simp at this ⊢;omega)
        rw[C] at run
        obtain⟨cs',O,hO⟩:=OnlyBlk.setCells (k:=kk) us (o+off+n*y.sz) w cs g1
        have h9:=Y.length
        have B:=Step.move (y:={ y with dead:=true,pure:=true,cells:=[] }) (o':=o+off) (x':={ dead:=false,sealed:=false,pure:=true,taint:=y.taint||new.2.2,sz:=y.sz,cells:=(y.cells.drop off).take (n*y.sz)++new.1 }) S hb hd c2 r1 hn rfl O rfl rfl
         (by rw[List.length_append,hpl,G];omega) ⟨fun _=>by
          show RepCs (J (y.taint||new.2.2)) w ((y.cells.drop off).take (n*y.sz)++new.1) _ 0
          rw[Cw]
          intro j q hj
          rw[List.getElem?_append,hpl] at hj
          simp only[Nat.zero_add]
          by_cases hjn:j<n*y.sz
          ·rw[if_pos hjn] at hj
           obtain⟨v,U,hvr⟩:=hpure.at hj
           refine⟨v,?_,RepC.keep (J:=J y.taint) (w:=w) (fu S.jft _ _) (fun _ _=>rfl) hvr⟩
           rw[hO,if_neg (by omega),Nat.add_assoc];exact U
          ·rw[if_neg hjn] at hj
           obtain⟨v,U,hvr⟩:=T.at hj
           refine⟨v,?_,hvr⟩
           have:j - n*y.sz<us.length:=(List.getElem?_eq_some_iff.1 U).1
           rw[hO,if_pos (by omega),←U];congr 1;omega,fun hp=>by simp at hp⟩ hmp
        refine⟨_,_,run,J,(fun b=>if b=nid d then some (kk,o+off) else β b),?_,?_⟩
        ·rw[Cs,L];exact B
        ·rw[Cs,L,Rep]
         refine⟨_,_,cap,⟨by simp[Qm,At,Ai];rfl,rfl⟩,rfl,M,.inr ⟨kk,o+off,rfl,.inr ⟨by simp,?_,?_⟩⟩⟩
         ·rw[Hq O.new,O.sz];simp;omega
         ·simp only[List.length_append,hpl,G,h9,Nat.zero_add];rw[Nat.add_mul];exact Nat.le_refl _
       ·
        obtain⟨olds,l1,l2,l3⟩:=hpure.list
        obtain⟨u,w',g1',g2',g3'⟩:=zp (ty:=ty) (c1:=(y.cells.drop off).take (n*y.sz)) (olds:=olds) (n1:=n) (cap0:=cap) (A:=some ⟨kk,o+off,none⟩) kill.sim hkn hu hi hiz C (by rw[e1,C]) (fun w' he =>
          run_firstCells_some (P:=P) w' y.sz n _ n cap olds (by rw[l1,hpl]) (fun j v U=>by
           rw[he,Addr.add_mid,Yg g1,Nat.add_assoc];exact l2 j v U)) (by rw[l1,hpl]) Y ht F
          (RepCs.keep (J:=J y.taint) (w:=w) (fu S.jft _ _) (fun _ _=>rfl) (fun _=>rfl) l3) l1.symm T G (by omega) (by omega) (by rw[←hb'] at q2;exact q2)
        refine⟨u,w',g1',OpDone.after (ups:=[(b,none)]) (by rw[L];exact kill) ?_ g3'⟩
        rw[L];exact g2'
  ·simp at D
 ·simp at hh
end
end Gx

namespace Gx
open Go
section
variable {R:Type} {r:R} {P:Program} {J J':Bool→Nat→Prop} {β:C1} {h:Am} {w w':World} {g:B8}
theorem Step.retaint (S:SimH J β h w) {d:Nat} {x:Blk} (M:Au h d=some x) (I:x.dead=false) (hs:x.sealed=false) (hp:x.pure=true) (L:x.mp=false) (o:Bool) :
  Step J β h w J β (G0 h d { x with taint:=x.taint||o }) w:=by
 have E:Ext J β h w J β (G0 h d { x with taint:=x.taint||o }) w:=by
  refine⟨fun _ _ F=>F,fun o k F=>rfl,fun b z A=>?_,fun b k o G=>Nat.le_refl _⟩
  by_cases e:b=d
  ·subst e;rw[M] at A;simp at A;subst A
   exact⟨{ x with taint:=x.taint||o },⟨by rw[Ai,if_pos rfl],rfl⟩,.inr ⟨I,rfl,rfl,fun _=>rfl⟩⟩
  ·refine⟨z,⟨by rw[Ai,if_neg e];exact A,rfl⟩,?_⟩
   cases I:z.dead
   ·exact .inr ⟨rfl,rfl,rfl,fun _=>rfl⟩
   ·exact .inl rfl
 refine⟨E,⟨S.jlt,S.jft,fun b z A B O=>?_,fun b z A B O=>by
   rw[Ai] at A
   by_cases e:b=d
   ·rw[if_pos e] at A;simp at A;subst A;simp[L] at O
   ·rw[if_neg e] at A
    exact(S.mblk b z A B O).keep rfl (fun k o G=>rfl) (fun _ _ _ _ F=>F),?_⟩,rfl,rfl,rfl,Nat.le_refl _,fun k hk _=>rfl,?_,fun _ _ F=>.inl F⟩
 ·rw[Ai] at A
  by_cases e:b=d
  ·rw[if_pos e] at A;simp at A;subst A;subst e
   rcases S.blk b x M I L with C | ⟨k,o',cs',ty',fr',C,T,U,V,Y,h6,h7⟩
   ·exact .inl C
   ·refine .inr ⟨k,o',cs',ty',fr',C,T,U,V,CellsRep.ext E ⟨fun _=>?_,fun hh=>?_⟩,fun _=>h6 hs,fun hh=>by simp[hs] at hh⟩
    ·exact RepCs.keep (J:=J x.taint) (w:=w) (fu S.jft _ _) (fun _ _=>rfl) (fun _=>rfl) (Y.1 hp)
    ·simp[hp] at hh
  ·rw[if_neg e] at A
   rcases S.blk b z A B O with C | ⟨k,o,cs',ty',fr',C,T,U,V,Y,h6,h7⟩
   ·exact .inl C
   ·exact .inr ⟨k,o,cs',ty',fr',C,T,U,V,Y.ext E,h6,h7⟩
 ·intro b b' z z' k oo oo' A hb' hd1 hd2 D G hβ'
  have get:∀ {c y},Au (G0 h d { x with taint:=x.taint||o }) c=some y→y.dead=false→∃ y',Au h c=some y'∧y'.dead=false∧(y.sealed=false→y'.sealed=false):=by
   intro c y hc hyd
   rw[Ai] at hc
   by_cases e:c=d
   ·subst e;exact⟨x,M,I,fun _=>hs⟩
   ·rw[if_neg e] at hc;exact⟨y,hc,hyd,id⟩
  obtain⟨y1,g1,g2,g3⟩:=get A hd1
  obtain⟨y2,g4,g5,g6⟩:=get hb' hd2
  exact S.sep b b' y1 y2 k oo oo' g1 g4 g2 g5 (g3 D) G hβ'
 ·rintro k ⟨b,z,o,A,B,D,G⟩ hk
  rw[Ai] at A
  by_cases e:b=d
  ·subst e;exact⟨b,x,o,M,I,hs,G⟩
  ·rw[if_neg e] at A
   exact⟨b,z,o,A,B,D,G⟩
theorem Axq (c:List AV) (off:Nat):Cr c off []=c:=by simp[Cr]
theorem As3 {t tx ty:TypeId} {s x:AV} {vs vx:Value} {k:AV→If→Option R} (S:SimH J β h w) (hl:Looks g h) (hh:Ald P g t s x k=some r) (hs:Rep J β h w s vs) (hx:Rep J β h w x vx) :
  ∃ val ups,k val ups=some r∧∃ u w',(Builtin.copy_ #[t,tx] ty #[vs,vx]).run P w=.ok u w'∧OpDone J β h w ups val u w':=by
 unfold Ald at hh
 split at hh
 ·rename_i el b off n G
  obtain⟨sz,F,h1⟩:=ub hh
  obtain⟨y,hy,h2⟩:=ub h1
  obtain⟨new,us,h3,Y,hul,I⟩:=SL (P:=P) S hl h2 hx
  obtain⟨hc,h4⟩:=uc h3
  simp at hc
  obtain⟨c1,c2,c3⟩:=hc
  subst c3
  obtain⟨hb,hd⟩:=M7 hl hy
  have hone:=RepCs.one I hul.symm
  refine⟨_,_,h4,?_⟩
  rw[Rep] at hs
  obtain⟨y',A,cap,⟨L,M⟩,rfl,hcap,hr⟩:=hs
  rw[hb] at L;simp at L;subst L
  have hm:Nat.min new.2.1 n≤new.2.1:=Nat.min_le_left _ _
  have C:=Y.cells w (Nat.min new.2.1 n) (fun _=>rfl) hm
  have D:=Y.len w
  by_cases U:Nat.min new.2.1 n*y.sz=0
  ·
   refine⟨.int .i64 (Nat.min new.2.1 n:Nat),w,?_,J,β,?_,by rw[Rep]⟩
   ·have e:us.take (Nat.min new.2.1 n*y.sz)=[]:=by rw[U];rfl
    rw[e] at C
    cases A with
    | none=>simp[Builtin.copy_,run_underlying G,D,Dx F,C,goInt]
    | some a=>simp[Builtin.copy_,run_underlying G,D,Dx F,C,goInt,storeCells]
   ·have e:(new.1.take (min new.2.1 n*y.sz))=[]:=by
     have:min new.2.1 n*y.sz=0:=U
     rw[this];rfl
    have T:=Step.retaint S hb hd c2 c1 M new.2.2
    simp only[At]
    rw[e,Axq]
    exact T
  ·rcases hr with hr | ⟨kk,o,rfl,hr⟩
   ·have:n=0:=by omega
    subst this;simp at U
   ·rcases hr with hr | ⟨r1,r2,r3⟩
    ·simp[hd] at hr
    ·rcases S.blk b y hb hd M with⟨hn',_⟩ | ⟨k',o',cs,ty',fr,V,g1,g2,g3,g4,g5,g6⟩
     ·rw[r1] at hn';simp at hn'
     ·rw[r1] at V;simp at V;obtain⟨rfl,rfl⟩:=V
      have hle1:Nat.min new.2.1 n*y.sz≤new.2.1*y.sz:=Nat.mul_le_mul_right _ hm
      have hle2:Nat.min new.2.1 n*y.sz≤n*y.sz:=Nat.mul_le_mul_right _ (Nat.min_le_right _ _)
      have hul':=Y.length
      have htl:(us.take (Nat.min new.2.1 n*y.sz)).length=Nat.min new.2.1 n*y.sz:=by rw[List.length_take];omega
      have htl':(new.1.take (Nat.min new.2.1 n*y.sz)).length=Nat.min new.2.1 n*y.sz:=by rw[List.length_take];omega
      obtain⟨cs',O,hO⟩:=OnlyBlk.setCells (k:=kk) (us.take (Nat.min new.2.1 n*y.sz)) (o+off) w cs g1
      have hst:=run_storeCells_cells (P:=P) kk (o+off) (us.take (Nat.min new.2.1 n*y.sz)) 0 w (fun j hj=>by
        rw[Nat.add_zero,Yg g1];simp;omega)
       (fun j hj=>by
        rw[Nat.add_zero];simp only[World.frozen?,g1]
        have:=g2.at (o+off+j) (by omega)
        cases fr;simp at this ⊢;omega) (fun u G=>hone u (List.mem_of_mem_take G))
      simp only[Nat.add_zero] at hst
      have B:=Step.set (x':={ y with cells:=Cr y.cells off (new.1.take (Nat.min new.2.1 n*y.sz)),taint:=y.taint||new.2.2 }) S hb hd c2 r1 O hd c2 rfl (ML (by omega)) ⟨fun _=>by
       show RepCs (J (y.taint||new.2.2)) w (Cr y.cells off (new.1.take (Nat.min new.2.1 n*y.sz))) _ 0
       rw[Cw]
       intro j q hj
       rw[lP (by omega),htl'] at hj
       simp only[Nat.zero_add]
       split at hj
       ·obtain⟨u,hu',hr⟩:=(I.take _).at hj
        refine⟨u,?_,RepC.keep (J:=J new.2.2) (w:=w) (zq S.jft _ _) (fun _ _=>rfl) hr⟩
        rw[hO,if_pos (by omega),List.getElem?_take,if_pos (by omega),←hu'];congr 1;omega
       ·obtain⟨u,hu',hr⟩:=(g4.1 c1).at hj
        refine⟨u,?_,RepC.keep (J:=J y.taint) (w:=w) (fu S.jft _ _) (fun _ _=>rfl) hr⟩
        rw[hO,if_neg (by omega)];exact hu',fun hp=>by simp[c1] at hp⟩ M
      refine⟨.int .i64 (Nat.min new.2.1 n:Nat),_,?_,J,β,B,by rw[Rep]⟩
      simp[Builtin.copy_,run_underlying G,D,Dx F,C,goInt,hst]
 ·rename_i el G
  obtain⟨sz,F,h1⟩:=ub hh
  obtain⟨new,us,h2,Y,hul,I⟩:=SL (P:=P) S hl h1 hx
  rw[Rep] at hs;subst hs
  have D:=Y.len w
  have C:=Y.cells w 0 (fun _=>rfl) (Nat.zero_le _)
  simp at C
  refine⟨_,_,h2,.int .i64 0,w,?_,J,β,Step.refl S,by rw[Rep]⟩
  have hm:∀ m:Nat,Nat.min m 0=0:=fun m=>Nat.min_eq_right (Nat.zero_le _)
  simp[Builtin.copy_,run_underlying G,D,Dx F,hm,C,goInt]
 ·simp at hh
theorem iX:∀ {c:List AV} {s:List UInt8} {us:List Value} {J:Nat→Prop},nK c=some s→RepCs J w c (fun j=>us[j]?) 0→c.length=us.length →
  ∃ ns:List Int,us=ns.map (Value.int .u8)∧s=ns.map (fun n=>UInt8.ofNat n.toNat)
 | [],s,us,J,C,F,G=>by
  simp[nK] at C;subst C
  have:us=[]:=by cases us<;>simp_all
  exact⟨[],by simp[this],rfl⟩
 | x::r,s,us,J,C,F,G=>by
  rw[nK] at C
  obtain⟨b,k,S⟩:=ub C
  obtain⟨l,I,M⟩:=ub S
  simp at M;subst M
  cases us with
  | nil=>simp at G
  | cons u us =>
   rw[RepCs] at F
   obtain⟨⟨u',D,hr⟩,A⟩:=F
   simp at D;subst D
   unfold A6e at k
   split at k
   ·rename_i n
    simp at k;subst k
    rw[RepC] at hr;subst hr
    have B:RepCs J w r (fun j=>us[j]?) 0:=by
     rw[Cw] at A ⊢
     intro j y T
     obtain⟨v,O,L⟩:=A j y T
     refine⟨v,?_,L⟩
     rw[show 0+1+j=j+1 by omega] at O
     simpa using O
    obtain⟨ns,U,V⟩:=iX I B (by simpa using G)
    exact⟨n::ns,by simp[U],by simp[V]⟩
   ·simp at k
theorem A6n:∀ (ns:List Int) (s:List UInt8),(ns.foldl (fun r n=>r.push (UInt8.ofNat n.toNat)) (⟨⟨s⟩⟩:ByteArray))=⟨⟨s++ns.map fun n=>UInt8.ofNat n.toNat⟩⟩
 | [],s=>by simp
 | n::r,s=>by
  rw[List.foldl_cons]
  have:(⟨⟨s⟩⟩:ByteArray).push (UInt8.ofNat n.toNat)=⟨⟨s++[UInt8.ofNat n.toNat]⟩⟩:=by
   simp[ByteArray.push]
  rw[this,A6n r];simp
theorem As4 {d:Nat} {src dst:TypeId} {x:AV} {vx:Value} {k:AV→If→Option R} (S:SimH J β h w) (hl:Looks g h) (B:Ale P g d src dst x k=some r) (C:Rep J β h w x vx) :
  ∃ val ups,k val ups=some r∧(UpsFree d h ups→∃ u w',(convert src dst vx).run P w=.ok u w'∧OpDone J β h w ups val u w'):=by
 unfold Ale at B
 split at B
 ·rename_i kd G
  split at B
  ·rename_i kd' n
   rw[Rep] at C;subst C
   obtain⟨L,V⟩:=uc B
   obtain⟨s,hs⟩:=Option.isSome_iff_exists.1 L
   refine⟨_,_,V,fun _=>⟨.int kd (kd.wrap n),w,?_,J,β,Step.refl S,by rw[Rep]⟩⟩
   cases s<;>simp[convert,run_underlying hs,run_underlying G,Conv.intToInt]
  ·simp at B
 ·rename_i G
  split at B
  ·rename_i hs
   split at B
   ·rename_i s
    rw[Rep] at C;subst C
    refine⟨_,_,B,fun _=>⟨.string ⟨⟨s⟩⟩,w,?_,J,β,Step.refl S,by rw[Rep]⟩⟩
    simp[convert,run_underlying hs,run_underlying G]
   ·simp at B
  ·rename_i el hs
   split at B
   ·rename_i he
    split at B
    ·simp at B
    ·rename_i hns
     obtain⟨q,hq,V⟩:=ub B
     obtain⟨s,hs',h2⟩:=ub V
     obtain⟨us,Y,hul,hur⟩:=uP (P:=P) S hl hq C
     obtain⟨ns,e1,e2⟩:=iX hs' hur hul
     refine⟨_,_,h2,fun _=>⟨.string ⟨⟨s⟩⟩,w,?_,J,β,Step.refl S,by rw[Rep]⟩⟩
     have hv:∃ A n cap,vx=.slice A n cap:=by
      unfold Ala at hq
      split at hq
      ·rw[Rep] at C;exact⟨_,_,_,C⟩
      ·rw[Rep,RepC] at C;obtain⟨_,A,cap,rfl,_⟩:=C;exact⟨_,_,_,rfl⟩
      ·rw[Rep] at C;obtain⟨_,A,cap,_,rfl,_⟩:=C;exact⟨_,_,_,rfl⟩
      ·exact absurd rfl (hns _)
      ·simp at hq
     obtain⟨A,n,cap,rfl⟩:=hv
     have hn:q.2.1=n:=by have:=Y.len w;simpa[Builtin.lenOf] using this.symm
     have T:=Y.cells w n (fun _=>rfl) (by omega)
     have hyl:=Y.length
     rw[hn] at hyl
     rw[show us.take (n*1)=us by rw[←hyl,List.take_length]] at T
     have M:(convert src dst (.slice A n cap)).run P w=(Conv.bytesToString (.slice A n cap)).run P w:=by
      cases A<;>simp[convert,run_underlying hs,run_underlying G,run_underlying he]
     rw[M]
     cases A with
     | none =>
      rw[run_firstCells_none] at T
      injection T with hc1 _
      have hus:us=[]:=by simpa using hc1.symm
      rw[hus] at e1
      have hns':ns=[]:=by simpa using e1.symm
      rw[hns'] at e2
      simp at e2;subst e2
      simp[Conv.bytesToString];rfl
     | some a =>
      simp only[Builtin.firstCells,Nat.mul_one] at T
      rw[e1] at T
      rw[run_bytesToString w a n cap ns T,e2]
      have:=A6n ns []
      simp at this
      rw[←this];rfl
   ·simp at B
  ·simp at B
 ·rename_i el G
  split at B
  ·rename_i e' b off n hs he
   obtain⟨D,V⟩:=uc B
   simp only[Bool.and_eq_true] at D
   obtain⟨D,hn1⟩:=D
   have hn1:1≤n:=by simpa using hn1
   have D:=Nat.eq_of_beq_eq_true D
   subst D
   have hee:e'=el:=by rw[hs] at G;simpa using G
   subst hee
   obtain⟨x,F,h2⟩:=ub V
   obtain⟨hsl,h3⟩:=Axn h2
   obtain⟨F,hd⟩:=M7 hl F
   refine⟨_,_,h3,fun _=>?_⟩
   have hx':=C
   rw[Rep] at C
   obtain⟨x0,A,cap,⟨O,hmp⟩,rfl,hle,hr⟩:=C
   rw[F] at O;simp at O;subst O
   rcases hr with hr | ⟨k1,o1,rfl,hr⟩
   ·omega
   ·rcases hr with hr | ⟨hβ,_,_⟩
    ·simp[hd] at hr
    ·rcases S.blk b x F hd hmp with⟨U,_⟩ | ⟨k2,o2,cs,ty,fr,U,h5,h6,h7,h8,h9,h10⟩
     ·rw[hβ] at U;simp at U
     ·rw[hβ] at U;simp at U;obtain⟨rfl,rfl⟩:=U
      have hsh:w.shape? k1=some (ty,cs.size):=by simp[World.shape?,h5]
      have hnew:∃ fr',(w.freeze ⟨k1,cs.size,none⟩ 1).heap[k1]?=some (.cells cs ty fr')∧FrOk cs.size fr':=by
       obtain⟨lo,hi⟩:=fr
       refine⟨if lo==hi then (cs.size,cs.size+1) else (min lo cs.size,max hi (cs.size+1)),?_,?_⟩
       ·simp[World.freeze,Array.getElem?_modify,h5]
       ·by_cases e:lo=hi
        ·simp[e,FrOk]
        ·have h11:cs.size≤lo:=by rcases h6 with h6 | h6;exact absurd h6 e;exact h6
         simp[e,FrOk];omega
      obtain⟨fr',hf1,hf2⟩:=hnew
      have A:=Step.mark S F hd hsl hβ h5 hf1 hf2 (fun j I=>by
       simp only[World.freeze]
       rw[if_neg (by decide)]
       show(w.heap.modify k1 _)[j]?=_
       rw[Array.getElem?_modify,if_neg (fun e=>I e.symm)]) (by simp[World.freeze]) rfl rfl rfl hmp
      refine⟨_,w.freeze ⟨k1,cs.size,none⟩ 1,?_,J,β,A,Rep.ext A.ext hx'⟩
      simp[convert,run_underlying hs,run_underlying he,markStringish,hsh]
  ·rename_i s hs he
   rw[Rep] at C;subst C
   refine⟨_,_,B,fun hn=>⟨_,_,run_bytes_of_string (P:=P) w src dst el ⟨⟨s⟩⟩ hs G he,?_⟩⟩
   replace hn:=hn.nid (by simp[Qm,Bh])
   have hsz:(⟨⟨s⟩⟩:ByteArray).size=s.length:=rfl
   have hcap:s.length≤grownCap w s.length 0 el:=by unfold grownCap;simp[Question.cut]
   rw[hsz]
   obtain⟨J',β',B1,B2⟩:=nZ (d:=d) (n:=s.length) (cap:=grownCap w s.length 0 el) (sz:=1) (ty:=el) (fr:=((bytesRow ⟨⟨s⟩⟩ (grownCap w s.length 0 el)).size,(bytesRow ⟨⟨s⟩⟩ (grownCap w s.length 0 el)).size+1))
    (x:={ dead:=false,sealed:=false,pure:=true,taint:=false,sz:=1,cells:=s.map fun b=>.int .u8 (b.toNat:Int) })
    (cs:=bytesRow ⟨⟨s⟩⟩ (grownCap w s.length 0 el)) (Step.drew S).sim hn rfl rfl rfl (.inr (Nat.le_refl _)) (by simp) (by simp[bytesRow,hsz];omega) hcap
    ⟨fun _=>by
     show RepCs (J false) w.drew (s.map fun b=>.int .u8 (b.toNat:Int)) _ 0
     rw[Cw]
     intro j q I
     rw[List.getElem?_map] at I
     cases hb:s[j]? with
     | none=>rw[hb] at I;simp at I
     | some b =>
      rw[hb] at I;simp at I;subst I
      refine⟨.int .u8 (b.toNat:Int),?_,by rw[RepC]⟩
      have hlt:j<s.length:=(List.getElem?_eq_some_iff.1 hb).1
      simp only[Nat.zero_add,bytesRow]
      rw[Array.getElem?_append_left (by simp;exact hlt)]
      simp[hb],fun hp=>by simp at hp⟩
   exact⟨J',β',(Step.drew S).trans B1 (fun _ k _ _=>by rw[←SO];exact V5 _ _ k),B2⟩
  ·simp at B
 ·simp at B
end
end Gx

namespace Gx
open Go
def SP (CR:AV→Value→Prop) (c:List AV) (cs:List Value):Prop:=c.length=cs.length∧∀ (j:Nat) (x:AV) (u:Value),c[j]?=some x→cs[j]?=some u→CR x u
def PartsRel (CR:AV→Value→Prop):List (Nat×List AV)→List (Nat×Value)→Prop
 | [],vs=>vs=[]
 | (i,c)::r,vs=>∃ v vs',vs=(i,v)::vs'∧SP CR c v.cells.toList∧PartsRel CR r vs'
theorem A1w:∀ (vs:List Value) (n off:Nat) (cells:Array Value) (j:Nat),
  ((vs.zipIdx n).foldl (fun (cs:Array Value) (p:Value×Nat)=>cs.setIfInBounds (off+p.2) p.1) cells)[j]?=if off+n≤j∧j<off+n+vs.length∧j<cells.size then vs[j - (off+n)]? else cells[j]?
 | [],n,off,cells,j=>by simp;omega
 | v::r,n,off,cells,j=>by
  rw[List.zipIdx_cons,List.foldl_cons,A1w r (n+1) off]
  simp only[Array.size_setIfInBounds,List.length_cons]
  by_cases A:j=off+n
  ·subst A
   rw[if_neg (by omega)]
   by_cases k:off+n<cells.size
   ·rw[if_pos (by omega)];simp[k]
   ·rw[if_neg (by omega)];simp[k]
  ·by_cases k:off+(n+1)≤j∧j<off+(n+1)+r.length∧j<cells.size
   ·rw[if_pos k,if_pos (by omega),show j - (off+n)=(j - (off+(n+1)))+1 by omega];simp
   ·rw[if_neg k,if_neg (by omega),Array.getElem?_setIfInBounds_ne (by omega)]
theorem n0:∀ (vs:List Value) (n off:Nat) (cells:Array Value),((vs.zipIdx n).foldl (fun (cs:Array Value) (p:Value×Nat)=>cs.setIfInBounds (off+p.2) p.1) cells).size=cells.size
 | [],_,_,_=>rfl
 | v::r,n,off,cells=>by rw[List.zipIdx_cons,List.foldl_cons,n0 r];simp
theorem NS {CR:AV→Value→Prop} {place:Nat→Option (Nat×Nat)}:∀ {parts:List (Nat×List AV)} {vparts:List (Nat×Value)} {c c':List AV} {cs:Array Value},PartsRel CR parts vparts→SP CR c cs.toList →
  Qn place parts c=some c'→∃ cs',Instr.fill place cs vparts=some cs'∧SP CR c' cs'.toList
 | [],vparts,c,c',cs,B,F,C=>by
  rw[PartsRel] at B;subst B
  simp[Qn] at C;subst C
  exact⟨cs,rfl,F⟩
 | (i,vs)::r,vparts,c,c',cs,B,F,C=>by
  rw[PartsRel] at B
  obtain⟨v,vs',rfl,L,hr⟩:=B
  rw[Qn] at C
  obtain⟨p,I,O⟩:=ub C
  obtain⟨M,S⟩:=uc O
  simp at M
  obtain⟨b1,b2⟩:=M
  have e1:vs.length=v.cells.size:=by have:=L.1;simpa using this
  have T:c.length=cs.size:=by have:=F.1;simpa using this
  have D:p.1+vs.length≤c.length:=by omega
  have key:SP CR (setCells c p.1 vs) (v.cells.zipIdx.foldl (fun (cs:Array Value) (q:Value×Nat)=>cs.setIfInBounds (p.1+q.2) q.1) cs).toList:=by
   have k:v.cells.zipIdx.foldl (fun (cs:Array Value) (q:Value×Nat)=>cs.setIfInBounds (p.1+q.2) q.1) cs=(v.cells.toList.zipIdx 0).foldl (fun (cs:Array Value) (q:Value×Nat)=>cs.setIfInBounds (p.1+q.2) q.1) cs:=by
    rw[←Array.foldl_toList];simp
   rw[k]
   refine⟨by rw[Rq D,T];exact(n0 _ 0 _ _).symm,fun j x u G A=>?_⟩
   rw[SM D] at G
   rw[Array.getElem?_toList,A1w] at A
   simp only[Nat.add_zero,Array.length_toList] at A
   split at G
   ·rename_i U
    rw[if_pos (by omega)] at A
    exact L.2 _ x u G A
   ·rename_i U
    rw[if_neg (by omega)] at A
    exact F.2 j x u G (by simpa using A)
  obtain⟨cs',V,Y⟩:=NS hr key S
  refine⟨cs',?_,Y⟩
  rw[Instr.fill,I]
  have:¬ (v.cells.size≠p.2||p.1+v.cells.size>cs.size)=true:=by simp;omega
  simp only[this]
  exact V
section
variable {R:Type} {r:R} {P:Program} {J J':Bool→Nat→Prop} {β:C1} {h:Am} {w w':World} {g:B8}
def RepParts (J:Bool→Nat→Prop) (β:C1) (h:Am) (w:World):List (Nat×AV)→List (Nat×Value)→Prop
 | [],vs=>vs=[]
 | (i,x)::r,vs=>∃ v vs',vs=(i,v)::vs'∧Rep J β h w x v∧RepParts J β h w r vs'
theorem RepParts.ext {β':C1} {h':Am} (E:Ext J β h w J' β' h' w'):∀ {ps:List (Nat×AV)} {vs:List (Nat×Value)},RepParts J β h w ps vs→RepParts J' β' h' w' ps vs
 | [],_,hr=>hr
 | (i,x)::r,vs,hr=>by
  rw[RepParts] at hr ⊢
  obtain⟨v,vs',e,k,A⟩:=hr
  exact⟨v,vs',e,Rep.ext E k,RepParts.ext E A⟩
theorem PartsRel.mono {CR CR':AV→Value→Prop} (k:∀ x u,CR x u→CR' x u):∀ {ps:List (Nat×List AV)} {vs:List (Nat×Value)},PartsRel CR ps vs→PartsRel CR' ps vs
 | [],_,hr=>hr
 | (i,c)::r,vs,hr=>by
  rw[PartsRel] at hr ⊢
  obtain⟨v,vs',e,A,B⟩:=hr
  exact⟨v,vs',e,⟨A.1,fun j x u C D=>k _ _ (A.2 j x u C D)⟩,PartsRel.mono k B⟩
theorem W7 {J:Nat→Prop} {c:List AV} {us:List Value} (A:RepCs J w c (fun j=>us[j]?) 0) (B:c.length=us.length):SP (RepC J w) c us :=
 ⟨B,fun j x u C D=>by
  obtain⟨u',k,hr⟩:=A.at C
  rw[D] at k;simp at k;subst k;exact hr⟩
theorem iY {J:Nat→Prop} {c:List AV} {us:List Value} (k:SP (RepC J w) c us):RepCs J w c (fun j=>us[j]?) 0:=by
 rw[Cw]
 intro j x A
 have:j<us.length:=by rw[←k.1];exact(List.getElem?_eq_some_iff.1 A).1
 exact⟨us[j],by simp[this],k.2 j x _ A (List.getElem?_eq_getElem this)⟩
theorem WF:∀ {ps:List (Nat×AV)} {vs:List (Nat×Value)} {q:List (Nat×List AV)} {ups:If} {org:Bool} {J:Bool→Nat→Prop} {h:Am},SimH J β h w→LooksS g h→NN g ps=some (q,ups,org)→RepParts J β h w ps vs →
  ∃ J',Step J β h w J' β (At ups h) w∧PartsRel (RepC (J' org) w) q vs∧LooksS g (At ups h)∧∀ b,Bh ups b=true→∃ x,g b=some x
 | [],vs,q,ups,org,J,h,S,I,C,D=>by
  simp[NN] at C;obtain⟨rfl,rfl,rfl⟩:=C
  rw[RepParts] at D
  exact⟨J,Step.refl S,by rw[PartsRel];exact D,I,fun b F=>by simp[Bh] at F⟩
 | (i,x)::r,vs,q,ups,org,J,h,S,I,C,D=>by
  rw[NN] at C
  obtain⟨⟨c1,u1,o1⟩,Y,h1⟩:=ub C
  obtain⟨⟨q2,u2,o2⟩,hq,h2⟩:=ub h1
  simp at h2
  obtain⟨rfl,rfl,rfl⟩:=h2
  rw[RepParts] at D
  obtain⟨v,vs',rfl,L,M⟩:=D
  obtain⟨J1,A,hA,G,O⟩:=WE S I Y L
  obtain⟨J2,B,hB,T,U⟩:=WF A.sim O hq (RepParts.ext A.ext M)
  refine⟨J2,by rw[Cs];exact A.trans B (fun _ _ _ _=>Nat.le_refl _),?_,by rw[Cs];exact T,fun b F=>?_⟩
  ·rw[PartsRel]
   refine⟨v,vs',rfl,W7 (RepCs.keep (J:=J1 o1) (w:=w) (fun k V=>fu B.sim.jft _ _ k (B.ext.jsub _ k V)) (fun _ _=>rfl) (fun _=>rfl) hA) G,?_⟩
   exact PartsRel.mono (fun x u hx=>RepC.keep (J:=J2 o2) (w:=w) (fun k V=>zq B.sim.jft _ _ k V) (fun _ _=>rfl) hx) hB
  ·rw[Pv] at F
   cases h3:Bh u1 b with
   | true=>exact Aio Y b h3
   | false=>rw[h3] at F;exact U b (by simpa using F)
theorem NT {place:Nat→Option (Nat×Nat)} {k:List AV→Option R}:∀ (ps:List (Nat×List AV)) (c:List AV),zh place ps c k=(Qn place ps c).bind k
 | [],c=>rfl
 | (i,vs)::r,c=>by
  rw[zh,Qn,Option.bind_assoc]
  congr 1;funext p
  rw[NT r]
  cases (Nat.beq vs.length p.2&&Nat.ble (p.1+p.2) c.length)<;>rfl
theorem n6 {d len:Nat} {t:TypeId} {ps:List (Nat×AV)} {vs:List (Nat×Value)} {k:AV→If→Option R} (S:SimH J β h w) (hl:Looks g h) (L:S9 P g d t len ps k=some r) (hv:RepParts J β h w ps vs) :
  ∃ val ups,k val ups=some r∧(UpsFree d h ups→∃ u w',(Instr.buildSlice t len vs.toArray).run P w=.ok u w'∧OpDone J β h w ups val u w'):=by
 unfold S9 at L
 split at L
 ·rename_i el hu
  obtain⟨sz,B,h1⟩:=ub L
  obtain⟨zz,hz,h2⟩:=ub h1
  obtain⟨⟨q,u1,o1⟩,hq,h3⟩:=ub h2
  obtain⟨hb,h4⟩:=uc h3
  rw[NT] at h4
  obtain⟨cells,hc,h5⟩:=ub h4
  simp at hb
  obtain⟨i,z,hi,M,rfl,O,e1,e2⟩:=EN hz
  have C:i.size=sz:=by simp[C5,hi] at B;exact B
  refine⟨_,_,h5,fun hn=>?_⟩
  replace hn:=hn.nid (by simp[Pv,Qm,Bh])
  obtain⟨J1,A,hA,_,F⟩:=WF S hl.s hq hv
  have T:=lR (w:=w) (J:=J1 o1) O len (len*sz) (by rw[e1,C];exact Nat.le_refl _)
  have U:SP (RepC (J1 o1) w) (Ki len (Qx z.cells.toList)) (madeCells z.cells (len*sz)).toList:=by
   refine W7 (RepCs.keep (J:=J1 o1) (w:=w) (fun _ V=>V) (fun _ _=>rfl) (fun j=>by simp) T) ?_
   rw[Iq,e2,C,Array.length_toList,size_madeCells]
  obtain⟨cs',f1,f2⟩:=NS hA U hc
  have G:cells.length=len*sz:=by
   have:∀ {ps:List (Nat×List AV)} {c c':List AV},Qn (fun i=>some (i*sz,sz)) ps c=some c'→c'.length=c.length:=by
    intro ps
    induction ps with
    | nil=>intro c c' I;simp[Qn] at I;rw[I]
    | cons p r ih =>
     intro c c' I
     obtain⟨i,vs⟩:=p
     rw[Qn] at I
     obtain⟨p,hpl,g1⟩:=ub I
     obtain⟨gb,g2⟩:=uc g1
     simp at gb
     rw[ih g2,Rq (by omega)]
   rw[this hc,Iq,e2,C]
  have hcs:cs'.size=len*sz:=by have:=f2.1;simp at this;omega
  refine⟨.slice (some ⟨w.heap.size,0,none⟩) len len,w.alloc (.cells cs' el),?_,?_⟩
  ·have D:Instr.fill (fun i=>some (i*sz,sz)) ((Array.range (len*sz)).map (z.cells[·%z.cells.size]!)) vs=some cs':=f1
   have Y:¬ (16777216<len*sz):=by omega
   by_cases h0:len*sz=0
   ·have hme:∀ (a:Array Value),(Array.range (len*sz)).map (a[·%a.size]!)=#[]:=fun a=>by rw[h0];simp[Array.range_zero']
    rw[hme] at D
    simp[Instr.buildSlice,run_underlying hu,Dx B,h0,Array.range_zero',D,newRow]
   ·simp[Instr.buildSlice,run_underlying hu,Dx B,Y,h0,zeroValue,typeInfo,hi,M,D,newRow]
  ·refine OpDone.after A (nZ (sz:=sz) (fr:=(0,0)) A.sim (A1v hl F hn) rfl rfl rfl (.inl rfl) G (by omega) (Nat.le_refl _) ⟨fun _=>?_,fun O=>by simp at O⟩) (V5 _ _)
   have:=iY f2
   exact RepCs.keep (J:=J1 o1) (w:=w) (fun _ V=>V) (fun _ _=>rfl) (fun j=>by simp) this
 ·simp at L
theorem lS {t:TypeId} {ps:List (Nat×AV)} {k:AV→Option R}:Aoz P t ps k=(Aoy P t ps).bind k:=by
 unfold Aoz Aoy
 rw[Option.bind_assoc]
 congr 1;funext place
 cases (ps.all fun p=>aW p.2) with
 | false=>rfl
 | true =>
  simp only[cond_true]
  cases (ps.any fun p=>SF p.2) with
  | true =>
   simp only[cond_true]
   cases (ps.any fun p=>zi p.2) with
   | true =>
    simp only[cond_true]
    rw[Option.bind_assoc]
    congr 1;funext z
    rw[NT]
    cases Qn place (Lk ps) z<;>rfl
   | false =>
    simp only[cond_false]
    rw[Option.bind_assoc]
    congr 1;funext z
    rw[NT]
    cases Qn place (Ge ps) z<;>rfl
  | false =>
   simp only[cond_false]
   rw[Option.bind_assoc]
   congr 1;funext z
   rw[NT]
   cases Qn place (Ge ps) z<;>rfl
theorem A6o {x:AV} {u:Value} (hr:RepC (fun _=>False) w x u):Rep J β h w x u:=by
 have k:∀ o:Bool,RepC (J o) w x u:=fun o=>RepC.keep (J:=fun _=>False) (w:=w) (fun _ A=>A.elim) (fun _ _=>rfl) hr
 cases x
 case imm c n sz t org=>rw[Rep];exact k org
 case iptr c org=>rw[Rep];exact k org
 case fn f c =>
  cases c with
  | nil=>rw[RepC] at hr;subst hr;rw[Rep];exact⟨[],by simp,by rw[Reps]⟩
  | cons a l=>simp[RepC] at hr
 all_goals first | (rw[RepC] at hr;rw[Rep];exact hr) | simp[RepC] at hr
theorem sB {d len:Nat} {t:TypeId} {ps:List (Nat×AV)} {vs:List (Nat×Value)} {k:AV→If→Option R} (S:SimH J β h w) (V:V1 P g d t len ps k=some r) (G:RepParts J β h w ps vs) :
  ∃ val ups,k val ups=some r∧(UpsFree d h ups→∃ u w',(Instr.buildSlice t len vs.toArray).run P w=.ok u w'∧OpDone J β h w ups val u w'):=by
 unfold V1 at V
 split at V
 ·rename_i el F
  obtain⟨sz,B,Y⟩:=ub V
  obtain⟨zz,hz,h2⟩:=ub Y
  obtain⟨hb,h4⟩:=uc h2
  obtain⟨cells,hc,h5⟩:=ub h4
  simp at hb
  obtain⟨rfl,hb,hst⟩:=hb
  obtain⟨i,z,hi,hiz,rfl,hp,e1,e2⟩:=EN hz
  have I:i.size=1:=by simp[C5,hi] at B;exact B
  refine⟨_,_,h5,fun hn=>?_⟩
  replace hn:=hn.nid (by simp[Qm,Bh])
  have hz0:=lR (w:=w) (J:=fun _=>False) hp len (len*1) (by rw[e1,I];exact Nat.le_refl _)
  have hz1:SP (fun x u=>Rep J β h w x u∧u.oneCell'=true) (Ki len (Qx z.cells.toList)) (madeCells z.cells (len*1)).toList:=by
   have hl:SP (RepC (fun _=>False) w) (Ki len (Qx z.cells.toList)) (madeCells z.cells (len*1)).toList:=by
    refine W7 (RepCs.keep (J:=fun _=>False) (w:=w) (fun _ hk=>hk) (fun _ _=>rfl) (fun j=>by simp) hz0) ?_
    rw[Iq,e2,I,Array.length_toList,size_madeCells]
   exact⟨hl.1,fun j x u hx F=>⟨A6o (hl.2 j x u hx F),nX (hl.2 j x u hx F)⟩⟩
  have C:∀ {ps:List (Nat×AV)} {vs:List (Nat×Value)},S8 g (ps.map (·.2))=true→RepParts J β h w ps vs→PartsRel (fun x u=>Rep J β h w x u∧u.oneCell'=true) (ps.map fun p=>(p.1,[p.2])) vs:=by
   intro ps
   induction ps with
   | nil=>intro vs _ G;rw[RepParts] at G;rw[List.map_nil,PartsRel];exact G
   | cons p r ih =>
    obtain⟨i,x⟩:=p
    intro vs hs G
    rw[RepParts] at G
    obtain⟨v,vs',rfl,Y,h2⟩:=G
    simp[S8] at hs
    rw[List.map_cons,PartsRel]
    refine⟨v,vs',rfl,?_,ih (by simpa using hs.2) h2⟩
    have ho:=T1 hs.1 Y
    have D:v.cells=#[v]:=by cases v<;>simp_all[Value.cells,Value.oneCell']
    rw[D]
    refine⟨rfl,fun j y u hy F=>?_⟩
    cases j with
    | zero=>simp at hy F;subst hy F;exact⟨Y,ho⟩
    | succ j=>simp at hy
  obtain⟨cs',f1,f2⟩:=NS (C hst G) hz1 hc
  have L:cells.length=len*1:=by
   have:∀ {ps:List (Nat×List AV)} {c c':List AV},Qn (fun i=>some (i*1,1)) ps c=some c'→c'.length=c.length:=by
    intro ps
    induction ps with
    | nil=>intro c c' M;simp[Qn] at M;rw[M]
    | cons p r ih =>
     intro c c' M
     obtain⟨i,vs⟩:=p
     rw[Qn] at M
     obtain⟨p,hpl,g1⟩:=ub M
     obtain⟨gb,g2⟩:=uc g1
     simp at gb
     rw[ih g2,Rq (by omega)]
   rw[this hc,Iq,e2,I]
  have hcs:cs'.size=len*1:=by have:=f2.1;simp at this;omega
  refine⟨.slice (some ⟨w.heap.size,0,none⟩) len len,w.alloc (.cells cs' el),?_,?_⟩
  ·have A:Instr.fill (fun i=>some (i*1,1)) ((Array.range (len*1)).map (z.cells[·%z.cells.size]!)) vs=some cs':=f1
   have O:¬ (16777216<len*1):=by omega
   by_cases T:len*1=0
   ·have hme:∀ (a:Array Value),(Array.range (len*1)).map (a[·%a.size]!)=#[]:=fun a=>by rw[T];simp[Array.range_zero']
    rw[hme] at A
    simp only[Nat.mul_one] at T
    simp[Instr.buildSlice,run_underlying F,Dx B,T,Array.range_zero',newRow]
    simp at A
    simp[A]
   ·simp only[Nat.mul_one] at A T O
    simp[Instr.buildSlice,run_underlying F,Dx B,O,T,zeroValue,typeInfo,hi,hiz,A,newRow]
  ·refine nZ (sz:=1) (fr:=(0,0)) S hn rfl rfl rfl (.inl rfl) L (by omega) (Nat.le_refl _) ⟨fun hp=>by simp at hp,fun _ j y hj=>?_⟩
   have U:j<cs'.size:=by have:=(List.getElem?_eq_some_iff.1 hj).1;simp at this;omega
   have:=f2.2 j y cs'[j] hj (by simp[U])
   exact⟨cs'[j],by simp[U],this.1,this.2⟩
 ·simp at V
theorem MM {d:Nat}:∀ {l:List (Nat×Nat)} {j:Nat} {c:List AV} {cs:List Value} {β:C1} {h:Am},SimH J β h w→1≤j→j+l.length≤16→(∀ i,j≤i→i<16→Bh (Ps d l j c).2 (nid d+i)=true→Au h (nid d+i)=none)→Reps J β h w c cs →
  ∃ β',Step J β h w J β' (At (Ps d l j c).2 h) w∧Reps J β' (At (Ps d l j c).2 h) w (Ps d l j c).1 cs
 | [],j,c,cs,β,h,S,_,_,_,hr=>⟨β,Step.refl S,hr⟩
 | (o,sz)::l,j,c,cs,β,h,S,hj,T,F,hr=>by
  rw[Ps] at F ⊢
  split
  ·rename_i G
   simp only[G] at F
   simp at T
   have Y:Au h (nid d+j)=none:=F j (Nat.le_refl _) (by omega) (by simp[Bh])
   have A:=Step.newNone S (d:=nid d+j) (x:=Gv sz) Y rfl
   have k:=Reps.ext A.ext hr
   rw[C2] at k
   have L:Reps J (fun b=>if b=nid d+j then none else β b) (G0 h (nid d+j) (Gv sz)) w (c.set o (.own (nid d+j) 0 0)) cs:=by
    rw[C2]
    refine⟨by rw[k.1];simp,fun i y u I U=>?_⟩
    by_cases hi:i=o
    ·subst hi
     have M:i<c.length:=(List.getElem?_eq_some_iff.1 G).1
     rw[List.getElem?_set_self M] at I;simp at I;subst I
     have V:=k.2 i _ u G U
     rw[Rep] at V;subst V
     rw[Rep]
     exact⟨Gv sz,none,0,⟨by simp[Ai],rfl⟩,rfl,Nat.le_refl _,.inl rfl⟩
    ·rw[List.getElem?_set_ne (by omega)] at I
     exact k.2 i y u I U
   obtain⟨β',B,hB⟩:=MM (d:=d) (l:=l) (j:=j+1) A.sim (by omega) (by omega) (fun i hi C D=>by
    have:=F i (by omega) C (by
     rw[Bh]
     have:Nat.beq (nid d+j) (nid d+i)=false:=gv (by omega)
     rw[this];exact D)
    rw[Ai,if_neg (by omega)];exact this) L
   exact⟨β',by simp only[At];exact A.trans B (fun _ _ _ _=>Nat.le_refl _),by simp only[At];exact hB⟩
  ·rename_i G
   have e:Ps d ((o,sz)::l) j c=Ps d l (j+1) c:=by
    rw[Ps]
    split
    ·rename_i O;exact absurd O (G ·)
    ·rfl
   simp at T
   split at F
   ·rename_i O;exact absurd O (G ·)
   ·exact MM S (by omega) (by omega) (fun i hi C D=>F i (by omega) C D) hr
theorem Axr {t:TypeId} {co:Bool} {d:Nat} {v:AV} {vc:Value} {k:AV→If→Option R} (S:SimH J β h w) (B:A25 P t co d v k=some r) (C:Rep J β h w v vc) :
  ∃ val ups,k val ups=some r∧(UpsFree d h ups→OpDone J β h w ups val vc w):=by
 unfold A25 at B
 split at B
 ·rename_i c
  obtain⟨F,G⟩:=uc B
  refine⟨_,_,G,fun I=>?_⟩
  rw[Rep] at C
  obtain⟨cs,rfl,hr⟩:=C
  obtain⟨β',A,hA⟩:=MM (d:=d) (l:=nN P t) (j:=1) S (Nat.le_refl _) (by simp at F;omega) (fun i hi L D=>I _ D (by unfold WC;simp;omega)) hr
  exact⟨J,β',A,by rw[Rep];exact⟨cs,rfl,hA⟩⟩
 ·exact⟨_,_,B,fun _=>⟨J,β,Step.refl S,C⟩⟩
theorem uS {x:AV} {v:Value} (k:Rep J β h w x v) (G:SF x=false) (C:aW x=true):SP (Rep J β h w) (cellsOf x) v.cells.toList:=by
 have one:v.cells=#[v]→cellsOf x=[x]→SP (Rep J β h w) (cellsOf x) v.cells.toList:=fun I B=>by
  rw[I,B]
  refine⟨rfl,fun j y u D F=>?_⟩
  cases j with
  | zero=>simp at D F;subst D F;exact k
  | succ j=>simp at D
 cases x
 case pagg=>simp[SF] at G
 case agg c =>
  rw[Rep] at k
  obtain⟨cs,rfl,B⟩:=k
  rw[C2] at B
  exact⟨B.1.symm,B.2⟩
 case tup c=>simp[aW] at C
 case undef=>simp[aW] at C
 case omap=>simp[aW] at C
 case own=>rw[Rep] at k;obtain⟨_,A,cap,_,rfl,_⟩:=k;exact one rfl rfl
 case optr=>rw[Rep] at k;obtain⟨_,kk,o,_,rfl,_⟩:=k;exact one rfl rfl
 case fn=>rw[Rep] at k;obtain⟨cs,rfl,_⟩:=k;exact one rfl rfl
 case imm=>rw[Rep,RepC] at k;obtain⟨_,A,cap,rfl,_⟩:=k;exact one rfl rfl
 case iptr=>rw[Rep,RepC] at k;obtain⟨a,rfl,_⟩:=k;exact one rfl rfl
 all_goals (rw[Rep] at k;subst k;exact one rfl rfl)
theorem Alm {x:AV} {v:Value} (C:∀ k,J false k→J true k) (B:Rep J β h w x v) (hr:lN x=false) {o:Bool} (D:Aox x=true→o=true):RepC (J o) w x v:=by
 cases x<;>simp[lN] at hr
 case imm c n sz t org =>
  rw[Rep] at B
  refine RepC.keep (J:=J org) (w:=w) (fun k A=>?_) (fun _ _=>rfl) B
  cases org
  ·cases o
   ·exact A
   ·exact C k A
  ·rw[D rfl];exact A
 case iptr c org =>
  rw[Rep] at B
  refine RepC.keep (J:=J org) (w:=w) (fun k A=>?_) (fun _ _=>rfl) B
  cases org
  ·cases o
   ·exact A
   ·exact C k A
  ·rw[D rfl];exact A
 all_goals (rw[Rep] at B;rw[RepC];exact B)
theorem Ape {x:AV} {v:Value} (F:∀ k,J false k→J true k) (C:Rep J β h w x v) (hr:zi x=false) {o:Bool} (G:uJ x=true→o=true):SP (RepC (J o) w) (cellsOf x) v.cells.toList:=by
 have one:lN x=false→cellsOf x=[x]→uJ x=Aox x→SP (RepC (J o) w) (cellsOf x) v.cells.toList:=fun U A I=>by
  have S:=Alm (o:=o) F C U (by rw[←I];exact G)
  have L:v.cells=#[v]:=by have:=nX S;cases v<;>simp_all[Value.cells,Value.oneCell']
  rw[L,A]
  refine⟨rfl,fun j y u B D=>?_⟩
  cases j with
  | zero=>simp at B D;subst B D;exact S
  | succ j=>simp at B
 cases x
 case pagg c org =>
  rw[Rep] at C
  obtain⟨cs,rfl,L,A⟩:=C
  refine W7 (RepCs.keep (J:=J org) (w:=w) (fun k M=>?_) (fun _ _=>rfl) (fun j=>by simp[Value.cells]) A) (by simp[Value.cells,cellsOf,L])
  cases org
  ·cases o
   ·exact M
   ·exact F k M
  ·rw[G rfl];exact M
 case agg c =>
  rw[Rep] at C
  obtain⟨cs,rfl,A⟩:=C
  rw[C2] at A
  refine⟨A.1.symm,fun j y u B D=>?_⟩
  simp only[zi,List.any_eq_false] at hr
  have T:y ∈ c:=List.mem_of_getElem? B
  have O:lN y=false:=by simpa using hr y T
  refine Alm F (A.2 j y u B D) O (fun I=>G ?_)
  rw[uJ,List.any_eq_true];exact⟨y,T,I⟩
 all_goals first | exact one hr rfl rfl | simp[zi,lN] at hr
theorem A3a {o:Bool} {x:AV} {v:Value} (hr:RepC (J o) w x v):Rep J β h w (Asw o x) v:=by
 cases x
 case imm=>rw[Asw,Rep];rw[RepC] at hr ⊢;exact hr
 case iptr=>rw[Asw,Rep];rw[RepC] at hr ⊢;exact hr
 case fn f c =>
  cases c with
  | nil=>rw[RepC] at hr;subst hr;show Rep J β h w (.fn f []) _;rw[Rep];exact⟨[],by simp,by rw[Reps]⟩
  | cons a b=>simp[RepC] at hr
 all_goals first | (rw[RepC] at hr;unfold Asw;rw[Rep];exact hr) | (simp[RepC] at hr)
theorem Axs {x:AV} {v:Value} (B:Rep J β h w x v) (G:aW x=true):SP (Rep J β h w) (zj x) v.cells.toList:=by
 cases C:SF x with
 | false =>
  have:=uS B C G
  cases x<;>first | exact this | simp[SF] at C
 | true =>
  cases x<;>simp[SF] at C
  rename_i c o
  rw[Rep] at B
  obtain⟨cs,rfl,I,L⟩:=B
  refine⟨by simp[zj,Value.cells,I],fun j y u A F=>?_⟩
  simp only[zj,List.getElem?_map] at A
  cases D:c[j]? with
  | none=>rw[D] at A;simp at A
  | some x0 =>
   rw[D] at A;simp at A;subst A
   obtain⟨u',k,hr⟩:=L.at D
   simp[Value.cells] at F
   rw[F] at k;simp at k;subst k
   exact A3a hr
theorem bB {CR:AV→Value→Prop}:∀ {ps:List (Nat×AV)} {vs:List (Nat×Value)},RepParts J β h w ps vs→(∀ p ∈ ps,∀ v,Rep J β h w p.2 v→SP CR (zj p.2) v.cells.toList)→PartsRel CR (Lk ps) vs
 | [],vs,hr,_=>by rw[RepParts] at hr;rw[Lk,PartsRel];exact hr
 | (i,x)::r,vs,hr,k=>by
  rw[RepParts] at hr
  obtain⟨v,vs',rfl,A,B⟩:=hr
  rw[Lk,PartsRel]
  exact⟨v,vs',rfl,k (i,x) (by simp) v A,bB B (fun p C=>k p (by simp[C]))⟩
theorem MN {CR:AV→Value→Prop}:∀ {ps:List (Nat×AV)} {vs:List (Nat×Value)},RepParts J β h w ps vs→(∀ p ∈ ps,∀ v,Rep J β h w p.2 v→SP CR (cellsOf p.2) v.cells.toList)→PartsRel CR (Ge ps) vs
 | [],vs,hr,_=>by rw[RepParts] at hr;rw[Ge,PartsRel];exact hr
 | (i,x)::r,vs,hr,k=>by
  rw[RepParts] at hr
  obtain⟨v,vs',rfl,A,B⟩:=hr
  rw[Ge,PartsRel]
  exact⟨v,vs',rfl,k (i,x) (by simp) v A,MN B (fun p C=>k p (by simp[C]))⟩
theorem zr {t:TypeId} {place:Nat→Option (Nat×Nat)} {i:TypeInfo} {z:Value} {vs:List (Nat×Value)} {cs:Array Value} (k:nM P t=some place) (hi:P.info? t=some i) (C:i.zero=some z)
  (D:Instr.fill place z.cells vs=some cs):P.built t vs=some cs:=by
 unfold nM at k
 unfold Program.built
 split at k
 ·rename_i n e B
  cases A:P.info? e with
  | none=>simp[A] at k
  | some ie=>simp[A] at k;subst k;simp only[hi,B,C,A];exact D
 ·rename_i fs B
  cases A:fs.toList.mapM fun f=>(P.info? f.type).map fun i=>(f.offset,i.size) with
  | none=>rw[A] at k;simp at k
  | some pl =>
   rw[A] at k;simp at k;subst k
   simp only[hi,B,C,A]
   simpa using D
 ·simp at k
theorem Apf {t:TypeId} {ps:List (Nat×AV)} {vs:List (Nat×Value)} {v:AV} (S:SimH J β h w) (hh:Aoy P t ps=some v) (hv:RepParts J β h w ps vs) :
  ∃ u,(Instr.build t vs.toArray).run P w=.ok u w∧Rep J β h w v u:=by
 unfold Aoy at hh
 obtain⟨place,I,h1⟩:=ub hh
 obtain⟨V,L⟩:=uc h1
 cases M:ps.any (fun p=>SF p.2) with
 | true =>
  rw[M] at L
  cases O:ps.any (fun p=>zi p.2) with
  | true =>
   rw[O] at L
   obtain⟨zz,A,C⟩:=ub L
   unfold Alb at A
   obtain⟨i,hi,A⟩:=ub A
   cases B:i.zero with
   | none=>rw[B] at A;simp at A
   | some z =>
    rw[B] at A;simp at A;subst A
    cases D:Qn place (Lk ps) (Qx z.cells.toList) with
    | none=>rw[D] at C;simp at C
    | some c =>
     rw[D] at C;simp at C;subst C
     have k:PartsRel (Rep J β h w) (Lk ps) vs:=bB hv (fun p T u U=>Axs U (List.all_eq_true.1 V p T))
     have F:SP (Rep J β h w) (Qx z.cells.toList) z.cells.toList:=by
      have:=fl (J:=J) (β:=β) (h:=h) (w:=w) z.cells.toList
      rw[C2] at this
      exact⟨this.1.symm,this.2⟩
     obtain⟨cs,Y,G⟩:=NS k F D
     refine⟨.agg cs,run_build w t vs.toArray cs (zr I hi B (by simpa using Y)),?_⟩
     rw[Rep]
     exact⟨cs.toList,rfl,C2.2 ⟨G.1.symm,G.2⟩⟩
  | false =>
  rw[O] at L
  have h3:=L
  obtain⟨zz,A,C⟩:=ub h3
  obtain⟨i,z,hi,B,rfl,hp,e1,e2⟩:=EN A
  cases D:Qn place (Ge ps) (Qx z.cells.toList) with
  | none=>rw[D] at C;simp at C
  | some c =>
   rw[D] at C;simp at C;subst C
   have k:PartsRel (RepC (J (ps.any fun p=>uJ p.2)) w) (Ge ps) vs:=MN hv (fun p T u U=>Ape S.jft U (by
     have:=List.any_eq_false.1 O p T;simpa using this) (fun ho=>by rw[List.any_eq_true];exact⟨p,T,ho⟩))
   have F:SP (RepC (J (ps.any fun p=>uJ p.2)) w) (Qx z.cells.toList) z.cells.toList:=by
    refine⟨IP _,fun j x u hx U=>?_⟩
    obtain⟨y,g1,g2⟩:=lQ (w:=w) (J:=J (ps.any fun p=>uJ p.2)) hp j u U
    rw[hx] at g1;simp at g1;subst g1;exact g2
   obtain⟨cs,Y,G⟩:=NS k F D
   refine⟨.agg cs,run_build w t vs.toArray cs (zr I hi B (by simpa using Y)),?_⟩
   rw[Rep]
   exact⟨cs.toList,rfl,G.1.symm,iY G⟩
 | false =>
  rw[M] at L
  obtain⟨zz,A,C⟩:=ub L
  unfold Alb at A
  obtain⟨i,hi,A⟩:=ub A
  cases B:i.zero with
  | none=>rw[B] at A;simp at A
  | some z =>
   rw[B] at A;simp at A;subst A
   cases D:Qn place (Ge ps) (Qx z.cells.toList) with
   | none=>rw[D] at C;simp at C
   | some c =>
    rw[D] at C;simp at C;subst C
    have k:PartsRel (Rep J β h w) (Ge ps) vs:=MN hv (fun p T u U=>uS U (by
      have:=List.any_eq_false.1 M p T;simpa using this) (List.all_eq_true.1 V p T))
    have F:SP (Rep J β h w) (Qx z.cells.toList) z.cells.toList:=by
     have:=fl (J:=J) (β:=β) (h:=h) (w:=w) z.cells.toList
     rw[C2] at this
     exact⟨this.1.symm,this.2⟩
    obtain⟨cs,Y,G⟩:=NS k F D
    refine⟨.agg cs,run_build w t vs.toArray cs (zr I hi B (by simpa using Y)),?_⟩
    rw[Rep]
    exact⟨cs.toList,rfl,C2.2 ⟨G.1.symm,G.2⟩⟩
end
end Gx

namespace Gx
open Go
section
variable {R:Type} {r:R} {P:Program} {J:Bool→Nat→Prop} {β:C1} {h:Am} {w:World}
def PRd (n:Nat) (x:List AV) (rd:Nat→Option Value):Prop:=∀ j q,j<n→x[j]?=some q →
 (∀ k m,q=.int k m→rd j=some (.int k m))∧(∀ b,q=.bool b→rd j=some (.bool b))∧(∀ s,q=.str s→rd j=some (.string ⟨⟨s⟩⟩))
theorem PRd.drop {n m o:Nat} {x:List AV} {xs:Array Value} {ox sz:Nat} (D:PRd sz x (fun j=>xs[ox+j]?)) (L:o+m≤sz) (hn:n=m):PRd n (x.drop o) (fun j=>(xs.extract ox (ox+sz))[o+j]?):=by
 subst hn
 intro j q M B
 rw[List.getElem?_drop] at B
 have A:=D (o+j) q (by omega) B
 have e:∀ v,xs[ox+(o+j)]?=some v→(xs.extract ox (ox+sz))[o+j]?=some v:=by
  intro v C
  have F:=(Array.getElem?_eq_some_iff.1 C).1
  rw[Array.getElem?_extract,if_pos (by omega)];exact C
 exact⟨fun k m G=>e _ (A.1 k m G),fun b I=>e _ (A.2.1 b I),fun s hs=>e _ (A.2.2 s hs)⟩
theorem DR {t:TypeId} {d:TypeDesc} {xs:Array Value} {ox:Nat} {v:Value} (k:P.underlying t=some d) (A:d.isRow=false) (B:xs[ox]?=some v):(part t xs ox).run P w=.ok v w:=by
 unfold part isAgg
 simp only[Sem.run_bind,run_underlying k,Result.andThen_ok]
 cases d<;>simp_all[TypeDesc.isRow]
theorem NU {t:TypeId} {d:TypeDesc} {xs:Array Value} {ox s:Nat} (k:P.underlying t=some d) (A:d.isRow=true) (hs:C5 P t=some s):(part t xs ox).run P w=.ok (.agg (xs.extract ox (ox+s))) w:=by
 unfold part isAgg
 have:=Dx hs w
 simp only[Sem.run_bind,run_underlying k,Result.andThen_ok]
 cases d<;>simp_all[TypeDesc.isRow]
def Axt (P:Program) (w:World) (D:Nat) (step:TypeId→List AV→List AV→(Bool→Option R)→Option R):Prop :=
 ∀ (r:R) (t:TypeId) (s:Nat) (x y:List AV) (k:Bool→Option R) (xs ys:Array Value) (ox oy:Nat),C5 P t=some s→0<s→step t x y k=some r→PRd s x (fun j=>xs[ox+j]?)→PRd s y (fun j=>ys[oy+j]?) →
  ∃ b a a',k b=some r∧(part t xs ox).run P w=.ok a w∧(part t ys oy).run P w=.ok a' w∧(Op.equalIn D t a a').run P w=.ok b w
theorem WG {D:Nat} {step:TypeId→List AV→List AV→(Bool→Option R)→Option R} (hs:Axt P w D step) {x y:List AV} {xs ys:Array Value} {ox oy sz:Nat} (I:PRd sz x (fun j=>xs[ox+j]?)) (L:PRd sz y (fun j=>ys[oy+j]?)) :
  ∀ (fs:List Field) {k:Bool→Option R},fs.all (Aov P sz)=true→NL step x y (fs.map fun f=>(f.offset,f.type)) k=some r →
  ∃ b,k b=some r∧(Op.eqFields D (xs.extract ox (ox+sz)) (ys.extract oy (oy+sz)) fs).run P w=.ok b w
 | [],k,_,F=>⟨true,by simpa[NL] using F,by simp[Op.eqFields]⟩
 | f::fs,k,G,F=>by
  rw[List.all_cons,Bool.and_eq_true] at G
  obtain⟨C,G⟩:=G
  unfold Aov at C
  cases A:C5 P f.type with
  | none=>rw[A] at C;simp at C
  | some s =>
   rw[A] at C
   simp only[Bool.and_eq_true,Nat.ble_eq] at C
   obtain⟨h1,M,O⟩:=C
   have B : f.name ≠ "_" := by simpa using O
   rw[List.map_cons,NL] at F
   obtain⟨b,a,a',S,T,U,V⟩:=hs r f.type s _ _ _ (xs.extract ox (ox+sz)) (ys.extract oy (oy+sz)) f.offset f.offset A (by omega) F (I.drop M rfl) (L.drop M rfl)
   obtain⟨c,e1,Y⟩:=WG hs I L fs G S
   refine⟨b&&c,e1,?_⟩
   rw[Op.eqFields,if_pos B]
   simp only[Sem.run_bind,T,U,V,Result.andThen_ok]
   cases b with
   | false=>simp
   | true=>simpa using Y
theorem bC {D:Nat} {step:TypeId→List AV→List AV→(Bool→Option R)→Option R} (hs:Axt P w D step) {x y:List AV} {xs ys:Array Value} {ox oy sz:Nat} {e:TypeId} {s:Nat} (A:C5 P e=some s) (B:0<s) (F:PRd sz x (fun j=>xs[ox+j]?)) (G:PRd sz y (fun j=>ys[oy+j]?)) :
  ∀ (is:List Nat) {k:Bool→Option R},(∀ i ∈ is,i*s+s≤sz)→NL step x y (is.map fun i=>(i*s,e)) k=some r →
  ∃ b,k b=some r∧(Op.eqItems D e s (xs.extract ox (ox+sz)) (ys.extract oy (oy+sz)) is).run P w=.ok b w
 | [],k,_,C=>⟨true,by simpa[NL] using C,by simp[Op.eqItems]⟩
 | i::is,k,I,C=>by
  have L:=I i (by simp)
  rw[List.map_cons,NL] at C
  obtain⟨b,a,a',M,O,S,T⟩:=hs r e s _ _ _ (xs.extract ox (ox+sz)) (ys.extract oy (oy+sz)) (i*s) (i*s) A B C (F.drop L rfl) (G.drop L rfl)
  obtain⟨c,e1,U⟩:=bC hs A B F G is (fun j V=>I j (by simp[V])) M
  refine⟨b&&c,e1,?_⟩
  rw[Op.eqItems]
  simp only[Sem.run_bind,O,S,T,Result.andThen_ok]
  cases b with
  | false=>simp
  | true=>simpa using U
theorem lT:∀ (d D:Nat),d≤D→Axt P w D (y5 (R:=R) P d)
 | 0,D,_=>fun r t s x y k xs ys ox oy hs C A=>by simp[y5] at A
 | d+1,D,hD=>fun r t s x y k xs ys ox oy hs C A U V=>by
  obtain⟨D,rfl⟩:∃ D',D=D'+1:=⟨D - 1,by omega⟩
  rw[y5] at A
  split at A
  ·rename_i kd B
   obtain⟨u,G,A⟩:=ub A
   obtain⟨a,L,A⟩:=ub A
   obtain⟨v,I,A⟩:=ub A
   obtain⟨b,M,A⟩:=ub A
   have ea:u=.int kd a:=by
    unfold uG at L;split at L
    ·obtain⟨Y,ha'⟩:=uc L;simp[Tz] at Y ha';subst Y ha';rfl
    ·simp at L
   have eb:v=.int kd b:=by
    unfold uG at M;split at M
    ·obtain⟨Y,hb'⟩:=uc M;simp[Tz] at Y hb';subst Y hb';rfl
    ·simp at M
   have px:=(U 0 u C (by rw[←List.head?_eq_getElem?];exact G)).1 kd a ea
   have py:=(V 0 v C (by rw[←List.head?_eq_getElem?];exact I)).1 kd b eb
   exact⟨_,_,_,A,DR B rfl (by simpa using px),DR B rfl (by simpa using py),run_equalIn_int w D t kd kd a b B⟩
  ·rename_i B
   obtain⟨u,G,A⟩:=ub A
   obtain⟨a,L,A⟩:=ub A
   obtain⟨v,I,A⟩:=ub A
   obtain⟨b,M,A⟩:=ub A
   have ea:u=.bool a:=by unfold asBool at L;split at L<;>simp_all
   have eb:v=.bool b:=by unfold asBool at M;split at M<;>simp_all
   have px:=(U 0 u C (by rw[←List.head?_eq_getElem?];exact G)).2.1 a ea
   have py:=(V 0 v C (by rw[←List.head?_eq_getElem?];exact I)).2.1 b eb
   exact⟨_,_,_,A,DR B rfl (by simpa using px),DR B rfl (by simpa using py),run_equalIn_bool' w D t a b B⟩
  ·rename_i B
   obtain⟨u,G,A⟩:=ub A
   obtain⟨a,L,A⟩:=ub A
   obtain⟨v,I,A⟩:=ub A
   obtain⟨b,M,A⟩:=ub A
   have ea:u=.str a:=by unfold uH at L;split at L<;>simp_all
   have eb:v=.str b:=by unfold uH at M;split at M<;>simp_all
   have px:=(U 0 u C (by rw[←List.head?_eq_getElem?];exact G)).2.2 a ea
   have py:=(V 0 v C (by rw[←List.head?_eq_getElem?];exact I)).2.2 b eb
   refine⟨_,_,_,A,DR B rfl (by simpa using px),DR B rfl (by simpa using py),?_⟩
   have:=run_equalIn_string w D t ⟨⟨a⟩⟩ ⟨⟨b⟩⟩ B
   rw[this]
   simp[ByteArray.toList_eq]
  ·rename_i fs B
   obtain⟨sz,F,A⟩:=ub A
   obtain⟨hc,S⟩:=Axn A
   simp only[Bool.or_eq_false_iff,Bool.not_eq_false'] at hc
   rw[hs] at F;simp at F;subst F
   obtain⟨b,h1,h2⟩:=WG (lT d D (by omega)) U V fs.toList hc.2 S
   refine⟨b,_,_,h1,NU B rfl hs,NU B rfl hs,?_⟩
   have hfo:P.fieldsOf t=fs:=by simp[Program.fieldsOf,B]
   rw[run_equalIn_struct w D t _ _ (by rw[hfo];exact B) hc.1,hfo]
   exact h2
  ·rename_i n e B
   obtain⟨s',O,A⟩:=ub A
   obtain⟨sz,F,A⟩:=ub A
   obtain⟨hc,S⟩:=uc A
   simp only[Bool.and_eq_true,Nat.ble_eq] at hc
   rw[hs] at F;simp at F;subst F
   obtain⟨b,h1,h2⟩:=bC (lT d D (by omega)) O (by omega) U V (List.range n) (fun i hi=>by
    have:=List.mem_range.1 hi
    have h3:(i+1)*s'≤n*s':=Nat.mul_le_mul_right _ this
    rw[Nat.succ_mul] at h3;omega) S
   refine⟨b,_,_,h1,NU B rfl hs,NU B rfl hs,?_⟩
   cases hi:P.info? e with
   | none=>simp[C5,hi] at O
   | some i =>
    have T:P.cellsOf e=s':=by simp[C5,hi] at O;simp[Program.cellsOf,hi,O]
    rw[run_equalIn_array w D _ _ B hi,T]
    exact h2
  ·simp at A
theorem As5 {c:List AV} {org:Bool} {v:Value} {a:List AV} {x:AV} (C:Aow x=some a) (hr:Rep J β h w x v):∃ cs:List Value,v=.agg ⟨cs⟩∧cs.length=a.length∧∀ n,PRd n a (fun j=>(⟨cs⟩:Array Value)[0+j]?):=by
 unfold Aow at C
 split at C
 ·simp at C;subst C
  rw[Rep] at hr
  obtain⟨cs,I,D,O⟩:=hr
  refine⟨cs,I,D,fun n j q _ F=>?_⟩
  rw[Cw] at O
  obtain⟨u,G,A⟩:=O j q F
  simp only[Nat.zero_add] at G ⊢
  refine⟨fun k m L=>?_,fun b M=>?_,fun s hs=>?_⟩
  ·subst L;rw[RepC] at A;subst A;simpa using G
  ·subst M;rw[RepC] at A;subst A;simpa using G
  ·subst hs;rw[RepC] at A;subst A;simpa using G
 ·simp at C;subst C
  rw[Rep] at hr
  obtain⟨cs,I,D⟩:=hr
  rw[C2] at D
  refine⟨cs,I,D.1,fun n j q _ F=>?_⟩
  have B:j<cs.length:=by rw[D.1];exact(List.getElem?_eq_some_iff.1 F).1
  have A:=D.2 j q cs[j] F (List.getElem?_eq_getElem B)
  simp only[Nat.zero_add]
  refine⟨fun k m L=>?_,fun b M=>?_,fun s hs=>?_⟩
  ·subst L;rw[Rep] at A;simp[B,A]
  ·subst M;rw[Rep] at A;simp[B,A]
  ·subst hs;rw[Rep] at A;simp[B,A]
 ·simp at C
theorem As6 {op:BinOp} {t:TypeId} {x y:AV} {k:AV→Option R} {vx vy:Value} (A:Ak9 P t op x y k=some r) (G:Rep J β h w x vx) (I:Rep J β h w y vy) (ox oy:Operand) :
  ∃ v vc,k v=some r∧(do eqGuard op t ox oy vx vy;binOp op t vx vy:Sem Value).run P w=.ok vc w∧Rep J β h w v vc:=by
 unfold Ak9 at A
 split at A
 ·rename_i a b V Y
  obtain⟨s,hs,A⟩:=ub A
  obtain⟨L,A⟩:=uc A
  simp only[Bool.and_eq_true,Nat.ble_eq,Bool.not_eq_true'] at L
  obtain⟨h1,M,O,B,h4⟩:=L
  have M:=Nat.eq_of_beq_eq_true M
  have O:=Nat.eq_of_beq_eq_true O
  obtain⟨cs,rfl,S,px⟩:=As5 (c:=[]) (org:=false) V G
  obtain⟨cs',rfl,hl',py⟩:=As5 (c:=[]) (org:=false) Y I
  have T:=run_eqGuard_agg w op t ox oy ⟨cs⟩ ⟨cs'⟩ h4
  have whole:∀ (l:List Value),l.length=s→(⟨l⟩:Array Value).extract 0 (0+s)=⟨l⟩:=by
   intro l S;subst S;simp
  have key:∀ {kk:Bool→Option R},y5 P 8 t a b kk=some r→∃ c,kk c=some r∧(Op.equal t (.agg ⟨cs⟩) (.agg ⟨cs'⟩)).run P w=.ok c w:=by
   intro kk hk
   obtain⟨c,u,u',e1,C,e3,e4⟩:=lT 8 10000 (by omega) r t s a b kk ⟨cs⟩ ⟨cs'⟩ 0 0 hs (by omega) hk (px s) (py s)
   refine⟨c,e1,?_⟩
   have F:∃ d,P.underlying t=some d∧d.isRow=true:=by
    unfold A6f at B
    split at B
    ·rename_i fs D;exact⟨_,D,rfl⟩
    ·rename_i n e D;exact⟨_,D,rfl⟩
    ·simp at B
   obtain⟨d,D,U⟩:=F
   rw[NU D U hs,whole cs (by omega)] at C
   rw[NU D U hs,whole cs' (by omega)] at e3
   simp only[Result.ok.injEq,and_true] at C e3
   subst C e3
   exact e4
  split at A
  ·obtain⟨c,e1,C⟩:=key A
   refine⟨_,.bool c,e1,?_,by rw[Rep]⟩
   simp only[Sem.run_bind,T,Result.andThen_ok,binOp,C,Sem.run_pure]
  ·obtain⟨c,e1,C⟩:=key A
   refine⟨_,.bool (!c),e1,?_,by rw[Rep]⟩
   simp only[Sem.run_bind,T,Result.andThen_ok,binOp,C,Sem.run_pure]
  ·simp at A
 ·exact Axm A G I ox oy
end
end Gx

namespace Gx
open Go Go.MapKept
section
variable {R:Type} {r:R} {P:Program} {J:Bool→Nat→Prop} {β:C1} {h:Am} {w:World} {g:B8}
theorem NV:∀ (l:List Int) (n:Int),nP (l.map fun m=>.int .i64 m) n=true↔n ∈ l
 | [],n=>by simp[nP]
 | m::r,n=>by
  rw[List.map_cons,nP]
  by_cases e:n=m
  ·simp[e]
  ·simp[e,NV r n]
theorem As7 {c:List AV} {es:Array MapEntry} {l:List Int} (A:es.toList.map (fun e=>(e.key,e.val))=l.map (fun n=>((.int .i64 n:Value),(.bool true:Value)))) {x:MapEntry} (B:x ∈ es.toList):∃ n,n ∈ l∧x.key=.int .i64 n∧x.val=.bool true:=by
 have:=List.mem_map_of_mem (f:=fun e:MapEntry=>(e.key,e.val)) B
 rw[A] at this
 obtain⟨n,hn,k⟩:=List.mem_map.1 this
 simp at k
 exact⟨n,hn,k.1.symm,k.2.symm⟩
theorem A6p {es:Array MapEntry} {l:List Int} (A:es.toList.map (fun e=>(e.key,e.val))=l.map (fun n=>((.int .i64 n:Value),(.bool true:Value)))) {n:Int} (hn:n ∈ l):∃ x ∈ es.toList,x.key=.int .i64 n:=by
 have:=List.mem_map_of_mem (f:=fun n:Int=>((.int .i64 n:Value),(.bool true:Value))) hn
 rw[←A] at this
 obtain⟨x,B,k⟩:=List.mem_map.1 this
 simp at k
 exact⟨x,B,k.1⟩
theorem As8 {c:List AV} {es:Array MapEntry} (S:A8p c es) (n:Int) :
  (nP c n=false∧Instr.findNow (.int .i64) (.int .i64 n) es.toList 0=some none) ∨
  (nP c n=true∧∃ j e,Instr.findNow (.int .i64) (.int .i64 n) es.toList 0=some (some (j,.bool true))∧es[j]?=some e∧e.key=.int .i64 n∧e.val=.bool true):=by
 obtain⟨l,rfl,G⟩:=S
 have I:∀ x ∈ es.toList,IsKey (.int .i64) x.key:=fun x L=>by
  obtain⟨m,_,B,_⟩:=As7 (c:=[]) G L
  rw[B];simp[IsKey]
 rcases findNow_spec (d:=.int .i64) (k:=.int .i64 n) (by simp[IsKey]) es.toList 0 I with⟨B,F⟩ | ⟨j,e,B,F,O⟩
 ·left
  refine⟨?_,B⟩
  cases T:nP (l.map fun m=>.int .i64 m) n with
  | false=>rfl
  | true =>
   obtain⟨x,L,U⟩:=A6p G ((NV l n).1 T)
   exact absurd U (F x L)
 ·right
  have C:e ∈ es.toList:=List.mem_of_getElem? F
  obtain⟨m,M,A,D⟩:=As7 (c:=[]) G C
  rw[O] at A;simp at A;subst A
  refine⟨(NV l n).2 M,j,e,?_,by simpa using F,O,D⟩
  rw[B,D,Nat.zero_add]
theorem zs {t:TypeId} (hs:Ao1 P t=true):∃ kt et,P.underlying t=some (.map kt et)∧P.underlying kt=some (.int .i64)∧∀ w,(zeroValue et).run P w=.ok (.bool false) w:=by
 unfold Ao1 at hs
 split at hs
 ·rename_i kt et F
  simp only[Bool.and_eq_true] at hs
  obtain⟨B,C⟩:=hs
  refine⟨kt,et,F,?_,fun w=>?_⟩
  ·split at B
   ·assumption
   ·cases B
  ·split at C
   ·rename_i k
    unfold Asu at k
    cases hi:P.info? et with
    | none=>rw[hi] at k;simp at k
    | some i =>
     rw[hi] at k
     cases A:i.zero with
     | none=>simp[A] at k
     | some z =>
      simp[A] at k
      have:z=.bool false:=by
       have D:=fk (J:=fun _ _=>False) (β:=fun _=>none) (h:=[]) (w:=w) z
       rw[k,Rep] at D;exact D
      subst this
      simp[zeroValue,typeInfo,hi,A]
   ·cases C
 ·cases hs
theorem A1x {b:Nat} {x:Blk} {v:Value} (S:SimH J β h w) (C:Au h b=some x) (D:x.dead=false) (hr:Rep J β h w (.omap b) v) :
  ∃ k es clk,x.mp=true∧β b=some (k,0)∧v=.map (some k)∧w.heap[k]?=some (.map es clk)∧A8p x.cells es∧x.sealed=false∧x.pure=true:=by
 rw[Rep] at hr
 obtain⟨y,k,⟨A,F⟩,I,hr⟩:=hr
 rw[C] at A;simp at A;subst A
 rcases hr with hr | G
 ·simp[D] at hr
 ·obtain⟨L,M,k',es,clk,B,O,T,_⟩:=S.mblk b x C D F
  rw[G] at B;simp at B;subst B
  exact⟨k,es,clk,F,G,I,O,T,M,L⟩
theorem zt {d:Nat} {t:TypeId} {k:AV→If→Option R} (S:SimH J β h w) (B:EH d none k=some r) :
  ∃ val ups,k val ups=some r∧(UpsFree d h ups→∃ vc w',(Instr.makeMap t none).run P w=.ok vc w'∧OpDone J β h w ups val vc w'):=by
 unfold EH at B
 refine⟨_,_,B,fun C=>⟨.map (some w.heap.size),w.alloc (.map #[] 0),rfl,?_⟩⟩
 have A:=Step.newMap (x:={ dead:=false,sealed:=false,pure:=true,taint:=false,sz:=0,cells:=[],mp:=true }) S (C.nid (by simp[Bh])) rfl rfl rfl rfl rfl
 refine⟨_,_,A,?_⟩
 rw[Rep]
 exact⟨{ dead:=false,sealed:=false,pure:=true,taint:=false,sz:=0,cells:=[],mp:=true },w.heap.size,⟨by simp[At,Ai],rfl⟩,rfl,.inr (by simp)⟩
theorem As9 {t:TypeId} {m key:AV} {c:Bool} {vm vk:Value} {k:AV→Option R} (S:SimH J β h w) (G:Looks g h) (C:Alf P g t m key c k=some r) (I:Rep J β h w m vm) (A:Rep J β h w key vk) :
  ∃ v vc,k v=some r∧(Instr.lookup t vm vk c).run P w=.ok vc w∧Rep J β h w v vc:=by
 unfold Alf at C
 split at C
 ·rename_i b n
  obtain⟨hs,L⟩:=uc C
  obtain⟨x,M,O⟩:=ub L
  obtain⟨T,U⟩:=uc O
  obtain⟨V,Y⟩:=M7 G M
  rw[Rep] at A;subst A
  obtain⟨kk,es,clk,_,hβ,rfl,A,hr,_,_⟩:=A1x S V Y I
  obtain⟨kt,et,u1,u2,u3⟩:=zs hs
  refine⟨_,.bool (nP x.cells n),U,?_,by rw[Rep]⟩
  have B:IsKey (.int .i64) (.int .i64 n):=by simp[IsKey]
  rcases As8 hr n with⟨D,F⟩ | ⟨D,j,e,F,_,_,_⟩
  ·rw[D]
   simp[Instr.lookup,run_underlying u1,run_getObj_map A,run_checkKey u2 B,run_findKey u2 F,u3,Result.andThen]
  ·rw[D]
   simp[Instr.lookup,run_underlying u1,run_getObj_map A,run_checkKey u2 B,run_findKey u2 F,Result.andThen]
 ·simp at C
theorem Apg {t:TypeId} {m key val:AV} {vm vk vv:Value} {k:AV→If→Option R} (S:SimH J β h w) (hl:Looks g h) (M:rt P g t m key val k=some r) (hm:Rep J β h w m vm) (A:Rep J β h w key vk) (hv:Rep J β h w val vv) :
  ∃ ups,k .undef ups=some r∧∃ J' β' w',(Instr.mapUpdate t vm vk vv).run P w=.ok () w'∧Step J β h w J' β' (At ups h) w':=by
 unfold rt at M
 split at M
 ·rename_i b n
  obtain⟨hs,h1⟩:=uc M
  obtain⟨x,hx,h2⟩:=ub h1
  obtain⟨B,h3⟩:=uc h2
  obtain⟨O,G⟩:=M7 hl hx
  simp only[Rep] at A hv;subst A hv
  obtain⟨kk,es,clk,_,hβ,rfl,A,hr,I,L⟩:=A1x S O G hm
  obtain⟨kt,et,u1,u2,u3⟩:=zs hs
  have C:IsKey (.int .i64) (.int .i64 n):=by simp[IsKey]
  have hlt:=fq A
  refine⟨_,h3,J,β,?_⟩
  rcases As8 hr n with⟨T,U⟩ | ⟨T,j,e,U,g3,g4,g5⟩
  ·refine⟨{ w with heap:=w.heap.setIfInBounds kk (.map (es.push { key:=.int .i64 n,val:=.bool true,born:=clk }) (clk+1)) },?_,?_⟩
   ·simp[Instr.mapUpdate,run_underlying u1,run_getObj_map A,run_checkKey u2 C,run_findKey u2 U,run_setObj_map _ A,Result.andThen]
   ·refine Step.setMap S O G B hβ A (heap_set A).1 (fun j V=>(heap_set A).2 j V) (by simp) rfl rfl rfl ?_ G I L rfl B
    obtain⟨l,D,F⟩:=hr
    refine⟨l++[n],?_,?_⟩
    ·show Axk x.cells n=_
     unfold Axk;rw[T,D];simp
    ·simp[F]
  ·refine⟨{ w with heap:=w.heap.setIfInBounds kk (.map (es.modify j fun e=>{ e with key:=.int .i64 n,val:=.bool true }) clk) },?_,?_⟩
   ·simp[Instr.mapUpdate,run_underlying u1,run_getObj_map A,run_checkKey u2 C,run_findKey u2 U,g3,g4,run_keyThatStays C,run_setObj_map _ A,Result.andThen]
   ·refine Step.setMap S O G B hβ A (heap_set A).1 (fun j V=>(heap_set A).2 j V) (by simp) rfl rfl rfl ?_ G I L rfl B
    obtain⟨l,D,F⟩:=hr
    refine⟨l,?_,?_⟩
    ·show Axk x.cells n=_
     unfold Axk;rw[T,D];rfl
    ·have:es.modify j (fun e=>{ e with key:=.int .i64 n,val:=.bool true })=es:=by
      apply Array.ext_getElem?
      intro i
      rw[Array.getElem?_modify]
      split
      ·rename_i Y;subst Y
       rw[g3];simp;rw[←g4,←g5]
      ·rfl
     rw[this];exact F
 ·simp at M
end
end Gx

namespace Gx
open Go
def lU (E:Env):Prop:=∀ (R:Type) (r:R) (k:AV→If→Option R) (J:Bool→Nat→Prop) (β:C1) (h:Am) (w:World) (g:B8) (d f:Nat) (args:List AV) (vs:List Value),
 SimH J β h w→Looks g h→Alg E g d f args k=some r→Reps J β h w args vs →
 ∃ val ups,k val ups=some r∧(UpsFree d h ups→Calls E.P f vs.toArray w fun e w'=>∃ vc,e=.returned vc∧OpDone J β h w ups val vc w')
section
variable {R:Type} {r:R} {P:Program} {J J':Bool→Nat→Prop} {β:C1} {h:Am} {w w':World} {g:B8} {o:Oper} {a:Act} {next:Act→World→Prop} {Q:Exit→Act→World→Prop}
theorem Od {vc:Value} (k:(execOp a.eval o).run P w=.ok (.value vc) w') (hn:next (a.put o.dst vc) w'):o.wp P a w next Q:=by
 unfold Oper.wp;rw[k];exact hn
theorem Ata (k:(execOp a.eval o).run P w=.ok .skip w') (hn:next (a.put o.dst undef) w'):o.wp P a w next Q:=by
 unfold Oper.wp;rw[k];exact hn
theorem OpDone.same (S:SimH J β h w) {v:AV} {vc:Value} (k:Rep J β h w v vc):OpDone J β h w [] v vc w:=⟨J,β,Step.refl S,k⟩
theorem zu {s:Ho} (SS:SimS J β h w s a.tmps):∀ (xs:List Operand),Reps J β h w (xs.map (ev s)) (xs.map a.eval)
 | []=>by simp[Reps]
 | x::r=>by rw[List.map_cons,List.map_cons,Reps];exact⟨_,_,rfl,Bp SS x,zu SS r⟩
theorem CI {s:Ho} (SS:SimS J β h w s a.tmps):∀ (ps:List (Nat×Operand)),RepParts J β h w (ps.map fun p=>(p.1,ev s p.2)) (ps.map fun p=>(p.1,a.eval p.2))
 | []=>by simp[RepParts]
 | p::r=>by rw[List.map_cons,List.map_cons,RepParts];exact⟨_,_,rfl,Bp SS p.2,CI SS r⟩
theorem zw {s:Ho} (SS:SimS J β h w s a.tmps) (x:Option Operand):IK J β h w (x.map (ev s)) (x.map a.eval):=by
 cases x with
 | none=>simp[IK]
 | some x=>simp[IK];exact Bp SS x
theorem Reps.append:∀ {c c':List AV} {cs cs':List Value},Reps J β h w c cs→Reps J β h w c' cs'→Reps J β h w (c++c') (cs++cs')
 | [],c',cs,cs',k,A=>by rw[Reps] at k;subst k;exact A
 | x::r,c',cs,cs',k,A=>by
  rw[Reps] at k
  obtain⟨u,us,rfl,B,C⟩:=k
  rw[List.cons_append,List.cons_append,Reps]
  exact⟨u,us++cs',rfl,B,Reps.append C A⟩
theorem Atb {J:Nat→Prop}:∀ {c:List AV} {cs:List Value},Bd c=true→Reps (fun _ _=>False) (fun _=>none) [] w c cs→RepCs J w c (fun j=>cs[j]?) 0∧cs.length=c.length:=by
 intro c cs D hr
 rw[C2] at hr
 refine⟨?_,hr.1⟩
 rw[Cw]
 intro j x A
 have k:j<cs.length:=by rw[hr.1];exact(List.getElem?_eq_some_iff.1 A).1
 refine⟨cs[j],by simp[k],?_⟩
 have B:=hr.2 j x cs[j] A (List.getElem?_eq_getElem k)
 have F:Bd [x]=true:=by
  clear hr B k
  induction c generalizing j with
  | nil=>simp at A
  | cons y r G =>
   have C:Bd r=true:=by unfold Bd at D;split at D<;>simp_all
   cases j with
   | zero=>simp at A;subst A;cases y<;>simp_all[Bd]
   | succ j=>exact G C j (by simpa using A)
 cases x<;>simp[Bd] at F<;>(rw[Rep] at B;rw[RepC];exact B)
theorem A3b {co:Bool} {v:AV} {vv:Value} (k:∀ (J:Bool→Nat→Prop) (β:C1) (h:Am),Rep J β h w v vv):Rep J β h w (A6g co v) vv:=by
 unfold A6g
 split
 ·rename_i c
  cases B:Bd c with
  | false=>exact k J β h
  | true =>
   have A:=k (fun _ _=>False) (fun _=>none) []
   rw[Rep] at A
   obtain⟨cs,rfl,C⟩:=A
   obtain⟨D,F⟩:=Atb (J:=J false) B C
   rw[cond_true,Rep]
   exact⟨cs,rfl,F,D⟩
 ·exact k J β h
theorem Aph {co:Bool} {d:Nat} {t:TypeId} {k:AV→If→Option R} (S:SimH J β h w) (U:Looks g h) (C:rp P g co d t k=some r) :
  ∃ v val ups,(∃ i,P.info? t=some i∧i.zero=some v)∧k val ups=some r∧(UpsFree d h ups→∃ vc w',(Instr.box t v).run P w=.ok vc w'∧OpDone J β h w ups val vc w'):=by
 have zv:∀ {z:AV},Asu P t=some z→∃ v,(∃ i,P.info? t=some i∧i.zero=some v)∧uE v=z:=by
  intro z B
  unfold Asu at B
  cases hi:P.info? t with
  | none=>simp[hi] at B
  | some i =>
   cases D:i.zero with
   | none=>simp[hi,D] at B
   | some v=>simp[hi,D] at B;exact⟨v,⟨i,rfl,D⟩,B⟩
 unfold rp at C
 split at C
 ·rename_i el hu B
  obtain⟨v,F,G⟩:=zv B
  obtain⟨sz,hs,C⟩:=ub C
  refine⟨v,_,_,F,C,fun T=>⟨_,_,ft,?_⟩⟩
  have hr:=fk (J:=J) (β:=β) (h:=h) (w:=w) v
  rw[G,Rep] at hr;subst hr
  have I:∀ b,b=nid d+1→WC d b=true:=fun b V=>by subst V;unfold WC nid;simp
  have L:Au h (nid d+1)=none:=T _ (by simp[Bh]) (I _ rfl)
  have M:Au h (nid d)=none:=T.nid (by simp[Bh])
  have A:=Step.newNone S (d:=nid d+1) (x:=Gv sz) L rfl
  have e:([(nid d+1,some (Gv sz)),(nid d,some { dead:=false,sealed:=false,pure:=false,taint:=false,sz:=0,cells:=[.own (nid d+1) 0 0] })]:If)=[(nid d+1,some (Gv sz))]++[(nid d,some { dead:=false,sealed:=false,pure:=false,taint:=false,sz:=0,cells:=[.own (nid d+1) 0 0] })]:=rfl
  rw[e]
  refine OpDone.after A (nY A.sim ?_ rfl rfl (by simp[Value.cells]) ⟨fun Y=>by simp at Y,fun _ j y O=>?_⟩) (V5 _ _)
  ·simp only[At];rw[Ai,if_neg (by omega)];exact M
  ·cases j with
   | zero =>
    simp at O;subst O
    refine⟨.slice none 0 0,by simp[Value.cells],?_,rfl⟩
    rw[Rep]
    exact⟨Gv sz,none,0,⟨by simp[At,Ai],rfl⟩,rfl,Nat.le_refl _,.inl rfl⟩
   | succ j=>simp at O
 ·rename_i z B _
  obtain⟨v,F,G⟩:=zv B
  obtain⟨val,ups,L,M⟩:=zo S U C (vv:=v) (A3b fun J β h=>by rw[←G];exact fk v)
  exact⟨v,val,ups,F,L,M⟩
 ·simp at C
theorem Atc {c x y:AV} {vc vx vy:Value} {k:AV→Option R} (A:Alh c x y k=some r) (B:Rep J β h w c vc) (C:Rep J β h w x vx) (D:Rep J β h w y vy) :
  ∃ v,k v=some r∧∃ t:Bool,vc=.bool t∧Rep J β h w v (if t then vx else vy):=by
 unfold Alh at A
 split at A
 ·rename_i t a b
  rw[Rep] at B C D
  subst B C D
  exact⟨_,A,t,rfl,by cases t<;>simp[Rep]⟩
 ·rename_i t x _
  rw[Rep] at B;subst B
  obtain⟨F,G⟩:=uc A
  subst F
  exact⟨_,G,true,rfl,C⟩
 ·rename_i t _ _ _
  rw[Rep] at B;subst B
  obtain⟨F,G⟩:=Axn A
  subst F
  exact⟨_,G,false,rfl,D⟩
 ·rename_i t _ _ _
  rw[Rep] at B;subst B
  cases t
  ·exact⟨_,A,false,rfl,D⟩
  ·exact⟨_,A,true,rfl,C⟩
 ·simp at A
theorem Axu {E:Env} (hC:lU E) {d:Nat} {s:Ho} {k:AV→If→Option R} (S:SimH J β h w) (SS:SimS J β h w s a.tmps) (U:Looks g h)
  (A:Ain E g d (ev s) o.op k=some r) :
  ∃ val ups,k val ups=some r∧(UpsFree d h ups→(∀ vc w',OpDone J β h w ups val vc w'→next (a.put o.dst vc) w')→o.wp E.P a w next Q):=by
 unfold Ain at A
 have same:∀ {v:AV} {vc:Value},k v []=some r→(execOp a.eval o).run E.P w=.ok (.value vc) w→Rep J β h w v vc →
   ∃ val ups,k val ups=some r∧(UpsFree d h ups→(∀ vc w',OpDone J β h w ups val vc w'→next (a.put o.dst vc) w')→o.wp E.P a w next Q) :=
  fun hk Y hr=>⟨_,_,hk,fun _ hn=>Od Y (hn _ _ (OpDone.same S hr))⟩
 split at A
 ·rename_i x F
  exact same A (by simp[execOp,F]) (Bp SS x)
 ·rename_i x F
  exact same A (by simp[execOp,F]) (Bp SS x)
 ·rename_i c x y F
  obtain⟨v,B,C⟩:=Atc A (Bp SS c) (Bp SS x) (Bp SS y)
  obtain⟨t,ht,hr⟩:=C
  refine same B (vc:=if t then a.eval x else a.eval y) ?_ hr
  cases t<;>simp[execOp,F,ht,Go.asBool]
 ·rename_i t F
  obtain⟨v,val,ups,h0,B,C⟩:=Aph S U A
  refine⟨val,ups,B,fun M hn=>?_⟩
  obtain⟨vc,w',D,I⟩:=C M
  refine Od ?_ (hn vc w' I)
  rw[ft] at D
  simp only[Result.ok.injEq] at D
  obtain⟨rfl,rfl⟩:=D
  obtain⟨i,hi,hiz⟩:=h0
  simp[execOp,F,Instr.alloc,zeroValue,typeInfo,hi,hiz,newVar,newRow]
 ·rename_i t x F
  obtain⟨v',h0,hv'⟩:=Apb A (Bp SS x)
  obtain⟨val,ups,B,C⟩:=zo S U h0 hv'
  refine⟨val,ups,B,fun M hn=>?_⟩
  obtain⟨vc,w',D,I⟩:=C M
  exact Od (by simp[execOp,F,D]) (hn vc w' I)
 ·rename_i t parts F
  rw[lS] at A
  obtain⟨v,G,A⟩:=ub A
  obtain⟨u,B,C⟩:=Apf (P:=E.P) S G (CI SS parts.toList)
  obtain⟨val,ups,D,I⟩:=Axr S A C
  refine⟨val,ups,D,fun M hn=>Od ?_ (hn _ _ (I M))⟩
  have:(parts.map fun p=>(p.1,a.eval p.2))=(parts.toList.map fun p=>(p.1,a.eval p.2)).toArray:=by apply Array.ext';simp
  simp[execOp,F,this,B]
 ·rename_i t len parts F
  have:(parts.map fun p=>(p.1,a.eval p.2))=(parts.toList.map fun p=>(p.1,a.eval p.2)).toArray:=by apply Array.ext';simp
  cases hhard:(parts.toList.map fun p=>(p.1,ev s p.2)).any fun p=>A6h p.2 with
  | true =>
   rw[hhard] at A
   obtain⟨val,ups,B,C⟩:=sB S A (CI SS parts.toList)
   refine⟨val,ups,B,fun M hn=>?_⟩
   obtain⟨vc,w',D,I⟩:=C M
   exact Od (by simp[execOp,F,this,D]) (hn vc w' I)
  | false =>
   rw[hhard] at A
   obtain⟨val,ups,B,C⟩:=n6 S U A (CI SS parts.toList)
   refine⟨val,ups,B,fun M hn=>?_⟩
   obtain⟨vc,w',D,I⟩:=C M
   exact Od (by simp[execOp,F,this,D]) (hn vc w' I)
 ·rename_i t p F
  obtain⟨v,vc,B,C,D⟩:=uO S U A (Bp SS p)
  exact same B (by simp[execOp,F,C]) D
 ·rename_i t p x F
  obtain⟨val,ups,B,J',β',w',C,D,rfl⟩:=Apa S U A (Bp SS p) (Bp SS x)
  exact⟨.undef,ups,B,fun _ hn=>Ata (w':=w') (by simp[execOp,F,C]) (hn undef w' ⟨J',β',D,by simp[Rep]⟩)⟩
 ·rename_i x F
  have B:=Bp SS x
  split at A
  ·rename_i c oo O
   rw[O] at B
   refine same A (vc:=a.eval x) ?_ B
   rw[Rep,RepC] at B
   obtain⟨ad,C,_⟩:=B
   simp[execOp,F,C]
  ·rename_i b oo O
   rw[O] at B
   refine same A (vc:=a.eval x) ?_ B
   rw[Rep] at B
   obtain⟨_,kk,o',_,C,_⟩:=B
   simp[execOp,F,C]
  ·simp at A
 ·rename_i op t x y t2 F
  obtain⟨v,vc,B,C,D⟩:=As6 A (Bp SS x) (Bp SS y) x y
  refine same B ?_ D
  simp only[execOp,F]
  rw[Sem.run_bind,C];simp
 ·rename_i op t x F
  obtain⟨v,G,A⟩:=ub A
  obtain⟨vc,C,D⟩:=A29 (P:=E.P) G (Bp SS x)
  exact same A (by simp[execOp,F,C]) D
 ·rename_i src dst x F
  obtain⟨val,ups,B,C⟩:=As4 S U A (Bp SS x)
  refine⟨val,ups,B,fun M hn=>?_⟩
  obtain⟨vc,w',D,I⟩:=C M
  exact Od (by simp[execOp,F,D]) (hn vc w' I)
 ·rename_i f first caps F
  obtain⟨M,A⟩:=uc A
  have hf':f<1000000:=by simpa using M
  have key:∀ (a n:Nat),a<1000000→(a+1000000*n)%1000000=a∧(a+1000000*n)/1000000=n:=by intro a n h;omega
  have e1:=(key f first.toList.length hf').1
  have e2:=(key f first.toList.length hf').2
  refine same (vc:=.func (.func f) ⟨first.toList.map a.eval⟩ ⟨caps.toList.map a.eval⟩) A ?_ ?_
  ·simp only[execOp,F,Instr.makeFunc]
   simp
   refine⟨?_,?_⟩<;>(apply Array.ext';simp)
  ·rw[Rep,e1,e2]
   refine⟨(first.toList++caps.toList).map a.eval,?_,zu SS _⟩
   simp
 ·rename_i t l c F
  obtain⟨val,ups,B,C⟩:=As1 S A (Bp SS l) (Bp SS c)
  refine⟨val,ups,B,fun M hn=>?_⟩
  obtain⟨vc,w',D,I⟩:=C M
  exact Od (by simp[execOp,F,D]) (hn vc w' I)
 ·rename_i t x lo hi mx F
  obtain⟨v,vc,B,C,D⟩:=Ao9 U A (Bp SS x) (zw SS lo) (zw SS hi) (zw SS mx)
  exact same B (by simp[execOp,F,C]) D
 ·rename_i t x f F
  obtain⟨v,vc,B,C,D⟩:=sA A (Bp SS x)
  exact same B (by simp[execOp,F,C]) D
 ·rename_i t x f F
  obtain⟨v,vc,B,C,D⟩:=Ao7 A (Bp SS x)
  exact same B (by simp[execOp,F,C]) D
 ·rename_i t x i F
  obtain⟨v,vc,B,C,D⟩:=rz A (Bp SS x) (Bp SS i)
  exact same B (by simp[execOp,F,C]) D
 ·rename_i t x i F
  obtain⟨v,vc,B,C,D⟩:=Ao8 A (Bp SS x) (Bp SS i)
  exact same B (by simp[execOp,F,C]) D
 ·rename_i t rr F
  cases rr with
  | some x=>simp[EH] at A
  | none =>
   obtain⟨val,ups,B,C⟩:=zt (P:=E.P) (t:=t) S A
   refine⟨val,ups,B,fun M hn=>?_⟩
   obtain⟨vc,w',D,I⟩:=C M
   exact Od (by simp[execOp,F,D]) (hn vc w' I)
 ·rename_i t m x y F
  obtain⟨ups,B,J',β',w',C,D⟩:=Apg S U A (Bp SS m) (Bp SS x) (Bp SS y)
  exact⟨.undef,ups,B,fun _ hn=>Ata (w':=w') (by simp[execOp,F,C]) (hn undef w' ⟨J',β',D,by simp[Rep]⟩)⟩
 ·rename_i t m x c F
  obtain⟨v,vc,B,C,D⟩:=As9 S U A (Bp SS m) (Bp SS x)
  exact same B (by simp[execOp,F,C]) D
 ·rename_i t i F
  split at A
  ·rename_i vs ht
   obtain⟨v,G,A⟩:=ub A
   have B:=Bp SS t
   rw[ht,Rep] at B
   obtain⟨cs,C,D⟩:=B
   rw[C2] at D
   have hlt:i<cs.length:=by rw[D.1];exact(List.getElem?_eq_some_iff.1 G).1
   refine same A (vc:=cs[i]) ?_ (D.2 i v _ G (List.getElem?_eq_getElem hlt))
   simp[execOp,F,Instr.extract,C,hlt]
  ·simp at A
 ·rename_i c F
  split at A
  ·rename_i T
   split at A
   ·rename_i x t B C
    obtain⟨v,G,A⟩:=ub A
    have e1:c.args=#[x]:=by apply Array.ext';simpa using B
    have e2:c.argTypes=#[t]:=by apply Array.ext';simpa using C
    obtain⟨vc,D,I⟩:=Axo (P:=E.P) (ty:=o.type) G (Bp SS x)
    refine same A ?_ I
    simp[execOp,F,resolve,T,e1,e2,invoke,builtin,D]
   ·simp at A
  ·rename_i T
   split at A
   ·rename_i x y t tx B C
    have e1:c.args=#[x,y]:=by apply Array.ext';simpa using B
    have e2:c.argTypes=#[t,tx]:=by apply Array.ext';simpa using C
    obtain⟨val,ups,D,I⟩:=Aip (ty:=o.type) S U A (Bp SS x) (Bp SS y)
    refine⟨val,ups,D,fun M hn=>?_⟩
    obtain⟨vc,w',h5,h6⟩:=I M
    refine Od ?_ (hn vc w' h6)
    simp[execOp,F,resolve,T,e1,e2,invoke,builtin,h5]
   ·simp at A
  ·rename_i T
   split at A
   ·rename_i x y t tx B C
    have e1:c.args=#[x,y]:=by apply Array.ext';simpa using B
    have e2:c.argTypes=#[t,tx]:=by apply Array.ext';simpa using C
    obtain⟨val,ups,D,vc,w',h5,h6⟩:=As3 (tx:=tx) (ty:=o.type) S U A (Bp SS x) (Bp SS y)
    refine⟨val,ups,D,fun M hn=>?_⟩
    refine Od ?_ (hn vc w' h6)
    simp[execOp,F,resolve,T,e1,e2,invoke,builtin,h5]
   ·simp at A
  ·rename_i T
   split at A
   ·rename_i x y B
    obtain⟨v,G,A⟩:=ub A
    have e1:c.args=#[x,y]:=by apply Array.ext';simpa using B
    have C:=Bp SS x
    have D:=Bp SS y
    unfold A26 at G
    split at G
    ·rename_i k1 a1 k2 a2 O hy
     simp at G;subst G
     rw[O,Rep] at C;rw[hy,Rep] at D
     refine same A (vc:=.int k1 (Bv a1 a2)) ?_ (by rw[Rep])
     simp[execOp,F,resolve,T,e1,invoke,builtin,C,D,Builtin.min_,Builtin.min2,Bv,cond_eq_ite]
    ·simp at G
   ·rename_i x y z B
    obtain⟨q,V,A⟩:=ub A
    obtain⟨v,G,A⟩:=ub A
    have e1:c.args=#[x,y,z]:=by apply Array.ext';simpa using B
    have C:=Bp SS x
    have D:=Bp SS y
    have I:=Bp SS z
    unfold A26 at V
    split at V
    ·rename_i k1 a1 k2 a2 O hy
     simp at V;subst V
     unfold A26 at G
     split at G
     ·rename_i k3 a3 k4 a4 hx2 hz
      simp at hx2;obtain⟨rfl,rfl⟩:=hx2
      simp at G;subst G
      rw[O,Rep] at C;rw[hy,Rep] at D;rw[hz,Rep] at I
      refine same A (vc:=.int k1 (Bv (Bv a1 a2) a4)) ?_ (by rw[Rep])
      simp[execOp,F,resolve,T,e1,invoke,builtin,C,D,I,Builtin.min_,Builtin.min2,Bv,cond_eq_ite]
     ·simp at G
    ·simp at V
   ·simp at A
  ·rename_i T
   split at A
   ·rename_i x y B
    obtain⟨v,G,A⟩:=ub A
    have e1:c.args=#[x,y]:=by apply Array.ext';simpa using B
    have C:=Bp SS x
    have D:=Bp SS y
    unfold A27 at G
    split at G
    ·rename_i k1 a1 k2 a2 O hy
     simp at G;subst G
     rw[O,Rep] at C;rw[hy,Rep] at D
     refine same A (vc:=.int k1 (Ig a1 a2)) ?_ (by rw[Rep])
     simp[execOp,F,resolve,T,e1,invoke,builtin,C,D,Builtin.max_,Builtin.max2,Ig,cond_eq_ite]
    ·simp at G
   ·rename_i x y z B
    obtain⟨q,V,A⟩:=ub A
    obtain⟨v,G,A⟩:=ub A
    have e1:c.args=#[x,y,z]:=by apply Array.ext';simpa using B
    have C:=Bp SS x
    have D:=Bp SS y
    have I:=Bp SS z
    unfold A27 at V
    split at V
    ·rename_i k1 a1 k2 a2 O hy
     simp at V;subst V
     unfold A27 at G
     split at G
     ·rename_i k3 a3 k4 a4 hx2 hz
      simp at hx2;obtain⟨rfl,rfl⟩:=hx2
      simp at G;subst G
      rw[O,Rep] at C;rw[hy,Rep] at D;rw[hz,Rep] at I
      refine same A (vc:=.int k1 (Ig (Ig a1 a2) a4)) ?_ (by rw[Rep])
      simp[execOp,F,resolve,T,e1,invoke,builtin,C,D,I,Builtin.max_,Builtin.max2,Ig,cond_eq_ite]
     ·simp at G
    ·simp at V
   ·simp at A
  ·rename_i fo T
   split at A
   ·rename_i f0 caps M
    have B:=Bp SS fo
    rw[M,Rep] at B
    obtain⟨cs0,C,h30⟩:=B
    obtain⟨L,A⟩:=uc A
    have htk:Reps J β h w (caps.take (f0/1000000)) (cs0.take (f0/1000000))∧Reps J β h w (caps.drop (f0/1000000)) (cs0.drop (f0/1000000)):=by
     rw[C2] at h30
     refine⟨C2.2 ⟨by simp[h30.1],fun j x u O hu=>?_⟩,C2.2 ⟨by simp[h30.1],fun j x u O hu=>?_⟩⟩
     ·rw[List.getElem?_take] at O hu
      split at O
      ·rename_i hj;rw[if_pos hj] at hu;exact h30.2 j x u O hu
      ·simp at O
     ·rw[List.getElem?_drop] at O hu;exact h30.2 _ x u O hu
    generalize f0%1000000=f at *
    generalize cs0.take (f0/1000000)=fs at *
    generalize cs0.drop (f0/1000000)=cs at *
    obtain⟨val,ups,I,h5⟩:=hC R r k J β h w g d f _ _ S U A (htk.1.append ((zu SS c.args.toList).append htk.2))
    refine⟨val,ups,I,fun hfr hn=>?_⟩
    have hcall:=h5 hfr
    unfold A1p at L
    cases hfn:E.P.funcs[f]? with
    | none=>rw[hfn] at L;simp at L
    | some fn =>
     rw[hfn] at L
     simp at L
     obtain⟨hb1,hb2⟩:=L
     have hb3:fn.body.isNone=false:=by cases V:fn.body<;>simp_all
     have hargs:(⟨fs⟩:Array Value)++c.args.map a.eval++(⟨cs⟩:Array Value)=(fs++(c.args.toList.map a.eval++cs)).toArray:=by apply Array.ext';simp
     have Y:(execOp a.eval o).run E.P w=.ok (.enter f (fs++(c.args.toList.map a.eval++cs)).toArray) w:=by
      simp only[execOp,F,Sem.run_bind,resolve,T,C,Deferred.ofValue,Sem.run_pure,Result.andThen_ok,invoke,callFunc,run_program,hfn]
      simp only[hb3,hargs]
      simp[hb2]
     unfold Oper.wp
     rw[Y]
     refine Calls.mono hcall ?_
     rintro e w' ⟨vc,rfl,hd⟩
     exact hn vc w' hd
   ·simp at A
  ·simp at A
 ·simp at A
end
end Gx

namespace Gx
open Go
structure Start where
 J:Bool→Nat→Prop
 β:C1
 h:Am
 w:World
structure Inv (Z:Start) (nt:Nat) (J:Bool→Nat→Prop) (β:C1) (st:St) (a:Act) (w:World):Prop where
 sim:SimH J β st.h w
 ss:SimS J β st.h w st.s a.tmps
 tmps:a.tmps.size=nt
 defers:a.defers=[]
 os:w.os=Z.w.os
 tape:w.tape=Z.w.tape
 output:w.output=Z.w.output
 size:Z.w.heap.size≤w.heap.size
 frame:∀ k,k<Z.w.heap.size→¬ As0 Z.β Z.h k→w.heap[k]?=Z.w.heap[k]?
 wr:∀ k,As0 β st.h k→k<Z.w.heap.size→As0 Z.β Z.h k
 jsub:∀ o k,Z.J o k→J o k
 jup:∀ o k,J o k→Z.J o k∨As0 Z.β Z.h k∨Z.w.heap.size≤k
 sizes:∀ k,Bt Z.w k≤Bt w k
 zlt:∀ b x0,Au Z.h b=some x0→b<200000
 zge:∀ b x0,Au Z.h b=some x0→100000≤b
 outs:∀ b x0 x,Au Z.h b=some x0→Au st.h b=some x→x.dead=false→(β b=Z.β b∧x.mp=x0.mp)∧x.sz=x0.sz∧(x0.mp=false→x.cells.length=x0.cells.length)∧x0.dead=false
section
variable {R:Type} {r:R} {Z:Start} {nt:Nat} {J J':Bool→Nat→Prop} {β β':C1} {st:St} {h':Am} {a:Act} {w w':World} {ops:Array Oper} {o:Oper}
theorem Pw {s:Ho} {d:Option Nat} {v:AV} {i:Nat}:Gu (Axl nt s d v) i=if d=some i∧i<nt then v else Gu s i:=by
 unfold Axl
 cases d with
 | none=>simp
 | some d =>
  simp only[Option.some.injEq]
  cases A:Nat.blt d nt with
  | true =>
   have k:d<nt:=by simpa using A
   simp only[cond_true]
   rw[Pu]
   by_cases e:i=d
   ·subst e;simp[k]
   ·rw[if_neg e,if_neg (fun B=>e B.1.symm)]
  | false =>
   have k:¬ d<nt:=by intro C;rw[show Nat.blt d nt=true by simpa using C] at A;cases A
   simp only[cond_false]
   rw[if_neg (fun B=>by obtain⟨D,F⟩:=B;subst D;exact k F)]
theorem SimS.put {h:Am} {s:Ho} {d:Option Nat} {v:AV} {vc:Value} (H:SimS J β h w s a.tmps) (hn:a.tmps.size=nt) (B:Rep J β h w v vc):SimS J β h w (Axl nt s d v) (a.put d vc).tmps:=by
 refine⟨fun i u k=>?_,fun i hi=>?_⟩
 ·rw[Pw]
  cases d with
  | none=>simp;exact H.slot i u k
  | some d =>
   simp only[Act.put] at k
   rw[Array.getElem?_setIfInBounds] at k
   by_cases e:d=i
   ·subst e
    simp only[if_true] at k
    by_cases A:d<a.tmps.size
    ·simp[A] at k;subst k
     rw[if_pos ⟨rfl,by omega⟩];exact B
    ·simp[A] at k
   ·rw[if_neg e] at k
    rw[if_neg (fun C=>e (by simpa using C.1))]
    exact H.slot i u k
 ·have hs:(a.put d vc).tmps.size=a.tmps.size:=by cases d<;>simp[Act.put]
  rw[hs] at hi
  rw[Pw,if_neg (by omega)]
  exact H.out i hi
theorem SimS.ext {h:Am} {s:Ho} {t:Array Value} (E:Ext J β h w J' β' h' w') (H:SimS J β h w s t):SimS J' β' h' w' s t :=
 ⟨fun i v k=>Rep.ext E (H.slot i v k),H.out⟩
theorem Inv.step (I:Inv Z nt J β st a w) (A:Step J β st.h w J' β' h' w') (F:∀ b x,Au h' b=some x→Au st.h b=none→H9≤b):Inv Z nt J' β' { s:=st.s,h:=h' } a w' where
 sim:=A.sim
 ss:=I.ss.ext A.ext
 tmps:=I.tmps
 defers:=I.defers
 os:=A.os.trans I.os
 tape:=A.tape.trans I.tape
 output:=A.output.trans I.output
 size:=Nat.le_trans I.size A.size
 frame k B C:=(A.frame k (Nat.lt_of_lt_of_le B I.size) (fun M=>C (I.wr k M B))).trans (I.frame k B C)
 wr k C B:=I.wr k (A.wr k C (Nat.lt_of_lt_of_le B I.size)) B
 jsub o k O:=A.ext.jsub o k (I.jsub o k O)
 jup o k O:=by
  rcases A.jup o k O with G | G | G
  ·exact I.jup o k G
  ·by_cases B:k<Z.w.heap.size
   ·exact .inr (.inl (I.wr k G B))
   ·exact .inr (.inr (by omega))
  ·exact .inr (.inr (Nat.le_trans I.size G))
 sizes k:=by
  refine Nat.le_trans (I.sizes k) ?_
  by_cases C:∃ b o,β b=some (k,o)
  ·obtain⟨b,o,D⟩:=C;exact A.ext.size b k o D
  ·by_cases B:k<w.heap.size
   ·have:=A.frame k B (fun ⟨b,x,o,_,_,_,D⟩=>C ⟨b,o,D⟩)
    simp[Bt,this]
   ·simp[Bt,Array.getElem?_eq_none (Nat.le_of_not_lt B)]
 outs b x0 x U S V:=by
  cases D:Au st.h b with
  | none=>have:=F b x S D;have:=I.zlt b x0 U;unfold H9 at *;omega
  | some y =>
   obtain⟨x',⟨T,gm⟩,L⟩:=A.ext.blk b y D
   change Au h' b=some x at S
   rw[S] at T;simp at T;subst T
   rcases L with L | ⟨L,Y,g4,g5⟩
   ·simp[V] at L
   ·obtain⟨⟨e1,em⟩,e2,e3,e4⟩:=I.outs b x0 y U D L
    exact⟨⟨Y.trans e1,gm.trans em⟩,g4.trans e2,fun h=>(g5 (em.trans h)).trans (e3 h),e4⟩
 zlt:=I.zlt
 zge:=I.zge
theorem Inv.put (I:Inv Z nt J β st a w) {d:Option Nat} {v:AV} {vc:Value} (k:Rep J β st.h w v vc):Inv Z nt J β { s:=Axl nt st.s d v,h:=st.h } (a.put d vc) w where
 sim:=I.sim
 ss:=I.ss.put I.tmps k
 tmps:=by cases d<;>simp[Act.put,I.tmps]
 defers:=by cases d<;>simp[Act.put,I.defers]
 os:=I.os
 tape:=I.tape
 output:=I.output
 size:=I.size
 frame:=I.frame
 wr:=I.wr
 jsub:=I.jsub
 jup:=I.jup
 sizes:=I.sizes
 zlt:=I.zlt
 zge:=I.zge
 outs:=I.outs
theorem zx {d:Nat} {F:List Nat} {h:Am}:∀ {ups:If},iS d F h ups=true→∀ b,Bh ups b=true→(WC d b=true∧Au h b=none)∨(WC d b=false∧Kj F b=true∧∃ x,Au h b=some x)
 | [],_,b,A=>by simp[Bh] at A
 | (i,_)::r,k,b,A=>by
  rw[iS] at k
  simp at k
  rw[Bh] at A
  cases hi:Nat.beq i b with
  | true =>
   have:i=b:=Nat.eq_of_beq_eq_true hi
   subst this
   cases hn:WC d i with
   | true=>rw[hn] at k;simp at k;exact .inl ⟨rfl,k.1⟩
   | false =>
    rw[hn] at k;simp at k
    obtain⟨⟨B,C⟩,_⟩:=k
    exact .inr ⟨rfl,B,Option.isSome_iff_exists.1 C⟩
  | false=>rw[hi] at A;exact zx k.2 b (by simpa using A)
theorem A6q {d b:Nat} (hn:WC d b=true):H9≤b:=by
 unfold WC nid at hn
 simp at hn
 unfold H9;omega
theorem Api {d:Nat} {F:List Nat} {h:Am} {ups:If} (B:iS d F h ups=true) {b:Nat} {x:Blk} (k:Au (At ups h) b=some x) (hn:Au h b=none):H9≤b:=by
 cases hi:Bh ups b with
 | false=>rw[C9 _ _ _ hi,hn] at k;cases k
 | true =>
  rcases zx B b hi with⟨C,_⟩ | ⟨_,_,y,A⟩
  ·exact A6q C
  ·rw[hn] at A;cases A
theorem Axv {h:Am} {F:List Nat}:Looks (fun b=>cond (Kj F b) (Au h b) none) h:=fun b x k=>by
 cases A:Kj F b with
 | true=>simpa[A] using k
 | false=>simp[A] at k
theorem Aiq {h:Am} {s:Ho} (H:SimS J β h w s a.tmps) {t:Bool} (k:SH ops s o=some t):Region.wanted o (yielded ops a.tmps)=t:=by
 unfold SH at k
 unfold Region.wanted
 split at k
 ·rename_i A;rw[A];simpa using k
 ·rename_i j want A
  rw[A]
  simp only
  unfold yielded
  split at k
  ·rename_i t' B
   rw[B]
   simp only[Option.bind_some]
   cases D:a.tmps[t']? with
   | none =>
    have:=H.out t' (by simpa using D)
    rw[this] at k;simp at k
   | some v =>
    have hr:=H.slot t' v D
    split at k
    ·rename_i b C
     rw[C,Rep] at hr;subst hr
     simp at k;subst k
     simp
    ·rename_i C
     rw[C,Rep] at hr
     obtain⟨cs,rfl,F⟩:=hr
     rw[Reps] at F;subst F
     simp at k;subst k
     simp
    ·simp at k
  ·rename_i B
   rw[B]
   simp at k;subst k
   simp
theorem zy {E:Env} (hC:lU E) (I:Inv Z E.nt J β st a w) {k:St→Foot→Option R} (C:Asy E ops o st k=some r) {K:Act→World→Prop} {Q:Exit→Act→World→Prop} :
  ∃ st' f,k st' f=some r∧((∀ a' w' J' β',Inv Z E.nt J' β' st' a' w'→K a' w')→if Region.wanted o (yielded ops a.tmps) then o.wp E.P a w K Q else K (a.put o.dst undef) w):=by
 unfold Asy at C
 obtain⟨t,F,B⟩:=ub C
 rw[Aiq I.ss F]
 cases t with
 | false =>
  refine⟨_,_,B,fun hK=>?_⟩
  simp only[Bool.false_eq_true,if_false]
  exact hK _ _ J β (I.put (by rw[Rep];exact⟨[],rfl,by rw[Reps]⟩))
 | true =>
  rw[cond_true] at B
  obtain⟨val,ups,G,L⟩:=Axu (o:=o) (next:=K) (Q:=Q) hC I.sim I.ss Axv B
  obtain⟨D,M⟩:=uc G
  refine⟨_,_,M,fun hK=>?_⟩
  simp only[if_true]
  refine L (fun b O hn=>?_) (fun vc w' S=>?_)
  ·rcases zx D b O with⟨_,g⟩ | ⟨g,_⟩
   ·exact g
   ·rw[hn] at g;cases g
  ·obtain⟨J',β',A,T⟩:=S
   exact hK _ _ J' β' ((I.step A (fun b x U hn=>Api D U hn)).put T)
def Eqv (a b:St):Prop:=(∀ t,Gu a.s t=Gu b.s t)∧(∀ b',Au a.h b'=Au b.h b')
theorem Eqv.refl (a:St):Eqv a a:=⟨fun _=>rfl,fun _=>rfl⟩
theorem Eqv.symm {a b:St} (h:Eqv a b):Eqv b a:=⟨fun t=>(h.1 t).symm,fun t=>(h.2 t).symm⟩
theorem Eqv.trans {a b c:St} (h:Eqv a b) (k:Eqv b c):Eqv a c:=⟨fun t=>(h.1 t).trans (k.1 t),fun t=>(h.2 t).trans (k.2 t)⟩
theorem Inv.eqv {nt:Nat} {J:Bool→Nat→Prop} {β:C1} {st uT:St} {a:Act} {w:World} (I:Inv Z nt J β st a w) (h:Eqv st uT):Inv Z nt J β uT a w:=by
 have hr:∀ {x v},Rep J β st.h w x v→Rep J β uT.h w x v:=fun C=>Rep.ext ⟨fun _ _ D=>D,fun _ _ _=>rfl,fun b x A=>⟨x,⟨by rw[←h.2 b];exact A,rfl⟩,by cases B:x.dead<;>simp⟩,fun _ _ _ _=>Nat.le_refl _⟩ C
 refine⟨⟨I.sim.jlt,I.sim.jft,fun b x A B F=>?_,fun b x A B F=>I.sim.mblk b x (by rw[h.2];exact A) B F,fun b b' x x' k o o' A G=>I.sim.sep b b' x x' k o o' (by rw[h.2];exact A) (by rw[h.2];exact G)⟩,⟨fun i v O=>by rw[←h.1 i];exact hr (I.ss.slot i v O),fun i hi=>by rw[←h.1 i];exact I.ss.out i hi⟩,I.tmps,I.defers,I.os,I.tape,I.output,I.size,I.frame,?_,I.jsub,I.jup,I.sizes,I.zlt,I.zge,fun b x0 x S C=>I.outs b x0 x S (by rw[h.2];exact C)⟩
 ·rcases I.sim.blk b x (by rw[h.2];exact A) B F with L | ⟨k,o,cs,ty,fr,L,T,U,V,M,Y⟩
  ·exact .inl L
  ·exact .inr ⟨k,o,cs,ty,fr,L,T,U,V,⟨M.1,fun hp j c D=>by
    obtain⟨u,g1,g2,g3⟩:=M.2 hp j c D
    exact⟨u,g1,hr g2,g3⟩⟩,Y⟩
 ·rintro k ⟨b,x,o,A,B,hs,hβ⟩ hk
  exact I.wr k ⟨b,x,o,by rw[h.2];exact A,B,hs,hβ⟩ hk
theorem Aaa {st:St} {k:St→Option R} (A:rx ops o st k=some r):∃ st',Eqv st st'∧k st'=some r:=by
 unfold rx at A
 split at A
 ·exact⟨st,Eqv.refl _,A⟩
 ·rename_i j want F
  split at A
  ·exact⟨st,Eqv.refl _,A⟩
  ·rename_i t G
   split at A
   ·rename_i b C
    have key:∀ c:Bool,b=c→Eqv st { s:=lL st.s t (.bool c),h:=st.h }:=by
     intro c D
     refine⟨fun i=>?_,fun _=>rfl⟩
     simp only
     rw[Pu]
     by_cases e:i=t
     ·subst e;rw[if_pos rfl,C,D]
     ·rw[if_neg e]
    cases B:(b==want) with
    | true =>
     rw[B] at A
     exact⟨_,key want (by simpa using B),A⟩
    | false =>
     rw[B] at A
     exact⟨_,key (!want) (by cases b<;>cases want<;>simp_all),A⟩
   ·exact⟨st,Eqv.refl _,A⟩
theorem Aab {E:Env} (hC:lU E) {Q:Exit→Act→World→Prop}:∀ (l:List Oper) {st:St} {tr:List Foot} {k:St→List Foot→Option R} {a:Act} {w:World} {J:Bool→Nat→Prop} {β:C1},
  Inv Z E.nt J β st a w→zk E ops l st tr k=some r→(∀ st' tr' a' w' J' β',Inv Z E.nt J' β' st' a' w'→k st' tr'=some r→Q .normal a' w')→wpList E.P ops Q l a w
 | [],st,tr,k,a,w,J,β,I,A,hQ=>hQ st tr a w J β I A
 | o::l,st,tr,k,a,w,J,β,I,A,hQ=>by
  rw[zk] at A
  obtain⟨Aln,C,A⟩:=Aaa A
  obtain⟨st',f,D,F⟩:=zy (K:=wpList E.P ops Q l) (Q:=Q) hC (I.eqv C) A
  have:=F (fun a' w' J' β' I'=>Aab hC l I' D hQ)
  rw[wpList]
  split
  ·rename_i B;rw[if_pos B] at this;exact .inl this
  ·rename_i B;rw[if_neg B] at this;exact this
end
end Gx

namespace Gx
open Go
theorem Ms:∀ {l:List Nat} {b:Nat},Kj l b=true↔b ∈ l
  | [],b=>by simp[Kj]
  | i::r,b=>by
    rw[Kj]
    cases hi:Nat.beq i b with
    | true=>have:=Nat.eq_of_beq_eq_true hi;subst this;simp
    | false => have := AN hi; simp only [cond_false, List.mem_cons]; rw [Ms]; constructor
               · exact fun h=>.inr h
               · rintro(h | h)
                 · exact absurd h.symm this
                 · exact h
theorem V6:∀ {l:List Nat},aY l=true→l.Nodup
 | [],_=>List.nodup_nil
 | i::r,h=>by
  rw[aY] at h;simp at h
  refine List.nodup_cons.2 ⟨fun k=>?_,V6 h.2⟩
  rw[Ms.2 k] at h;simp at h
theorem sC {g:B8} {ids:List Nat}:∀ {l:List Nat},zm g ids l=true→∀ b ∈ l,∀ x,Kh g b=some x→b ∈ ids
 | [],_,b,k,_,_=>by simp at k
 | i::r,h,b,k,x,B=>by
  rw[zm] at h;simp at h
  rcases List.mem_cons.1 k with e | k
  ·subst e
   rcases h.1 with A | A
   ·exact Ms.1 A
   ·rw[B] at A;simp at A
  ·exact sC h.2 b k x B
theorem Atd:∀ {l:List Nat},A1s l=true→∀ b ∈ l,H9≤b→Mr b<100000
 | [],_,b,k,_=>by simp at k
 | i::r,h,b,k,hn=>by
  rw[A1s] at h;simp at h
  rcases List.mem_cons.1 k with e | k
  ·subst e
   have:Nat.ble H9 b=true:=by simpa using hn
   rw[this] at h;simpa using h.1
  ·exact Atd h.2 b k hn
theorem EO (g:B8):∀ c:List AV,(Lm g c).length=c.length
 | []=>rfl
 | x::r=>by rw[Lm,List.length_cons,List.length_cons,EO g r]
section
variable {R:Type} {r:R} {Z:Start} {nt:Nat} {J J':Bool→Nat→Prop} {β β':C1} {st:St} {h h':Am} {a:Act} {w w':World} {ids:List Nat}
def Qp (g:B8) (x:Blk):Blk:={ x with cells:=cond x.pure x.cells (Lm g x.cells) }
theorem lV {g:B8}:∀ {ids:List Nat},(ids.map Mr).Nodup→∀ c y,Au (EK g ids) c=some y→∃ b x,b ∈ ids∧Mr b=c∧Kh g b=some x∧y=Qp g x
 | [],_,c,y,k=>by simp[EK,Au] at k
 | b::r,hn,c,y,k=>by
  rw[List.map_cons,List.nodup_cons] at hn
  rw[EK] at k
  split at k
  ·rename_i x F
   rw[Ai] at k
   by_cases e:c=Mr b
   ·rw[if_pos e] at k;simp at k
    exact⟨b,x,by simp,e.symm,F,k.symm⟩
   ·rw[if_neg e] at k
    obtain⟨b',x',A,B,C,D⟩:=lV hn.2 c y k
    exact⟨b',x',by simp[A],B,C,D⟩
  ·obtain⟨b',x',A,B,C,D⟩:=lV hn.2 c y k
   exact⟨b',x',by simp[A],B,C,D⟩
theorem EP {g:B8}:∀ {ids:List Nat},(ids.map Mr).Nodup→∀ b x,b ∈ ids→Kh g b=some x→Au (EK g ids) (Mr b)=some (Qp g x)
 | [],_,b,x,k,_=>by simp at k
 | b'::r,hn,b,x,k,A=>by
  rw[List.map_cons,List.nodup_cons] at hn
  rw[EK]
  by_cases e:b=b'
  ·subst e
   rw[A]
   simp only
   rw[Ai,if_pos rfl];rfl
  ·have B:b ∈ r:=by simpa[e] using k
   have ne:Mr b≠Mr b':=fun h=>hn.1 (by rw[←h];exact List.mem_map.2 ⟨b,B,rfl⟩)
   split
   ·rw[Ai,if_neg ne];exact EP hn.2 b x B A
   ·exact EP hn.2 b x B A
def Aac (ids:List Nat) (c:Nat):Option Nat:=ids.find? fun b=>Nat.beq (Mr b) c
theorem M8 (hn:(ids.map Mr).Nodup) {b:Nat} (k:b ∈ ids):Aac ids (Mr b)=some b:=by
 induction ids with
 | nil=>simp at k
 | cons i r A =>
  rw[List.map_cons,List.nodup_cons] at hn
  unfold Aac at A ⊢
  rw[List.find?_cons]
  by_cases e:b=i
  ·subst e;simp
  ·have B:b ∈ r:=by simpa[e] using k
   have ne:Mr i≠Mr b:=fun h=>hn.1 (by rw[h];exact List.mem_map.2 ⟨b,B,rfl⟩)
   rw[gv ne];exact A hn.2 B
def A98 (g:B8) (ids:List Nat) (l:List Nat):Prop:=∀ b ∈ l,∀ x,Kh g b=some x→b ∈ ids
theorem A3c {b:Nat}:Kh (Au h) b=(Au h b).bind fun x=>cond x.dead none (some x):=rfl
theorem lW {b:Nat} {x y:Blk} (B:Au h b=some x) (k:Kh (Au h) b=some y):y=x∧x.dead=false:=by
 rw[A3c,B] at k
 cases A:x.dead with
 | true=>simp[A] at k
 | false=>simp[A] at k;exact⟨k.symm,rfl⟩
mutual
theorem Rep.clean (hn:(ids.map Mr).Nodup):∀ {x:AV} {v:Value},A98 (Au h) ids (Hp x)→Rep J β h w x v →
  Rep J (fun c=>(Aac ids c).bind β) (EK (Au h) ids) w (EJ (Au h) x) v
 | .own b off n,v,hm,hr=>by
  rw[Rep] at hr
  obtain⟨x,A,cap,⟨hx,hmp⟩,h1,h2,h3⟩:=hr
  rw[EJ]
  cases hv:Kh (Au h) b with
  | none=>simp only;rw[Rep];trivial
  | some y =>
   obtain⟨rfl,hd⟩:=lW hx hv
   have hb:=hm b (by simp[Hp]) _ hv
   simp only
   rw[Rep]
   refine⟨Qp (Au h) y,A,cap,⟨EP hn b y hb hv,hmp⟩,h1,h2,?_⟩
   rcases h3 with h3 | ⟨k,o,h4,h5⟩
   ·exact .inl h3
   ·refine .inr ⟨k,o,h4,?_⟩
    rcases h5 with h5 | ⟨h5,h6,h7⟩
    ·simp[hd] at h5
    ·refine .inr ⟨by rw[M8 hn hb];exact h5,h6,?_⟩
     have:(Qp (Au h) y).cells.length=y.cells.length:=by
      unfold Qp;cases y.pure
      ·simp;exact EO _ _
      ·rfl
     rw[this];exact h7
 | .optr b off,v,hm,hr=>by
  rw[Rep] at hr
  obtain⟨x,k,o,⟨hx,hmp⟩,h1,h2⟩:=hr
  rw[EJ]
  cases hv:Kh (Au h) b with
  | none=>simp only;rw[Rep];trivial
  | some y =>
   obtain⟨rfl,hd⟩:=lW hx hv
   have hb:=hm b (by simp[Hp]) _ hv
   simp only
   rw[Rep]
   refine⟨Qp (Au h) y,k,o,⟨EP hn b y hb hv,hmp⟩,h1,?_⟩
   rcases h2 with h2 | h2
   ·simp[hd] at h2
   ·exact .inr (by rw[M8 hn hb];exact h2)
 | .omap b,v,hm,hr=>by
  rw[Rep] at hr
  obtain⟨x,k,⟨hx,hmp⟩,h1,h2⟩:=hr
  rw[EJ]
  cases hv:Kh (Au h) b with
  | none=>simp only;rw[Rep];trivial
  | some y =>
   obtain⟨rfl,hd⟩:=lW hx hv
   have hb:=hm b (by simp[Hp]) _ hv
   simp only
   rw[Rep]
   refine⟨Qp (Au h) y,k,⟨EP hn b y hb hv,hmp⟩,h1,?_⟩
   rcases h2 with h2 | h2
   ·simp[hd] at h2
   ·exact .inr (by rw[M8 hn hb];exact h2)
 | .agg c,v,hm,hr=>by
  rw[Rep] at hr
  obtain⟨cs,h1,h2⟩:=hr
  rw[EJ,Rep]
  exact⟨cs,h1,Reps.clean hn (by simpa[Hp] using hm) h2⟩
 | .tup c,v,hm,hr=>by
  rw[Rep] at hr
  obtain⟨cs,h1,h2⟩:=hr
  rw[EJ,Rep]
  exact⟨cs,h1,Reps.clean hn (by simpa[Hp] using hm) h2⟩
 | .fn f c,v,hm,hr=>by
  rw[Rep] at hr
  obtain⟨cs,h1,h2⟩:=hr
  rw[EJ,Rep]
  exact⟨cs,h1,Reps.clean hn (by simpa[Hp] using hm) h2⟩
 | .pagg c o,v,hm,hr=>by show Rep J _ _ w (.pagg c o) v;rw[Rep] at hr ⊢;exact hr
 | .undef,v,hm,hr=>by show Rep J _ _ w (.undef) v;rw[Rep] at hr ⊢;exact hr
 | .imm c n sz t o,v,hm,hr=>by show Rep J _ _ w (.imm c n sz t o) v;rw[Rep] at hr ⊢;exact hr
 | .iptr c o,v,hm,hr=>by show Rep J _ _ w (.iptr c o) v;rw[Rep] at hr ⊢;exact hr
 | .int k n,v,hm,hr=>by show Rep J _ _ w (.int k n) v;rw[Rep] at hr ⊢;exact hr
 | .bool b,v,hm,hr=>by show Rep J _ _ w (.bool b) v;rw[Rep] at hr ⊢;exact hr
 | .str s,v,hm,hr=>by show Rep J _ _ w (.str s) v;rw[Rep] at hr ⊢;exact hr
 | .nsl,v,hm,hr=>by show Rep J _ _ w (.nsl) v;rw[Rep] at hr ⊢;exact hr
 | .nilptr,v,hm,hr=>by show Rep J _ _ w (.nilptr) v;rw[Rep] at hr ⊢;exact hr
 | .nilfn,v,hm,hr=>by show Rep J _ _ w (.nilfn) v;rw[Rep] at hr ⊢;exact hr
theorem Reps.clean (hn:(ids.map Mr).Nodup):∀ {c:List AV} {cs:List Value},A98 (Au h) ids (Jl c)→Reps J β h w c cs →
  Reps J (fun c=>(Aac ids c).bind β) (EK (Au h) ids) w (Lm (Au h) c) cs
 | [],cs,hm,hr=>by rw[Reps] at hr;rw[Lm,Reps];exact hr
 | x::r,cs,hm,hr=>by
  rw[Reps] at hr
  obtain⟨u,us,h1,h2,h3⟩:=hr
  rw[Lm,Reps]
  exact⟨u,us,h1,Rep.clean hn (fun b hb=>hm b (by simp[Jl,hb])) h2,Reps.clean hn (fun b hb=>hm b (by simp[Jl,hb])) h3⟩
end
theorem IQ {g:B8} {K:List Nat}:∀ {s:Ho} {i:Nat},Gu (ry g K s) i=if Kj K i=true then EJ g (Gu s i) else .undef
 | [],i=>by
  simp only[ry,Gu]
  show AV.undef=if Kj K i=true then AV.undef else AV.undef
  split<;>rfl
 | (t,v)::r,i=>by
  rw[ry,Gu]
  cases k:Kj K t with
  | true =>
   simp only[cond_true,Gu]
   cases hi:Nat.beq t i with
   | true =>
    have:=Nat.eq_of_beq_eq_true hi;subst this
    simp[k]
   | false=>simp only[cond_false];exact IQ
  | false =>
   simp only[cond_false]
   rw[IQ]
   cases hi:Nat.beq t i with
   | true =>
    have:=Nat.eq_of_beq_eq_true hi;subst this
    simp[k]
   | false=>rfl
theorem Aad {K:List Nat}:∀ {s:Ho} {i:Nat},Kj K i=true→∀ b ∈ Hp (Gu s i),b ∈ zl K s
 | [],i,_,b,k=>by simp[Gu,Hp] at k
 | (t,v)::r,i,A,b,k=>by
  rw[Gu] at k
  rw[zl]
  cases hi:Nat.beq t i with
  | true =>
   have:=Nat.eq_of_beq_eq_true hi;subst this
   rw[hi] at k
   rw[A];simp at k ⊢;exact .inl k
  | false =>
   rw[hi] at k
   have:=Aad A b k
   cases Kj K t
   ·exact this
   ·simp;exact .inr this
theorem sD {g:B8}:∀ {ids:List Nat} {b:Nat} {x:Blk},b ∈ ids→g b=some x→x.pure=false→∀ c ∈ Jl x.cells,c ∈ Mq g ids
 | [],b,x,k,_,_,_,_=>by simp at k
 | i::r,b,x,k,A,B,c,C=>by
  rw[Mq]
  by_cases e:b=i
  ·subst e;rw[A];simp only[B,cond_false];exact List.mem_append.2 (.inl C)
  ·exact List.mem_append.2 (.inr (sD (by simpa[e] using k) A B c C))
theorem sE:∀ {c:List AV} {j:Nat} {x:AV},c[j]?=some x→∀ b ∈ Hp x,b ∈ Jl c
 | [],j,x,k,_,_=>by simp at k
 | y::r,j,x,k,b,A=>by
  rw[Jl]
  cases j with
  | zero=>simp at k;subst k;exact List.mem_append.2 (.inl A)
  | succ j=>exact List.mem_append.2 (.inr (sE (by simpa using k) b A))
theorem uU {g:B8}:∀ {c:List AV} {j:Nat} {y:AV},(Lm g c)[j]?=some y→∃ x,c[j]?=some x∧y=EJ g x
 | [],j,y,k=>by simp[Lm] at k
 | x::r,j,y,k=>by
  rw[Lm] at k
  cases j with
  | zero=>simp at k;exact⟨x,by simp,k.symm⟩
  | succ j=>obtain⟨x',A,B⟩:=uU (c:=r) (j:=j) (by simpa using k);exact⟨x',by simpa using A,B⟩
theorem A3d {b:Nat} (k:b<H9):Mr b=b:=by
 unfold Mr
 have:Nat.ble H9 b=false:=by
  cases h:Nat.ble H9 b with
  | false=>rfl
  | true=>have:=Nat.le_of_ble_eq_true h;omega
 rw[this];rfl
theorem Ate {K roots:List Nat} {st':St} (I:Inv Z nt J β st a w) (hh:clean K roots st=some st'):∃ β',Inv Z nt J β' st' a w:=by
 unfold clean at hh
 obtain⟨hc,h1⟩:_∧_:=uc hh
 simp only[Bool.and_eq_true] at hc
 obtain⟨c1,c2,c3,c4⟩:=hc
 generalize hids:IM (Au st.h) (EI (Au st.h) (zl K st.s++roots))=ids at *
 simp at h1
 have hn:=V6 c1
 have blk:∀ c y,Au (EK (Au st.h) ids) c=some y→∃ b x,b ∈ ids∧Mr b=c∧Au st.h b=some x∧x.dead=false∧y=Qp (Au st.h) x:=by
  intro c y F
  obtain⟨b,x,L,M,T,U⟩:=lV hn c y F
  have B:Au st.h b=some x∧x.dead=false:=M7 (fun _ _ h=>h) T
  exact⟨b,x,L,M,B.1,B.2,U⟩
 have G:∀ x:Blk,(Qp (Au st.h) x).cells.length=x.cells.length:=fun x=>by
  unfold Qp;cases x.pure
  ·simp;exact EO _ _
  ·rfl
 refine⟨fun c=>(Aac ids c).bind β,?_⟩
 subst h1
 refine⟨⟨I.sim.jlt,I.sim.jft,fun c y F hd hm=>?_,fun c y F hd hm=>by
   obtain⟨b,x,C,rfl,B,A,rfl⟩:=blk c y F
   obtain⟨L,M,k,es,clk,T,U,g5,g6⟩:=I.sim.mblk b x B A hm
   have:(Qp (Au st.h) x).cells=x.cells:=by unfold Qp;rw[L];rfl
   exact⟨L,M,k,es,clk,by simp only[M8 hn C,Option.bind_some];exact T,U,by rw[this];exact g5,g6⟩,?_⟩,⟨fun i v hv=>?_,fun i hi=>?_⟩,I.tmps,I.defers,I.os,I.tape,I.output,I.size,I.frame,?_,I.jsub,I.jup,I.sizes,I.zlt,I.zge,?_⟩
 ·obtain⟨b,x,C,rfl,B,A,rfl⟩:=blk c y F
  rcases I.sim.blk b x B A hm with⟨L,M⟩ | ⟨k,o,cs,ty,fr,L,M,T,U,g5,g6,g7⟩
  ·refine .inl ⟨by simp only[M8 hn C,Option.bind_some];exact L,?_⟩
   have:=G x;rw[M] at this;simpa using this
  ·refine .inr ⟨k,o,cs,ty,fr,by simp only[M8 hn C,Option.bind_some];exact L,M,T,by rw[G];exact U,⟨fun hp=>?_,fun hp j q hj=>?_⟩,g6,g7⟩
   ·have D:x.pure=true:=hp
    have:(Qp (Au st.h) x).cells=x.cells:=by unfold Qp;rw[D];rfl
    rw[this];exact g5.1 D
   ·have D:x.pure=false:=hp
    have:(Qp (Au st.h) x).cells=Lm (Au st.h) x.cells:=by unfold Qp;rw[D];rfl
    rw[this] at hj
    obtain⟨q',hq,rfl⟩:=uU hj
    obtain⟨u,hu,hr,ho⟩:=g5.2 D j q' hq
    exact⟨u,hu,Rep.clean hn (fun b' O x' S=>sC c3 b' (sD C B D b' (sE hq b' O)) x' S) hr,ho⟩
 ·intro c c' y y' k o o' F hy' hd hd' hs V Y
  obtain⟨b,x,C,rfl,B,A,rfl⟩:=blk c y F
  obtain⟨b',x',O,rfl,S,hxd',rfl⟩:=blk c' y' hy'
  simp only[M8 hn C,Option.bind_some] at V
  simp only[M8 hn O,Option.bind_some] at Y
  rw[I.sim.sep b b' x x' k o o' B S A hxd' hs V Y]
 ·rw[IQ]
  split
  ·rename_i hk
   exact Rep.clean hn (fun b C x B=>sC c2 b (Aad hk b C) x B) (I.ss.slot i v hv)
  ·rw[Rep];trivial
 ·rw[IQ,I.ss.out i hi]
  split
  ·rfl
  ·rfl
 ·rintro k ⟨c,y,o,F,hd,hs,V⟩ hk
  obtain⟨b,x,C,rfl,B,A,rfl⟩:=blk c y F
  simp only[M8 hn C,Option.bind_some] at V
  exact I.wr k ⟨b,x,o,B,A,hs,V⟩ hk
 ·intro c x0 y h0 F hd
  obtain⟨b,x,C,rfl,B,A,rfl⟩:=blk c y F
  have hlt:=I.zlt _ _ h0
  have hge:=I.zge _ _ h0
  have hbo:Mr b=b:=by
   by_cases hnb:H9≤b
   ·have:=Atd c4 b C hnb;omega
   ·exact A3d (by omega)
  rw[hbo] at h0
  obtain⟨⟨e1,em⟩,e2,e3,e4⟩:=I.outs b x0 x h0 B A
  refine⟨⟨?_,em⟩,e2,by rw[G];exact e3,e4⟩
  simp only[M8 hn C,Option.bind_some];rw[hbo];exact e1
end
end Gx

namespace Gx
open Go
section
variable {R:Type}
theorem Ax {α β:Type} (b:Bool) (x y:Option α) (f:α→Option β):(cond b x y).bind f=cond b (x.bind f) (y.bind f):=by cases b<;>rfl
theorem SQ {R':Type} (P:Program) (t:TypeId) (c:List AV) (o:Bool) (k:Bool→Option R') (f:R'→Option R):(CF P t c o k).bind f=CF P t c o fun o=>(k o).bind f:=by
 unfold CF;simp only[Ax,Option.bind_none]
theorem V7 (P:Program) (t:TypeId) (c:List AV) (org:Bool) (k:AV→Option R):aU P t c org k=(aU P t c org some).bind k:=by
 unfold aU
 split<;>simp[Option.bind_assoc,Ax,SQ]<;>rfl
theorem Axw (P:Program) (t:TypeId) (c:List AV) (k:AV→Option R):uI P t c k=(uI P t c some).bind k:=by
 unfold uI
 split<;>simp[Option.bind_assoc,Ax]
theorem uV (n:Nat) (k:AV→Option R):∀ (c:List AV) (i:Nat),SE n k c i=(SE n some c i).bind k
 | [],_=>rfl
 | v::r,i=>by rw[SE,SE,Ax,uV n k r (i+1)];rfl
theorem uW (P:Program) (t:TypeId) (c:List AV) (off:Nat) (k:AV→Option R):aV P t c off k=(aV P t c off some).bind k:=by
 unfold aV
 split
 ·simp[Option.bind_assoc,Ax]
 ·simp[Option.bind_assoc,Ax]
 ·exact uV ..
 ·rfl
theorem SR (P:Program) (g:B8) (t:TypeId) (p:AV) (k:AV→Option R):zg P g t p k=(zg P g t p some).bind k:=by
 unfold zg
 split
 ·exact V7 ..
 ·rw[Option.bind_assoc]
  congr 1;funext x
  rw[Ax,←V7,←uW]
 ·rfl
theorem WH (P:Program) (t:TypeId) (x i:AV) (k:AV→Option R):Vz P t x i k=(Vz P t x i some).bind k:=by
 unfold Vz
 split<;>simp[Option.bind_assoc,Ax]
theorem WI (P:Program) (t:TypeId) (x:AV) (f:Nat) (k:AV→Option R):V0 P t x f k=(V0 P t x f some).bind k:=by
 unfold V0
 simp only[Option.bind_assoc,Ax]
 congr 1;funext p;congr 1;funext n;congr 1
 split<;>rfl
theorem uX (P:Program) (t:TypeId) (x:AV) (f:Nat) (k:AV→Option R):rk P t x f k=(rk P t x f some).bind k:=by
 unfold rk
 rw[Option.bind_assoc]
 congr 1;funext p
 split
 ·exact V7 ..
 ·exact Axw ..
 ·rfl
theorem uY (P:Program) (t:TypeId) (x i:AV) (k:AV→Option R):rm P t x i k=(rm P t x i some).bind k:=by
 unfold rm
 split
 ·simp[Ax]
 ·simp only[Option.bind_assoc,Ax,←V7];rfl
 ·simp only[Option.bind_assoc,Ax,←uW];rfl
 ·rfl
theorem CJ {α:Type} (lo hi mx:Option AV) (n:Nat) (f:Nat→Nat→α) (k:α→Option R):(CG lo hi mx n fun l h=>k (f l h))=(CG lo hi mx n fun l h=>some (f l h)).bind k:=by
 unfold CG
 simp[Option.bind_assoc,Ax]
theorem uZ (P:Program) (g:B8) (t:TypeId) (x:AV) (lo hi mx:Option AV) (k:AV→Option R):rn P g t x lo hi mx k=(rn P g t x lo hi mx some).bind k:=by
 unfold rn
 split
 ·rw[Ax,←CJ];rfl
 ·rw[Option.bind_assoc];congr 1;funext _;exact CJ lo hi mx 0 (fun _ _=>AV.nsl) k
 ·rw[Option.bind_assoc];congr 1;funext _;rw[Ax,←CJ];rfl
 ·rw[Option.bind_assoc];congr 1;funext _;rw[Option.bind_assoc];congr 1;funext _;rw[Ax,←CJ];rfl
 ·rfl
theorem A3e (P:Program) (t:TypeId) (op:BinOp) (x y:AV) (k:AV→Option R):A23 P t op x y k=(A23 P t op x y some).bind k:=by
 unfold A23
 split
 ·split<;>simp[Ax]
 ·split<;>simp[Ax]
 ·split<;>simp[Ax]
 ·rfl
def pr (v:AV) (u:If):Option (AV×If):=some (v,u)
theorem Atf (P:Program) (g:B8) (t:TypeId) (p v:AV) (k:AV→If→Option R):ro P g t p v k=(ro P g t p v pr).bind fun q=>k q.1 q.2:=by
 unfold ro
 split
 ·simp only[Option.bind_assoc,Ax]
  congr 1;funext x;congr 1;funext n;congr 1;congr 1
  split<;>simp[Ax,pr]
 ·rfl
theorem lX (P:Program) (c:List AV) (org:Bool):∀ (L:List (Nat×TypeId)) (acc:List AV) (k:List AV→Option R),nO P c org L acc k=(nO P c org L acc some).bind k
 | [],acc,k=>rfl
 | (off,t)::L,acc,k=>by
  rw[nO,nO,Ax]
  congr 1
  rw[V7,V7 (k:=fun v=>nO P c org L (acc++[v]) some),Option.bind_assoc]
  congr 1;funext v
  exact lX P c org L _ k
theorem u_ (P:Program) (co:Bool) (t:TypeId) (v:AV) (k:AV→Option R):rs P co t v k=(rs P co t v some).bind k:=by
 unfold rs
 split
 ·rename_i c org
  rw[lX,lX (k:=fun l=>cond (Nat.beq c.length l.length) (some (AV.agg l)) none),Option.bind_assoc]
  congr 1;funext l
  rw[Ax];rfl
 ·rfl
theorem Alo (P:Program) (g:B8) (d:Nat) (t:TypeId) (v:AV) (k:AV→If→Option R):Asv P g d t v k=(Asv P g d t v pr).bind fun q=>k q.1 q.2:=by
 unfold Asv
 split<;>simp[Option.bind_assoc,Ax,pr]
theorem sF (P:Program) (g:B8) (d:Nat) (t:TypeId) (len:Nat) (ps:List (Nat×AV)) (k:AV→If→Option R):S9 P g d t len ps k=(S9 P g d t len ps pr).bind fun q=>k q.1 q.2:=by
 unfold S9
 split<;>simp[Option.bind_assoc,Ax,pr,NT]
theorem y7 (P:Program) (g:B8) (d:Nat) (t:TypeId) (len:Nat) (ps:List (Nat×AV)) (k:AV→If→Option R):V1 P g d t len ps k=(V1 P g d t len ps pr).bind fun q=>k q.1 q.2:=by
 unfold V1
 split<;>simp[Option.bind_assoc,Ax,pr]
theorem A3f (P:Program) (t:TypeId) (co:Bool) (d:Nat) (v:AV) (k:AV→If→Option R):A25 P t co d v k=(A25 P t co d v pr).bind fun q=>k q.1 q.2:=by
 unfold A25
 split<;>simp[Ax,pr]
theorem Axx (P:Program) (d:Nat) (t:TypeId) (l c:AV) (k:AV→If→Option R):Alc P d t l c k=(Alc P d t l c pr).bind fun q=>k q.1 q.2:=by
 unfold Alc
 split<;>simp[Option.bind_assoc,Ax,pr]
theorem Apj (P:Program) (g:B8) (d:Nat) (t tx:TypeId) (s x:AV) (k:AV→If→Option R):fg P g d t tx s x k=(fg P g d t tx s x pr).bind fun q=>k q.1 q.2:=by
 unfold fg lM
 split<;>simp[Option.bind_assoc,Ax,pr,SQ]
theorem Axy (P:Program) (g:B8) (t:TypeId) (s x:AV) (k:AV→If→Option R):Ald P g t s x k=(Ald P g t s x pr).bind fun q=>k q.1 q.2:=by
 unfold Ald lM
 split<;>simp[Option.bind_assoc,Ax,pr,SQ]
theorem Axz (P:Program) (g:B8) (d:Nat) (src dst:TypeId) (x:AV) (k:AV→If→Option R):Ale P g d src dst x k=(Ale P g d src dst x pr).bind fun q=>k q.1 q.2:=by
 unfold Ale
 split
 ·split<;>simp[Ax,pr]
 ·split
  ·split<;>simp[pr]
  ·split
   ·split<;>simp[Option.bind_assoc,pr]
   ·rfl
  ·rfl
 ·split
  ·rw[Ax,Option.bind_assoc];simp only[Ax];rfl
  ·rfl
  ·rfl
 ·rfl
theorem lY {R':Type} {f:R'→Option R} {s1:TypeId→List AV→List AV→(Bool→Option R')→Option R'} {s2:TypeId→List AV→List AV→(Bool→Option R)→Option R} (hs:∀ t x y k,(s1 t x y k).bind f=s2 t x y fun b=>(k b).bind f) {x y:List AV} :
  ∀ (l:List (Nat×TypeId)) (k:Bool→Option R'),(NL s1 x y l k).bind f=NL s2 x y l fun b=>(k b).bind f
 | [],k=>rfl
 | (o,t)::r,k=>by
  rw[NL,NL,hs]
  congr 1;funext b
  exact lY hs r _
theorem fv {R':Type} {f:R'→Option R} (P:Program):∀ (d:Nat) (t:TypeId) (x y:List AV) (k:Bool→Option R'),(y5 P d t x y k).bind f=y5 P d t x y fun b=>(k b).bind f
 | 0,t,x,y,k=>rfl
 | d+1,t,x,y,k=>by
  rw[y5,y5]
  split<;>simp only[Option.bind_assoc,Ax,Option.bind_none]
  ·congr 1;funext sz;rw[lY (fv P d)]
  ·congr 1;funext s;congr 1;funext sz;rw[lY (fv P d)]
theorem Aae (P:Program) (t:TypeId) (op:BinOp) (x y:AV) (k:AV→Option R):Ak9 P t op x y k=(Ak9 P t op x y some).bind k:=by
 unfold Ak9
 split
 ·rw[Option.bind_assoc]
  congr 1;funext s
  rw[Ax]
  congr 1
  split
  ·rw[fv];rfl
  ·rw[fv];rfl
  ·rfl
 ·exact A3e ..
theorem Aaf (c x y:AV) (k:AV→Option R):Alh c x y k=(Alh c x y some).bind k:=by
 unfold Alh
 split<;>first | rfl | (rw[Ax];rfl)
theorem Atg (P:Program) (g:B8) (co:Bool) (d:Nat) (t:TypeId) (k:AV→If→Option R):rp P g co d t k=(rp P g co d t pr).bind fun q=>k q.1 q.2:=by
 unfold rp
 split
 ·rw[Option.bind_assoc];rfl
 ·exact Alo ..
 ·rfl
theorem Aag:∀ (T:List (Nat×Tw)) (f:Nat) (args:List AV) (h:Am) (k:AV→Am→Option R),nQ T f args h k=(nQ T f args h fun v h'=>some (v,h')).bind fun p=>k p.1 p.2
 | [],f,args,h,k=>rfl
 | (g,t)::r,f,args,h,k=>by
  rw[nQ,nQ]
  cases Nat.beq g f
  ·exact Aag r f args h k
  ·exact t.eq args h k
theorem Ax0 (E:Env) (g:B8) (d f:Nat) (args:List AV) (k:AV→If→Option R):Alg E g d f args k=(Alg E g d f args pr).bind fun q=>k q.1 q.2:=by
 unfold Alg
 rw[Option.bind_assoc]
 congr 1;funext q
 simp only[Ax,Option.bind_none]
 congr 1
 rw[Aag,Aag (R:=AV×If),Option.bind_assoc]
 congr 1;funext p
 simp only[Ax,Option.bind_none,pr,Option.bind_some]
theorem Air (d:Nat) (o:Option AV) (k:AV→If→Option R):EH d o k=(EH d o pr).bind fun q=>k q.1 q.2:=by
 unfold EH
 split<;>rfl
theorem Ath (P:Program) (g:B8) (t:TypeId) (m x y:AV) (k:AV→If→Option R):rt P g t m x y k=(rt P g t m x y pr).bind fun q=>k q.1 q.2:=by
 unfold rt
 split<;>simp[Ax,Option.bind_assoc,pr]
theorem Aah (P:Program) (g:B8) (t:TypeId) (m x:AV) (c:Bool) (k:AV→Option R):Alf P g t m x c k=(Alf P g t m x c some).bind k:=by
 unfold Alf
 split<;>simp[Ax,Option.bind_assoc]
theorem A3g (E:Env) (g:B8) (d:Nat) (v:Operand→AV) (o:Op) (k:AV→If→Option R):Ain E g d v o k=(Ain E g d v o pr).bind fun q=>k q.1 q.2:=by
 unfold Ain
 split
 ·rfl
 ·rfl
 ·rw[Aaf,Aaf (k:=fun r=>pr r []),Option.bind_assoc];rfl
 ·exact Atg ..
 ·rw[u_,u_ (k:=fun u=>Asv E.P g d _ u pr),Option.bind_assoc];congr 1;funext u;exact Alo ..
 ·rw[lS,lS,Option.bind_assoc];congr 1;funext x;exact A3f ..
 ·rw[Ax,←y7,←sF]
 ·rw[SR,SR (k:=fun r=>pr r []),Option.bind_assoc];rfl
 ·exact Atf ..
 ·split<;>rfl
 ·rw[Aae,Aae (k:=fun r=>pr r []),Option.bind_assoc];rfl
 ·rw[Option.bind_assoc];rfl
 ·exact Axz ..
 ·rw[Ax];rfl
 ·exact Axx ..
 ·rw[uZ,uZ (k:=fun r=>pr r []),Option.bind_assoc];rfl
 ·rw[WI,WI (k:=fun r=>pr r []),Option.bind_assoc];rfl
 ·rw[uX,uX (k:=fun r=>pr r []),Option.bind_assoc];rfl
 ·rw[WH,WH (k:=fun r=>pr r []),Option.bind_assoc];rfl
 ·rw[uY,uY (k:=fun r=>pr r []),Option.bind_assoc];rfl
 ·exact Air ..
 ·exact Ath ..
 ·rw[Aah,Aah (k:=fun r=>pr r []),Option.bind_assoc];rfl
 ·split
  ·rw[Option.bind_assoc];rfl
  ·rfl
 ·split
  ·split
   ·rw[Option.bind_assoc];rfl
   ·rfl
  ·split
   ·exact Apj ..
   ·rfl
  ·split
   ·exact Axy ..
   ·rfl
  ·split
   ·rw[Option.bind_assoc];rfl
   ·simp only[Option.bind_assoc];rfl
   ·rfl
  ·split
   ·rw[Option.bind_assoc];rfl
   ·simp only[Option.bind_assoc];rfl
   ·rfl
  ·split
   ·rw[Ax,←Ax0];rfl
   ·rfl
  ·rfl
 ·rfl
end
end Gx

namespace Gx
open Go
theorem NW:∀ {l acc:List Nat} {b:Nat},b ∈ uK l acc↔b ∈ l∨b ∈ acc
 | [],acc,b=>by simp[uK]
 | i::r,acc,b=>by
  rw[uK]
  cases k:Kj acc i with
  | true =>
   simp only[cond_true]
   rw[NW]
   have:=Ms.1 k
   constructor
   ·rintro(h | h)
    ·exact .inl (by simp[h])
    ·exact .inr h
   ·rintro(h | h)
    ·rcases List.mem_cons.1 h with e | h
     ·subst e;exact .inr this
     ·exact .inl h
    ·exact .inr h
  | false =>
   simp only[cond_false]
   rw[NW]
   simp only[List.mem_cons]
   constructor
   ·rintro(h | h | h)
    ·exact .inl (.inr h)
    ·exact .inl (.inl h)
    ·exact .inr h
   ·rintro((h | h) | h)
    ·exact .inr (.inl h)
    ·exact .inl h
    ·exact .inr (.inr h)
theorem IR {g g':B8}:∀ {l:List Nat},(∀ b ∈ l,g' b=g b)→Mq g' l=Mq g l
 | [],_=>rfl
 | i::r,h=>by
  rw[Mq,Mq,h i (by simp),IR (fun b k=>h b (by simp[k]))]
theorem n7 {g:B8}:∀ {a b:List Nat},Mq g (a++b)=Mq g a++Mq g b
 | [],b=>rfl
 | i::r,b=>by rw[List.cons_append,Mq,Mq,n7,List.append_assoc]
theorem Ati {g g':B8} {ids:List Nat} (h:∀ b ∈ EI g ids,g' b=g b):EI g' ids=EI g ids:=by
 have A:∀ b ∈ ids,g' b=g b:=fun b k=>h b (NW.2 (.inl (List.mem_append.2 (.inl k))))
 have e1:Mq g' ids=Mq g ids:=IR A
 have B:∀ b ∈ Mq g ids,g' b=g b:=fun b k=>h b (NW.2 (.inl (List.mem_append.2 (.inr (by rw[n7];exact List.mem_append.2 (.inl k))))))
 unfold EI
 rw[e1,IR (l:=ids++Mq g ids) (fun b k=>by
  rcases List.mem_append.1 k with k | k
  ·exact A b k
  ·exact B b k)]
section
variable {R:Type} {E:Env} {ops:Array Oper} {o p:Oper} {st Aln uT:St}
theorem ua {v v':Operand→AV} {parts:Array (Nat×Operand)} (h:∀ q ∈ parts.toList,v' q.2=v q.2):(parts.toList.map fun q=>(q.1,v' q.2))=(parts.toList.map fun q=>(q.1,v q.2)) :=
 List.map_congr_left (fun q k=>by rw[h q k])
theorem Ax1 {g:B8} {d:Nat} {v v':Operand→AV} {op:Op} {k:AV→If→Option R} (h:∀ x ∈ op.operands.toList,v' x=v x):Ain E g d v' op k=Ain E g d v op k:=by
  unfold Ain
  cases op
  case build t parts =>
    simp only
    rw[ua (v:=v) (v':=v') (fun q C=>h q.2 (by simp[Op.operands];exact⟨q.1,by simpa using C⟩))]
  case buildSlice t n parts =>
    simp only
    rw[ua (v:=v) (v':=v') (fun q C=>h q.2 (by simp[Op.operands];exact⟨q.1,by simpa using C⟩))]
  case slice t x lo hi mx =>
    simp only
    have A:v' x=v x:=h x (by simp[Op.operands])
    have F:lo.map v'=lo.map v:=by
      cases lo with
      | none=>rfl
      | some y=>simp;exact h y (by simp[Op.operands])
    have G:hi.map v'=hi.map v:=by
      cases hi with
      | none=>rfl
      | some y=>simp;exact h y (by simp[Op.operands])
    have I:mx.map v'=mx.map v:=by
      cases mx with
      | none=>rfl
      | some y=>simp;exact h y (by simp[Op.operands])
    rw[A,F,G,I]
  case makeMap t rr =>
    simp only
    have A:rr.map v'=rr.map v:=by
      cases rr with
      | none=>rfl
      | some y=>simp;exact h y (by simp[Op.operands])
    rw[A]
  case makeFunc f first caps =>
    cases f<;>try rfl
    simp only
    have:(first.toList++caps.toList).map v'=(first.toList++caps.toList).map v:=List.map_congr_left (fun x D=>h x (by simp[Op.operands];simpa using D))
    rw[this]
  case call c =>
    have B:∀ x ∈ c.args.toList,v' x=v x:=fun x D=>h x (by
      simp only[Op.operands,Call.operands,Array.toList_append]
      exact List.mem_append.2 (.inr D))
    have L:c.args.toList.map v'=c.args.toList.map v:=List.map_congr_left B
    simp only
    cases M:c.callee with
    | value f =>
      have O:v' f=v f:=h f (by simp[Op.operands,Call.operands,M])
      simp only[O,L]
    | invoke a b=>rfl
    | builtin b =>
      cases b<;>try rfl
      all_goals
        simp only
        split
        · first
            | (rename_i A F
               simp only[A,List.mem_cons,List.not_mem_nil,or_false,forall_eq_or_imp,forall_eq] at B
               simp only[B])
            | (rename_i A
               simp only[A,List.mem_cons,List.not_mem_nil,or_false,forall_eq_or_imp,forall_eq] at B
               simp only[B])
        all_goals first
          | rfl
          | (rename_i A
             simp only[A,List.mem_cons,List.not_mem_nil,or_false,forall_eq_or_imp,forall_eq] at B
             simp only[B])
  all_goals first
    | rfl
    | (simp[Op.operands] at h;simp[h])
end
end Gx
