/- A part of the proof: what it holds is said by each theorem. -/
import GoSem.Step
import Derived.KernelRfl
import Derived.WalkKit
import Derived.Deep.MidRow
import Derived.Deep.AppendSrc
import Derived.Laws.IdiomStrings
import Derived.Deep.Upon
import Derived.Laws.BytesString
import Derived.Laws.Tables
import Derived.Laws.StructEq
import Derived.ChangeKeysEq
import Derived.MapKept
set_option linter.unusedVariables false
set_option linter.defProp false
set_option linter.unusedSimpArgs false
namespace Gx
open Go
inductive AV where
 | int (k:IntKind) (n:Int)
 | bool (b:Bool)
 | str (s:List UInt8)
 | nsl
 | imm (c:List AV) (len sz:Nat) (tight org:Bool)
 | iptr (c:List AV) (org:Bool)
 | pagg (c:List AV) (org:Bool)
 | own (b off len:Nat)
 | optr (b off:Nat)
 | agg (c:List AV)
 | tup (c:List AV)
 | fn (f:Nat) (caps:List AV)
 | nilptr
 | nilfn
 | undef
 | omap (b:Nat)
structure Blk where
 dead:Bool
 sealed:Bool
 pure:Bool
 taint:Bool
 sz:Nat
 cells:List AV
 mp:Bool:=false
abbrev LA:=List AV
abbrev O (R:Type):=Option R
abbrev Am:=List (Nat×Blk)
abbrev Hl:=List (Nat×AV)
def Au:Am→Nat→Option Blk
 | [],_=>none
 | (i,x)::r,b=>cond (Nat.beq i b) (some x) (Au r b)
def G2:Am→Nat→Blk→Am
 | [],b,y=>[(b,y)]
 | (i,x)::r,b,y=>cond (Nat.beq i b) ((b,y)::r) (cond (Nat.blt b i) ((b,y)::(i,x)::r) ((i,x)::G2 r b y))
def Gv:Hl→Nat→AV
 | [],_=>.undef
 | (i,x)::r,b=>cond (Nat.beq i b) x (Gv r b)
def kg:Hl→Nat→AV→Hl
 | [],b,y=>[(b,y)]
 | (i,x)::r,b,y=>cond (Nat.beq i b) ((b,y)::r) (cond (Nat.blt b i) ((b,y)::(i,x)::r) ((i,x)::kg r b y))
structure St where
 s:Hl
 h:Am
mutual
def uH:Value→AV
 | .int k n=>.int k n
 | .bool b=>.bool b
 | .string ⟨⟨s⟩⟩=>.str s
 | .slice none 0 0=>.nsl
 | .pointer none=>.nilptr
 | .nilFunc=>.nilfn
 | .agg ⟨cs⟩=>.agg (T1 cs)
 | _=>.undef
def T1:List Value→List AV
 | []=>[]
 | v::r=>uH v::T1 r
end
def ev (s:Hl):Operand→AV
 | .tmp t=>Gv s t
 | .const v=>uH v
 | .func f=>cond (Nat.blt f 1000000) (.fn f []) .undef
 | .global _=>.undef
def Di (P:Program) (t:TypeId):Option Nat:=(P.info? t).map (·.size)
def Ao3 (P:Program) (t:TypeId):Option Nat:=(P.info? t).map (·.bytes)
def A15 (P:Program) (t:TypeId):Bool:=((P.info? t).map (·.hasPointers)).getD true
def Atb (P:Program) (t:TypeId):Option AV:=((P.info? t).bind (·.zero)).map uH
def Bb:LA→Bool
 | []=>true
 | .int ..::r=>Bb r
 | .bool _::r=>Bb r
 | .str _::r=>Bb r
 | .nsl::r=>Bb r
 | .nilptr::r=>Bb r
 | .nilfn::r=>Bb r
 | _=>false
def zs (P:Program) (t:TypeId):Option (LA) :=
 (P.info? t).bind fun i=>(i.zero).bind fun v=>cond (Bb (T1 v.cells.toList)&&Nat.beq v.cells.toList.length i.size) (some (T1 v.cells.toList)) none
def rY (op:BinOp) (k:IntKind) (a b:Int):Option AV :=
 match op with
 | .add=>some (.int k (k.wrap (a+b)))
 | .sub=>some (.int k (k.wrap (a - b)))
 | .mul=>some (.int k (k.wrap (a*b)))
 | .and=>some (.int k (k.wrap ((BitVec.ofInt k.bits a &&& BitVec.ofInt k.bits b).toNat:Int)))
 | .or=>some (.int k (k.wrap ((BitVec.ofInt k.bits a ||| BitVec.ofInt k.bits b).toNat:Int)))
 | .xor=>some (.int k (k.wrap ((BitVec.ofInt k.bits a ^^^ BitVec.ofInt k.bits b).toNat:Int)))
 | .andNot=>some (.int k (k.wrap ((BitVec.ofInt k.bits a &&& ~~~ (BitVec.ofInt k.bits b)).toNat:Int)))
 | .eql=>some (.bool (a==b))
 | .neq=>some (.bool (a != b))
 | .lss=>some (.bool (decide (a<b)))
 | .leq=>some (.bool (decide (a≤b)))
 | .gtr=>some (.bool (decide (a>b)))
 | .geq=>some (.bool (decide (a≥b)))
 | _=>none
def T2 (k k':IntKind):Bool:=decide (k=k')
def fV (P:Program) (t:TypeId):Bool:=match P.underlying t with | some .bool=>true | _=>false
def A3u {R:Type} (P:Program) (t:TypeId) (op:BinOp) (x y:AV) (r:AV→O R):O R :=
 match x,y with
 | .int k a,.int k' b =>
  match op with
  | .shl=>cond (decide (b<0)) none (r (.int k (k.wrap (a*2 ^ (min b.toNat k.bits)))))
  | .shr=>cond (decide (b<0)) none (r (.int k (a.fdiv (2 ^ (min b.toNat k.bits)))))
  | .quo=>cond (T2 k k') (cond (b==0) none (r (.int k (k.wrap (a.tdiv b))))) none
  | .rem=>cond (T2 k k') (cond (b==0) none (r (.int k (a.tmod b)))) none
  | op=>cond (T2 k k') ((rY op k a b).bind r) none
 | .bool a,.bool b =>
  match op with
  | .eql=>cond (fV P t) (r (.bool (a==b))) none
  | .neq=>cond (fV P t) (r (.bool (!(a==b)))) none
  | _=>none
 | .str a,.str b =>
  match op with
  | .add=>cond (Nat.ble (a.length+b.length) 140737488355328) (r (.str (a++b))) none
  | .eql=>r (.bool (a==b))
  | .neq=>r (.bool (!(a==b)))
  | .lss=>r (.bool (Op.bytesLess a b))
  | .leq=>r (.bool (Op.bytesLess a b||a==b))
  | .gtr=>r (.bool (!(Op.bytesLess a b||a==b)))
  | .geq=>r (.bool (!Op.bytesLess a b))
  | _=>none
 | _,_=>none
def Beg (op:UnOp) (x:AV):Option AV :=
 match op,x with
 | .neg,.int k n=>some (.int k (k.wrap (0 - n)))
 | .xor,.int k n=>rY .xor k (cond k.signed (-1) k.max) n
 | .not,.bool b=>some (.bool (!b))
 | _,_=>none
def uI (k:IntKind):AV→Option Int
 | .int k' n=>cond (T2 k k') (some n) none
 | _=>none
def asBool:AV→Option Bool
 | .bool b=>some b
 | _=>none
def uJ:AV→Option (List UInt8)
 | .str s=>some s
 | _=>none
def A3v (sz:Nat):AV→Option (LA×Nat)
 | .imm c len sz' _ _=>cond (Nat.beq sz sz') (some (c,len)) none
 | .nsl=>some ([],0)
 | _=>none
def A66:AV→Option UInt8
 | .int .u8 n=>some (UInt8.ofNat n.toNat)
 | _=>none
def zg:LA→Option (List UInt8)
 | []=>some []
 | x::r=>(A66 x).bind fun b=>(zg r).bind fun l=>some (b::l)
def MP {R:Type} (step:TypeId→LA→LA→(Bool→O R)→O R) (x y:LA):List (Nat×TypeId)→(Bool→O R)→O R
 | [],k=>k true
 | (off,t)::r,k=>step t (x.drop off) (y.drop off) fun b=>MP step x y r fun c=>k (b&&c)
def Ao4 (P:Program) (sz:Nat) (f:Field):Bool:=match Di P f.type with
 | some s => Nat.ble 1 s && (Nat.ble (f.offset + s) sz && !(f.name == "_"))
 | none=>false
def yV {R:Type} (P:Program):Nat→TypeId→LA→LA→(Bool→O R)→O R
 | 0,_,_,_,_=>none
 | d+1,t,x,y,k=>match P.underlying t with
  | some (.int kd)=>(x.head?).bind fun u=>(uI kd u).bind fun a=>(y.head?).bind fun v=>(uI kd v).bind fun b=>k (a==b)
  | some .bool=>(x.head?).bind fun u=>(asBool u).bind fun a=>(y.head?).bind fun v=>(asBool v).bind fun b=>k (a==b)
  | some .string=>(x.head?).bind fun u=>(uJ u).bind fun a=>(y.head?).bind fun v=>(uJ v).bind fun b=>k (a==b)
  | some (.struct fs)=>(Di P t).bind fun sz=>cond (P.stoodInHeld t||!(fs.toList.all (Ao4 P sz))) none (MP (yV P d) x y (fs.toList.map fun f=>(f.offset,f.type)) k)
  | some (.array n e)=>(Di P e).bind fun s=>(Di P t).bind fun sz=>cond (Nat.ble 1 s&&Nat.ble (n*s) sz) (MP (yV P d) x y ((List.range n).map fun i=>(i*s,e)) k) none
  | _=>none
def Ao5:AV→Option (LA)
 | .pagg c _=>some c
 | .agg c=>some c
 | _=>none
def A67 (P:Program) (t:TypeId):Bool:=match P.underlying t with | some (.struct _)=>true | some (.array _ _)=>true | _=>false
def Alo {R:Type} (P:Program) (t:TypeId) (op:BinOp) (x y:AV) (r:AV→O R):O R :=
 match Ao5 x,Ao5 y with
 | some a,some b=>(Di P t).bind fun s=>cond (Nat.ble 1 s&&(Nat.beq a.length s&&(Nat.beq b.length s&&(A67 P t&&!(P.eqGuardType P.depth t)))))
  (match op with
   | .eql=>yV P 8 t a b fun c=>r (.bool c)
   | .neq=>yV P 8 t a b fun c=>r (.bool (!c))
   | _=>none) none
 | _,_=>A3u P t op x y r
def BQ {R:Type} (P:Program) (t:TypeId) (c:LA) (org:Bool) (k:Bool→O R):O R :=
 cond (A15 P t) (k org) (cond (!org||Bb c) (k false) none)
def aA {R:Type} (P:Program) (t:TypeId) (c:LA) (org:Bool) (k:AV→O R):O R :=
 match P.underlying t with
 | some (.int kd)=>(c.head?).bind fun x=>(uI kd x).bind fun n=>k (.int kd n)
 | some .bool=>(c.head?).bind fun x=>(asBool x).bind fun b=>k (.bool b)
 | some .string=>(c.head?).bind fun x=>(uJ x).bind fun s=>k (.str s)
 | some (.slice e)=>(Di P e).bind fun sz=>(c.head?).bind fun x=>(A3v sz x).bind fun p=>k (.imm p.1 p.2 sz false org)
 | some (.struct _)=>(Di P t).bind fun n=>cond (Nat.ble n c.length) (BQ P t (c.take n) org fun o=>k (.pagg (c.take n) o)) none
 | some (.array _ _)=>(Di P t).bind fun n=>cond (Nat.ble n c.length) (BQ P t (c.take n) org fun o=>k (.pagg (c.take n) o)) none
 | _=>none
def RP {R:Type} (n:Nat) (k:AV→O R):LA→Nat→O R
 | [],_=>none
 | v::r,i=>cond (Nat.beq n i) (k v) (RP n k r (i+1))
def uK {R:Type} (P:Program) (t:TypeId) (c:LA) (k:AV→O R):O R :=
 match P.underlying t with
 | some (.struct _)=>(Di P t).bind fun n=>cond (Nat.ble n c.length) (k (.agg (c.take n))) none
 | some (.array _ _)=>(Di P t).bind fun n=>cond (Nat.ble n c.length) (k (.agg (c.take n))) none
 | some _=>(c.head?).bind k
 | none=>none
def aB {R:Type} (P:Program) (t:TypeId) (c:LA) (off:Nat) (k:AV→O R):O R :=
 match P.underlying t with
 | some (.struct _)=>(Di P t).bind fun n=>cond (Nat.ble n (c.drop off).length) (k (.agg ((c.drop off).take n))) none
 | some (.array _ _)=>(Di P t).bind fun n=>cond (Nat.ble n (c.drop off).length) (k (.agg ((c.drop off).take n))) none
 | some _=>RP off k c 0
 | none=>none
abbrev B5:=Nat→Option Blk
def Kt (g:B5) (b:Nat):Option Blk:=(g b).bind fun x=>cond x.dead none (some x)
def zt {R:Type} (P:Program) (g:B5) (t:TypeId) (p:AV) (k:AV→O R):O R :=
 match p with
 | .iptr c org=>aA P t c org k
 | .optr b off=>(Kt g b).bind fun x=>cond x.pure (aA P t (x.cells.drop off) x.taint k) (aB P t x.cells off k)
 | _=>none
def Ac (i:Int) (n:Nat):Bool:=decide (0≤i)&&decide (i<(n:Int))
def V7 {R:Type} (P:Program) (t:TypeId) (x i:AV) (k:AV→O R):O R :=
 match P.underlying t,x,i with
 | some (.slice el),.imm c len sz _ org,.int _ i=>(Di P el).bind fun sz'=>cond (Nat.beq sz sz') (cond (Ac i len) (k (.iptr (c.drop (i.toNat*sz)) org)) none) none
 | some (.slice el),.own b off len,.int _ i=>(Di P el).bind fun sz=>cond (Ac i len) (k (.optr b (off+i.toNat*sz))) none
 | some (.array len el),.iptr c org,.int _ i=>(Di P el).bind fun sz=>cond (Ac i len) (k (.iptr (c.drop (i.toNat*sz)) org)) none
 | some (.array len el),.optr b off,.int _ i=>(Di P el).bind fun sz=>cond (Ac i len) (k (.optr b (off+i.toNat*sz))) none
 | _,_,_=>none
def zh (P:Program) (t:TypeId) (f:Nat):Option (Nat×TypeId) :=
 match P.underlying t with
 | some (.struct fs)=>(fs[f]?).map fun x=>(x.offset,x.type)
 | _=>none
def V8 {R:Type} (P:Program) (t:TypeId) (x:AV) (f:Nat) (k:AV→O R):O R :=
 (zh P t f).bind fun p=>(Di P p.2).bind fun n=>cond (Nat.beq n 0) none
 (match x with
 | .iptr c org=>k (.iptr (c.drop p.1) org)
 | .optr b off=>k (.optr b (off+p.1))
 | _=>none)
def rZ {R:Type} (P:Program) (t:TypeId) (x:AV) (f:Nat) (k:AV→O R):O R :=
 (zh P t f).bind fun p =>
 match x with
 | .pagg c org=>aA P p.2 (c.drop p.1) org k
 | .agg c=>uK P p.2 (c.drop p.1) k
 | _=>none
def r7 {R:Type} (P:Program) (t:TypeId) (x i:AV) (k:AV→O R):O R :=
 match P.underlying t,x,i with
 | some .string,.str s,.int _ i=>cond (Ac i s.length) (k (.int .u8 ((s.getD i.toNat 0).toNat:Int))) none
 | some (.array len el),.pagg c org,.int _ i=>(Di P el).bind fun sz=>cond (Ac i len) (aA P el (c.drop (i.toNat*sz)) org k) none
 | some (.array len el),.agg c,.int _ i=>(Di P el).bind fun sz=>cond (Ac i len) (aB P el c (i.toNat*sz) k) none
 | _,_,_=>none
def mf (o:Option AV) (d:Nat):Option Int:=match o with | none=>some (d:Int) | some (.int _ i)=>some i | _=>none
def BR {R:Type} (lo hi mx:Option AV) (n:Nat) (k:Nat→Nat→O R):O R :=
 (mf lo 0).bind fun l=>(mf hi n).bind fun h=>(mf mx n).bind fun m=>cond (mx.isSome&&!hi.isSome) none <|
 cond (decide (0≤l)&&(decide (l≤h)&&(decide (h≤m)&&decide (m≤(n:Int))))) (k l.toNat h.toNat) none
def A16 (tight:Bool) (hi mx:Option AV):Bool:=match hi,mx with | none,none=>tight | some (.int _ a),some (.int _ b)=>a==b | _,_=>false
def r8 {R:Type} (P:Program) (g:B5) (t:TypeId) (x:AV) (lo hi mx:Option AV) (k:AV→O R):O R :=
 match P.underlying t,x with
 | some .string,.str s=>cond mx.isSome none (BR lo hi none s.length fun l h=>k (.str ((s.drop l).take (h - l))))
 | some (.slice el),.nsl=>(Di P el).bind fun _=>BR lo hi mx 0 fun _ _=>k .nsl
 | some (.slice el),.imm c n sz tight org=>(Di P el).bind fun sz'=>cond (Nat.beq sz sz') (BR lo hi mx n fun l h =>
   k (.imm ((c.drop (l*sz)).take ((h - l)*sz)) (h - l) sz (A16 tight hi mx) org)) none
 | some (.slice el),.own b off n=>(Di P el).bind fun sz=>(Kt g b).bind fun y=>cond (Nat.beq sz y.sz) (BR lo hi mx n fun l h=>k (.own b (off+l*sz) (h - l))) none
 | _,_=>none
def Bb1 (P:Program) (t:TypeId) (x:AV):Option AV :=
 match P.underlying t,x with
 | some (.slice _),.nsl=>some (.int .i64 0)
 | some (.slice _),.imm _ n _ _ _=>some (.int .i64 n)
 | some (.slice _),.own _ _ n=>some (.int .i64 n)
 | some .string,.str s=>some (.int .i64 s.length)
 | some (.array n _),_=>some (.int .i64 n)
 | _,_=>none
def A17 (g:B5) (sz:Nat):AV→Option (LA×Nat×Bool)
 | .nsl=>some ([],0,false)
 | .imm c n sz' _ org=>cond (Nat.beq sz sz') (some (c,n,org)) none
 | .own b off n=>(Kt g b).bind fun x=>cond (x.pure&&Nat.beq sz x.sz) (some ((x.cells.drop off).take (n*sz),n,x.taint)) none
 | .str s=>cond (Nat.beq sz 1) (some (s.map fun b=>.int .u8 (b.toNat:Int),s.length,false)) none
 | _=>none
def ki {R:Type} (P:Program) (el:TypeId) (g:B5) (sz:Nat) (x:AV) (k:LA×Nat×Bool→O R):O R :=
 (A17 g sz x).bind fun q=>BQ P el q.1 q.2.2 fun o=>k (q.1,q.2.1,o)
abbrev H8:=List (Nat×Option Blk)
def iB (g:B5):AV→Option (AV×H8×Bool)
 | .own b off n=>(Kt g b).bind fun x=>cond x.pure (some (.imm ((x.cells.drop off).take (n*x.sz)) n x.sz false x.taint,[(b,some { x with sealed:=true })],x.taint)) none
 | .optr .. | .agg _ | .tup _ | .undef | .fn .. | .omap _=>none
 | .imm c n sz t org=>some (.imm c n sz t org,[],org)
 | .iptr c org=>some (.iptr c org,[],org)
 | .pagg _ _=>none
 | v=>some (v,[],false)
def DQ (g:B5):LA→Option (LA×H8×Bool)
 | []=>some ([],[],false)
 | v::r=>(iB g v).bind fun p=>(DQ g r).bind fun q=>some (p.1::q.1,p.2.1++q.2.1,p.2.2||q.2.2)
def CY (g:B5):AV→Option (LA×H8×Bool)
 | .pagg c org=>some (c,[],org)
 | .agg c=>DQ g c
 | v=>DQ g [v]
def Cu (c:LA) (off:Nat) (vs:LA):LA:=c.take off++vs++c.drop (off+vs.length)
def Bf:H8→Nat→Bool
 | [],_=>false
 | (i,_)::r,b=>cond (Nat.beq i b) true (Bf r b)
def MQ (g:B5):AV→Bool
 | .own b _ _=>(Kt g b).isSome
 | .optr b _=>(Kt g b).isSome
 | .agg _=>false
 | .pagg _ _=>false
 | .tup _=>false
 | .undef=>false
 | .omap _=>false
 | _=>true
def MR (g:B5):LA→Bool
 | []=>true
 | v::r=>MQ g v&&MR g r
def setCells (c:LA) (off:Nat) (vs:LA):LA:=match vs with | [y]=>c.set off y | ys=>Cu c off ys
def r9 {R:Type} (P:Program) (g:B5) (t:TypeId) (p v:AV) (k:AV→H8→O R):O R :=
  match p with
  | .optr b off=>(Kt g b).bind fun x=>(Di P t).bind fun n =>
    cond x.sealed none
    (cond x.pure
      ((CY g v).bind fun q=>cond (Nat.beq q.1.length n&&(Nat.ble (off+n) x.cells.length&&!Bf q.2.1 b))
        (k .undef (q.2.1++[(b,some { x with cells:=setCells x.cells off q.1,taint:=x.taint||q.2.2 })])) none)
      (match v with
        | .agg c=>cond (MR g c&&(Nat.beq c.length n&&Nat.ble (off+n) x.cells.length)) (k .undef [(b,some { x with cells:=Cu x.cells off c })]) none
        | .pagg c org=>cond (Nat.beq off 0&&(Nat.beq c.length n&&Nat.beq x.cells.length n)) (k .undef [(b,some { x with pure:=true,taint:=org,cells:=c })]) none
        | v=>cond (MQ g v&&(Nat.beq n 1&&Nat.blt off x.cells.length)) (k .undef [(b,some { x with cells:=x.cells.set off v })]) none))
  | _=>none
def H3:Nat:=1000000
def nid (d:Nat):Nat:=1000000+d*16
def Vm (d:Nat) (pure taint:Bool) (sz:Nat) (cells:LA):H8 :=
 [(nid d,some { dead:=false,sealed:=false,pure,taint,sz,cells })]
def Atc {R:Type} (P:Program) (g:B5) (d:Nat) (t:TypeId) (v:AV) (k:AV→H8→O R):O R :=
 match v with
 | .pagg c org=>k (.optr (nid d) 0) (Vm d true org 0 c)
 | .agg c =>
  cond (A15 P t) (cond (MR g c) (k (.optr (nid d) 0) (Vm d false false 0 c)) none)
   ((DQ g c).bind fun q=>k (.optr (nid d) 0) (q.2.1++Vm d true q.2.2 0 q.1))
 | v=>cond (MQ g v) (k (.optr (nid d) 0) (Vm d false false 0 [v])) none
def Gw (sz:Nat):Blk:={ dead:=false,sealed:=false,pure:=true,taint:=false,sz,cells:=[] }
def A68 (co:Bool) (v:AV):AV:=match co,v with
 | true,.agg c=>cond (Bb c) (.pagg c false) (.agg c)
 | _,v=>v
def r_ {R:Type} (P:Program) (g:B5) (co:Bool) (d:Nat) (t:TypeId) (k:AV→H8→O R):O R :=
 match P.underlying t,Atb P t with
 | some (.slice el),some .nsl=>(Di P el).bind fun sz=>k (.optr (nid d) 0) [(nid d+1,some (Gw sz)),(nid d,some { dead:=false,sealed:=false,pure:=false,taint:=false,sz:=0,cells:=[.own (nid d+1) 0 0] })]
 | _,some z=>Atc P g d t (A68 co z) k
 | _,none=>none
def Vn (place:Nat→Option (Nat×Nat)):List (Nat×LA)→LA→Option (LA)
 | [],c=>some c
 | (i,vs)::r,c=>(place i).bind fun p=>cond (Nat.beq vs.length p.2&&Nat.ble (p.1+p.2) c.length) (Vn place r (setCells c p.1 vs)) none
def zu {R:Type} (place:Nat→Option (Nat×Nat)):List (Nat×LA)→LA→(LA→O R)→O R
 | [],c,k=>k c
 | (i,vs)::r,c,k=>(place i).bind fun p=>cond (Nat.beq vs.length p.2&&Nat.ble (p.1+p.2) c.length) (zu place r (setCells c p.1 vs) k) none
def Qq (n:Nat) (z:LA):LA:=match z with | [v]=>List.replicate n v | z=>(List.replicate n z).flatten
def MS (g:B5):List (Nat×AV)→Option (List (Nat×LA)×H8×Bool)
 | []=>some ([],[],false)
 | (i,v)::r=>(CY g v).bind fun q=>(MS g r).bind fun q'=>some ((i,q.1)::q'.1,q.2.1++q'.2.1,q.2.2||q'.2.2)
def A69:AV→Bool
 | .optr ..=>true
 | .fn _ (_::_)=>true
 | _=>false
@[irreducible] def V9 {R:Type} (P:Program) (g:B5) (d:Nat) (t:TypeId) (len:Nat) (parts:List (Nat×AV)) (k:AV→H8→O R):O R:=none
def S9 {R:Type} (P:Program) (g:B5) (d:Nat) (t:TypeId) (len:Nat) (parts:List (Nat×AV)) (k:AV→H8→O R):O R :=
 match P.underlying t with
 | some (.slice el)=>(Di P el).bind fun sz=>(zs P el).bind fun z=>(MS g parts).bind fun q =>
  cond (Nat.ble (len*sz) 16777216) (zu (fun i=>some (i*sz,sz)) q.1 (Qq len z) fun cells =>
   k (.own (nid d) 0 len) (q.2.1++Vm d true q.2.2 sz cells)) none
 | _=>none
def kj:AV→Bool
 | .own .. | .optr .. | .fn .. | .undef | .agg _ | .pagg _ _ | .tup _ | .omap _=>true
 | _=>false
def zw:AV→Bool
 | .agg c=>c.any kj
 | .pagg _ _=>false
 | v=>kj v
def cellsOf:AV→LA
 | .agg c=>c
 | .pagg c _=>c
 | v=>[v]
def Ao6:AV→Bool
 | .imm _ _ _ _ o=>o
 | .iptr _ o=>o
 | _=>false
def uL:AV→Bool
 | .pagg _ o=>o
 | .agg c=>c.any Ao6
 | v=>Ao6 v
def RQ:AV→Bool
 | .pagg _ _=>true
 | _=>false
def mg (P:Program) (t:TypeId):Option (Nat→Option (Nat×Nat)) :=
 match P.underlying t with
 | some (.array _ e)=>(P.info? e).map fun ie=>fun i=>some (i*ie.size,ie.size)
 | some (.struct fs)=>(fs.toList.mapM fun f=>(P.info? f.type).map fun i=>(f.offset,i.size)).map fun pl=>fun i=>pl[i]?
 | _=>none
def Alp (P:Program) (t:TypeId):Option (LA):=(P.info? t).bind fun i=>(i.zero).map fun v=>T1 v.cells.toList
def Gf:List (Nat×AV)→List (Nat×LA)
 | []=>[]
 | (i,v)::r=>(i,cellsOf v)::Gf r
def Atd (o:Bool):AV→AV
 | .imm c n s t _=>.imm c n s t o
 | .iptr c _=>.iptr c o
 | v=>v
def zx:AV→LA
 | .agg c=>c
 | .pagg c o=>c.map (Atd o)
 | v=>[v]
def Lc:List (Nat×AV)→List (Nat×LA)
 | []=>[]
 | (i,v)::r=>(i,zx v)::Lc r
def aC:AV→Bool
 | .undef=>false
 | .tup _=>false
 | .omap _=>false
 | _=>true
def Ao7 (P:Program) (t:TypeId) (parts:List (Nat×AV)):Option AV :=
 (mg P t).bind fun place=>cond (parts.all fun p=>aC p.2) (
 cond (parts.any fun p=>RQ p.2)
  (cond (parts.any fun p=>zw p.2) ((Alp P t).bind fun z=>(Vn place (Lc parts) z).map fun c=>.agg c) ((zs P t).bind fun z=>(Vn place (Gf parts) z).map fun c=>.pagg c (parts.any fun p=>uL p.2)))
  ((Alp P t).bind fun z=>(Vn place (Gf parts) z).map fun c=>.agg c)) none
def Ao8 {R:Type} (P:Program) (t:TypeId) (parts:List (Nat×AV)) (k:AV→O R):O R :=
 (mg P t).bind fun place=>cond (parts.all fun p=>aC p.2) (
 cond (parts.any fun p=>RQ p.2)
  (cond (parts.any fun p=>zw p.2) ((Alp P t).bind fun z=>zu place (Lc parts) z fun c=>k (.agg c)) ((zs P t).bind fun z=>zu place (Gf parts) z fun c=>k (.pagg c (parts.any fun p=>uL p.2))))
  ((Alp P t).bind fun z=>zu place (Gf parts) z fun c=>k (.agg c))) none
def mh (P:Program) (t:TypeId):List (Nat×Nat) :=
 match P.underlying t with
 | some (.struct fs)=>fs.toList.filterMap fun f=>match P.underlying f.type with | some (.slice el)=>(Di P el).map fun s=>(f.offset,s) | _=>none
 | _=>[]
def Ph (d:Nat):List (Nat×Nat)→Nat→LA→LA×H8
 | [],_,c=>(c,[])
 | (o,sz)::r,j,c=>match c[o]? with
  | some .nsl=>((Ph d r (j+1) (c.set o (.own (nid d+j) 0 0))).1,(nid d+j,some (Gw sz))::(Ph d r (j+1) (c.set o (.own (nid d+j) 0 0))).2)
  | _=>Ph d r (j+1) c
def A3w {R:Type} (P:Program) (t:TypeId) (co:Bool) (d:Nat) (v:AV) (k:AV→H8→O R):O R :=
 match co,v with
 | true,.agg c=>cond (Nat.ble (mh P t).length 14) (k (.agg (Ph d (mh P t) 1 c).1) (Ph d (mh P t) 1 c).2) none
 | _,v=>k v []
def A18 (P:Program):Nat→TypeId→Nat→List (Nat×TypeId)
 | 0,t,off=>[(off,t)]
 | d+1,t,off=>match P.underlying t with
  | some (.struct fs)=>fs.toList.flatMap fun f=>A18 P d f.type (off+f.offset)
  | _=>[(off,t)]
def A7a (P:Program) (t:TypeId):Bool:=match P.underlying t with
 | some (.int _)=>true | some .bool=>true | some .string=>true | some (.slice _)=>true | _=>false
def mj {R:Type} (P:Program) (c:LA) (org:Bool):List (Nat×TypeId)→LA→(LA→O R)→O R
 | [],acc,k=>k acc
 | (off,t)::r,acc,k=>cond (Nat.beq off acc.length&&A7a P t) (aA P t (c.drop off) org fun v=>mj P c org r (acc++[v]) k) none
def ra {R:Type} (P:Program) (co:Bool) (t:TypeId) (v:AV) (k:AV→O R):O R :=
 match co,v with
 | true,.pagg c org=>mj P c org (A18 P 4 t 0) [] fun l=>cond (Nat.beq c.length l.length) (k (.agg l)) none
 | _,v=>k v
def Alq {R:Type} (P:Program) (d:Nat) (t:TypeId) (len cap:AV) (k:AV→H8→O R):O R :=
 match P.underlying t,len,cap with
 | some (.slice el),.int .i64 l,.int .i64 c=>(Di P el).bind fun sz=>(Ao3 P el).bind fun by_=>(zs P el).bind fun z =>
  cond (decide (0≤l)&&(decide (l≤c)&&(decide (c≤140737488355328)&&decide (c*(by_:Int)≤140737488355328)))) (
   k (.own (nid d) 0 l.toNat) (Vm d true false sz (Qq l.toNat z))) none
 | _,_,_=>none
def A19 (g:B5) (sz:Nat) (s:AV):Option (LA×Nat×Bool×H8) :=
 match s with
 | .nsl=>some ([],0,false,[])
 | .imm _ n _ true _=>cond (Nat.beq n 0) (some ([],0,false,[])) none
 | .own b off n=>(Kt g b).bind fun x=>cond (x.pure&&(!x.sealed&&Nat.beq sz x.sz)) (some ((x.cells.drop off).take (n*sz),n,x.taint,[(b,none)])) none
 | _=>none
def Ao9 (P:Program) (t:TypeId):Bool:=match P.underlying t with | some (.slice _)=>true | some .string=>true | _=>false
def fW {R:Type} (P:Program) (g:B5) (d:Nat) (t tx:TypeId) (s x:AV) (k:AV→H8→O R):O R :=
 match P.underlying t with
 | some (.slice el)=>cond (Ao9 P tx) ( (Di P el).bind fun sz=>(Ao3 P el).bind fun by_=>(zs P el).bind fun _ =>
  (A19 g sz s).bind fun old=>ki P el g sz x fun new =>
  cond (Nat.ble (old.2.1+new.2.1) 140737488355328&&Nat.ble ((old.2.1+new.2.1)*by_) 140737488355328) (
   k (.own (nid d) 0 (old.2.1+new.2.1)) (old.2.2.2++Vm d true (old.2.2.1||new.2.2) sz (old.1++new.1))) none) none
 | _=>none
def Alr {R:Type} (P:Program) (g:B5) (t:TypeId) (s x:AV) (k:AV→H8→O R):O R :=
 match P.underlying t,s with
 | some (.slice el),.own b off n=>(Di P el).bind fun sz=>(Kt g b).bind fun y=>ki P el g sz x fun new =>
  cond (y.pure&&(!y.sealed&&Nat.beq sz y.sz)) (
   k (.int .i64 (min new.2.1 n:Nat)) [(b,some { y with cells:=Cu y.cells off (new.1.take ((min new.2.1 n)*sz)),taint:=y.taint||new.2.2 })]) none
 | some (.slice el),.nsl=>(Di P el).bind fun sz=>ki P el g sz x fun _=>k (.int .i64 0) []
 | _,_=>none
def Als {R:Type} (P:Program) (g:B5) (d:Nat) (src dst:TypeId) (x:AV) (k:AV→H8→O R):O R :=
 match P.underlying dst with
 | some (.int kd)=>match x with | .int _ n=>cond (P.underlying src).isSome (k (.int kd (kd.wrap n)) []) none | _=>none
 | _=>none
def mm:LA→Int→Bool
 | [],_=>false
 | .int _ m::r,n=>cond (n==m) true (mm r n)
 | _::r,n=>mm r n
def Ax7 (c:LA) (n:Int):LA:=cond (mm c n) c (c++[.int .i64 n])
def Apa (P:Program) (t:TypeId):Bool:=match P.underlying t with
 | some (.map k e)=>(match P.underlying k with | some (.int .i64)=>true | _=>false)&&(match Atb P e with | some (.bool false)=>true | _=>false)
 | _=>false
def DR {R:Type} (d:Nat) (r:Option AV) (k:AV→H8→O R):O R :=
 match r with
 | none=>k (.omap (nid d)) [(nid d,some { dead:=false,sealed:=false,pure:=true,taint:=false,sz:=0,cells:=[],mp:=true })]
 | some _=>none
def rc {R:Type} (P:Program) (g:B5) (t:TypeId) (m key val:AV) (k:AV→H8→O R):O R :=
 match m,key,val with
 | .omap b,.int .i64 n,.bool true=>cond (Apa P t) ((Kt g b).bind fun x=>cond x.mp (k .undef [(b,some { x with cells:=Ax7 x.cells n })]) none) none
 | _,_,_=>none
def Alt {R:Type} (P:Program) (g:B5) (t:TypeId) (m key:AV) (comma:Bool) (k:AV→O R):O R :=
 match m,key,comma with
 | .omap b,.int .i64 n,false=>cond (Apa P t) ((Kt g b).bind fun x=>cond x.mp (k (.bool (mm x.cells n))) none) none
 | _,_,_=>none
mutual
def Hm:AV→List Nat
 | .own b _ _=>[b]
 | .optr b _=>[b]
 | .omap b=>[b]
 | .agg c=>Jb c
 | .tup c=>Jb c
 | .fn _ c=>Jb c
 | _=>[]
def Jb:List AV→List Nat
 | []=>[]
 | v::r=>Hm v++Jb r
end
mutual
def gU (ρ:Nat→Nat):AV→AV
 | .own b off n=>.own (ρ b) off n
 | .optr b off=>.optr (ρ b) off
 | .omap b=>.omap (ρ b)
 | .agg c=>.agg (Z7 ρ c)
 | .tup c=>.tup (Z7 ρ c)
 | .fn f c=>.fn f (Z7 ρ c)
 | v=>v
def Z7 (ρ:Nat→Nat):List AV→List AV
 | []=>[]
 | v::r=>gU ρ v::Z7 ρ r
end
def RR (g:B5):AV→Option (AV×Bool)
 | .own b off n=>(Kt g b).bind fun x=>cond x.pure (some (.imm ((x.cells.drop off).take (n*x.sz)) n x.sz false (!x.sealed||x.taint),!x.sealed||x.taint)) none
 | .imm c n sz _ org=>some (.imm c n sz false org,org)
 | .iptr c org=>some (.iptr c org,org)
 | .optr .. | .agg _ | .tup _ | .undef | .fn .. | .pagg .. | .omap _=>none
 | v=>some (v,false)
def aD (g:B5):LA→Option (LA×Bool)
 | []=>some ([],false)
 | v::r=>(RR g v).bind fun p=>(aD g r).bind fun q=>some (p.1::q.1,p.2||q.2)
def Apb (g:B5):AV→Option (AV×Bool)
 | .own b off n=>(Kt g b).bind fun x=>cond x.pure (some (.imm ((x.cells.drop off).take (n*x.sz)) n x.sz false (!x.sealed||x.taint),!x.sealed)) none
 | .imm c n sz _ org=>some (.imm c n sz false org,false)
 | .optr b off=>(Kt g b).bind fun x=>cond x.pure (some (.iptr (x.cells.drop off) (!x.sealed||x.taint),!x.sealed)) none
 | .agg c=>(aD g c).bind fun q=>some (.pagg q.1 q.2,true)
 | .fn f []=>some (.fn f [],false)
 | .fn _ _ | .tup _ | .undef | .omap _=>none
 | v=>some (v,false)
def Ju (d:Nat):List (Nat×Nat)→Nat→Nat
 | [],_=>d
 | (i,x)::r,b=>cond (Nat.beq i b) x (Ju d r b)
def J8:List Nat→Nat→Bool
 | [],_=>false
 | i::r,b=>cond (Nat.beq i b) true (J8 r b)
def uM:List Nat→List Nat→List Nat
 | [],acc=>acc.reverse
 | i::r,acc=>cond (J8 acc i) (uM r acc) (uM r (i::acc))
def aE:List Nat→Bool
 | []=>true
 | i::r=>!J8 r i&&aE r
def A6 (base:Nat):List Nat→List (Nat×Nat)
 | []=>[]
 | i::r=>(i,base)::A6 (base+1) r
def Mk (g:B5):List Nat→List Nat
 | []=>[]
 | b::r=>(match g b with | some x=>cond x.pure [] (Jb x.cells) | none=>[])++Mk g r
def DS (g:B5) (ids:List Nat):List Nat:=uM (ids++Mk g (ids++Mk g ids)) []
def aF (g:B5):List Nat→Bool
 | []=>true
 | b::r=>(match g b with | some x=>!x.dead | none=>false)&&aF g r
def LM (ρ:Nat→Nat) (x:Blk):Blk:={ x with cells:=cond x.pure x.cells (Z7 ρ x.cells) }
def sub (g:B5) (ρ:Nat→Nat):List Nat→Am
 | []=>[]
 | b::r=>match g b with
  | some x=>G2 (sub g ρ r) (ρ b) (LM ρ x)
  | none=>sub g ρ r
structure Tw where
 runK:{R:Type}→List AV→Am→(AV→Am→O R)→O R
 eq:∀ {R:Type} (args:List AV) (h:Am) (k:AV→Am→O R),runK args h k=(runK args h fun v h'=>some (v,h')).bind fun p=>k p.1 p.2
def mo {R:Type}:List (Nat×Tw)→Nat→LA→Am→(AV→Am→O R)→O R
 | [],_,_,_,_=>none
 | (g,t)::r,f,args,h,k=>cond (Nat.beq g f) (t.runK args h k) (mo r f args h k)
structure Env where
 P:Program
 nt:Nat
 muts:Nat→List Bool
 nils:List (Nat×Nat)
 free:List Nat
 cob:List Nat
 tbl:List (Nat×Tw)
mutual
def LN:AV→Bool
 | .imm _ _ _ _ o=>o
 | .iptr _ o=>o
 | .pagg _ o=>o
 | .agg c=>W8 c
 | .tup c=>W8 c
 | .fn _ c=>W8 c
 | _=>false
def W8:List AV→Bool
 | []=>false
 | v::r=>LN v||W8 r
end
def mq:Am→Bool
 | []=>false
 | (_,x)::r=>x.taint||(cond x.pure false (W8 x.cells))||mq r
def Ld (g:B5):LA→List Nat
 | []=>[]
 | .own b _ _::r=>match g b with | some x=>cond x.sealed (Ld g r) (b::Ld g r) | none=>Ld g r
 | _::r=>Ld g r
def MT (g:B5):AV→List Nat
 | .own b _ _=>match g b with | some x=>cond x.sealed [] [b] | none=>[]
 | .optr b _=>match g b with | some x=>cond x.sealed [] [b] | none=>[]
 | .agg c=>Ld g c
 | _=>[]
def MU (g:B5):List Bool→LA→Option (LA×List Nat×List Nat)
 | _,[]=>some ([],[],[])
 | ms,v::r =>
  cond (ms.headD false)
   ((MU g ms.tail r).bind fun q=>some (v::q.1,Hm v++q.2.1,q.2.2))
   ((Apb g v).bind fun p=>(MU g ms.tail r).bind fun q=>some (p.1::q.1,q.2.1,MT g v++q.2.2))
def VJ (ids:List Nat):List Nat→Bool
 | []=>true
 | b::r=>J8 ids b&&VJ ids r
def Ate:List Nat→List Nat→Bool
 | [],_=>true
 | i::r,l=>!J8 l i&&Ate r l
def Apc:List Nat→Bool
 | []=>true
 | _=>false
def Alu {R:Type} (E:Env) (g:B5) (d:Nat) (f:Nat) (args:LA) (k:AV→H8→O R):O R :=
 (MU g (E.muts f) args).bind fun q =>
 let ids:=DS g q.2.1
 let tin:=A6 100000 ids
 let outs:=tin.map (·.2)
 cond (aF g ids&&(VJ ids q.2.1&&(VJ ids (Mk g ids)&&(Ate q.2.2 ids&&(aE (ids.map (Ju 0 tin))&&Nat.ble ids.length 100000))))) (
  mo E.tbl f (Z7 (Ju 0 tin) q.1) (sub g (Ju 0 tin) ids) fun rv rh =>
  let all:=DS (Au rh) (Hm rv++outs)
  let new:=all.filter fun b=>!J8 outs b
  let tnew:=A6 (nid d) new
  let σ:=Ju 0 ((tin.map fun p=>(p.2,p.1))++tnew)
  cond (!Apc q.2.2&&(LN rv||mq rh)) none
   (cond (aF (Au rh) new&&(Nat.ble new.length 16&&(VJ all (Hm rv)&&(VJ all outs&&(VJ all (Mk (Au rh) all)&&aE (all.map σ))))))
    (k (gU σ rv) ((tin.map fun p=>(p.1,(Au rh p.2).map (LM σ)))++tnew.map fun p=>(p.2,(Au rh p.1).map (LM σ)))) none)) none
def Alv {R:Type} (c a b:AV) (k:AV→O R):O R :=
 match c,a,b with
 | .bool t,.bool x,.bool y=>k (.bool (cond t x y))
 | .bool t,x,.tup []=>cond t (k x) none
 | .bool t,.tup [],y=>cond t none (k y)
 | .bool t,x,y=>cond t (k x) (k y)
 | _,_,_=>none
def A2a (P : Program) (f : Nat) : Bool := match P.funcs[f]? with | some fn => fn.body.isSome && !(fn.name == "runtime.NumGoroutine") | none => false
def Bj (a b:Int):Int:=cond (decide (b<a)) b a
def Gc (a b:Int):Int:=cond (decide (b>a)) b a
def A3x:AV→AV→Option AV
 | .int k a,.int _ b=>some (.int k (Bj a b))
 | _,_=>none
def A3y:AV→AV→Option AV
 | .int k a,.int _ b=>some (.int k (Gc a b))
 | _,_=>none
def Aiq {R:Type} (E:Env) (g:B5) (d:Nat) (v:Operand→AV) (o:Op) (k:AV→H8→O R):O R :=
 match o with
 | .move x=>k (v x) []
 | .assign x=>k (v x) []
 | .pick c a b=>Alv (v c) (v a) (v b) fun r=>k r []
 | .alloc t=>r_ E.P g (J8 E.cob d) d t k
 | .box t x=>ra E.P (J8 E.cob d) t (v x) fun u=>Atc E.P g d t u k
 | .build t parts=>Ao8 E.P t (parts.toList.map fun p=>(p.1,v p.2)) fun r=>A3w E.P t (J8 E.cob d) d r k
 | .buildSlice t len parts=>cond ((parts.toList.map fun p=>(p.1,v p.2)).any fun p=>A69 p.2) (V9 E.P g d t len (parts.toList.map fun p=>(p.1,v p.2)) k) (S9 E.P g d t len (parts.toList.map fun p=>(p.1,v p.2)) k)
 | .load t a=>zt E.P g t (v a) fun r=>k r []
 | .store t a x=>r9 E.P g t (v a) (v x) k
 | .nilCheck x=>match v x with | .iptr c o=>k (.iptr c o) [] | .optr b o=>k (.optr b o) [] | _=>none
 | .binOp op t x y _=>Alo E.P t op (v x) (v y) fun r=>k r []
 | .unOp op _ x=>(Beg op (v x)).bind fun r=>k r []
 | .convert s t x=>Als E.P g d s t (v x) k
 | .makeFunc (.func f) first caps=>cond (Nat.blt f 1000000) (k (.fn (f+1000000*first.toList.length) ((first.toList++caps.toList).map v)) []) none
 | .makeSlice t l c=>Alq E.P d t (v l) (v c) k
 | .slice t x lo hi mx=>r8 E.P g t (v x) (lo.map v) (hi.map v) (mx.map v) fun r=>k r []
 | .fieldAddr t x f=>V8 E.P t (v x) f fun r=>k r []
 | .field t x f=>rZ E.P t (v x) f fun r=>k r []
 | .indexAddr t x i=>V7 E.P t (v x) (v i) fun r=>k r []
 | .index t x i=>r7 E.P t (v x) (v i) fun r=>k r []
 | .makeMap _ r=>DR d (r.map v) k
 | .mapUpdate t m x y=>rc E.P g t (v m) (v x) (v y) k
 | .lookup t m x c=>Alt E.P g t (v m) (v x) c fun r=>k r []
 | .extract t i=>match v t with | .tup vs=>(vs[i]?).bind fun r=>k r [] | _=>none
 | .call c=>match c.callee with
  | .builtin .len=>match c.args.toList,c.argTypes.toList with | [x],[t]=>(Bb1 E.P t (v x)).bind fun r=>k r [] | _,_=>none
  | .builtin .append=>match c.args.toList,c.argTypes.toList with | [s,x],[t,tx]=>fW E.P g d t tx (v s) (v x) k | _,_=>none
  | .builtin .copy=>match c.args.toList,c.argTypes.toList with | [s,x],[t,_]=>Alr E.P g t (v s) (v x) k | _,_=>none
  | .builtin .min=>match c.args.toList with | [x,y]=>(A3x (v x) (v y)).bind fun r=>k r [] | [x,y,z]=>(A3x (v x) (v y)).bind fun q=>(A3x q (v z)).bind fun r=>k r [] | _=>none
  | .builtin .max=>match c.args.toList with | [x,y]=>(A3y (v x) (v y)).bind fun r=>k r [] | [x,y,z]=>(A3y (v x) (v y)).bind fun q=>(A3y q (v z)).bind fun r=>k r [] | _=>none
  | .value fo=>match v fo with
   | .fn f caps=>cond (A2a E.P (f%1000000)) (Alu E g d (f%1000000) (caps.take (f/1000000)++(c.args.toList.map v++caps.drop (f/1000000))) k) none
   | _=>none
  | _=>none
 | _=>none
structure Foot where
 r:List Nat
 w:Option Nat
 f:List Nat
 u:List Nat
def ko:List Operand→List Nat
 | []=>[]
 | .tmp t::r=>t::ko r
 | _::r=>ko r
def As:H8→Am→Am
 | [],h=>h
 | (b,some x)::r,h=>As r (G2 h b x)
 | (b,none)::r,h=>As r (match Au h b with | some x=>G2 h b { x with dead:=true,pure:=true,cells:=[] } | none=>h)
def fX (ops:Array Oper) (o:Oper):Option (Nat×Bool) :=
 match o.guard with
 | none=>none
 | some (j,want)=>((ops[j]?).bind (·.dst)).map fun t=>(t,want)
def RS (ops:Array Oper) (s:Hl) (o:Oper):Option Bool :=
 match o.guard with
 | none=>some true
 | some (j,want)=>match (ops[j]?).bind (·.dst) with
  | some t=>match Gv s t with
   | .bool b=>some (b==want)
   | .tup []=>some false
   | _=>none
  | none=>some false
def Ax8 (nt:Nat) (s:Hl) (d:Option Nat) (v:AV):Hl:=match d with | some d=>cond (Nat.blt d nt) (kg s d v) s | none=>s
def A2b:Op→Bool
 | .move _ | .assign _ | .pick .. | .build .. | .binOp .. | .unOp .. | .makeFunc .. | .fieldAddr .. | .field .. | .indexAddr .. | .index .. | .extract .. | .nilCheck _=>false
 | .call c=>match c.callee with
  | .builtin .len | .builtin .min | .builtin .max=>false
  | _=>true
 | _=>true
def A2c:Op→Bool
 | .load ..=>true
 | _=>false
def Zo (h:Am) (op:Op) (vals:LA):List Nat:=cond (A2b op) (cond (A2c op) (uM (Jb vals) []) (DS (Au h) (Jb vals))) []
def VK (d b:Nat):Bool:=Nat.ble (nid d) b&&Nat.blt b (nid d+16)
def iC (d:Nat) (F:List Nat) (h:Am):H8→Bool
 | []=>true
 | (b,_)::r=>cond (VK d b) (Au h b).isNone (J8 F b&&(Au h b).isSome)&&iC d F h r
def Atf {R:Type} (E:Env) (ops:Array Oper) (o:Oper) (st:St) (k:St→Foot→O R):O R :=
 (RS ops st.s o).bind fun wanted=>cond wanted (
  Aiq E (fun b=>cond (J8 (Zo st.h o.op (o.op.operands.toList.map (ev st.s))) b) (Au st.h b) none) (o.dst.getD 50000) (ev st.s) o.op fun v ups =>
  cond (iC (o.dst.getD 50000) (Zo st.h o.op (o.op.operands.toList.map (ev st.s))) st.h ups)
   (k { s:=Ax8 E.nt st.s o.dst v,h:=As ups st.h } { r:=(match fX ops o with | some p=>[p.1] | none=>[])++ko o.op.operands.toList,w:=o.dst,f:=Zo st.h o.op (o.op.operands.toList.map (ev st.s)),u:=ups.map (·.1) }) none)
  (k { st with s:=Ax8 E.nt st.s o.dst (.tup []) } { r:=(match fX ops o with | some p=>[p.1] | none=>[]),w:=o.dst,f:=[],u:=[] })
def rf {R:Type} (ops:Array Oper) (o:Oper) (st:St) (k:St→O R):O R :=
 match o.guard with
 | none=>k st
 | some (j,want)=>match (ops[j]?).bind (·.dst) with
  | none=>k st
  | some t=>match Gv st.s t with
   | .bool b=>cond (b==want) (k { s:=kg st.s t (.bool want),h:=st.h }) (k { s:=kg st.s t (.bool (!want)),h:=st.h })
   | _=>k st
def zy {R:Type} (E:Env) (ops:Array Oper):List Oper→St→List Foot→(St→List Foot→O R)→O R
 | [],st,tr,k=>k st tr
 | o::r,st,tr,k=>rf ops o st fun st=>Atf E ops o st fun st f=>zy E ops r st (f::tr) k
def Bd6:Option Nat→List Nat→Bool
 | none,_=>false
 | some d,l=>J8 l d
def uN (a b:Foot):Bool :=
 !Bd6 a.w b.r&&!Bd6 b.w a.r&&(match a.w,b.w with | some x,some y=>!Nat.beq x y | _,_=>true)&&Ate a.u (b.f++b.u)&&Ate b.u a.f
def aG (e:Edge):Bool:=match e.ground with | .textOnly _=>false | .gcOnly _=>false | _=>true
def RT (o:Oper):List Nat:=(o.after.toList.filter aG).map (·.on)
def Apd {α:Type}:List Nat→(List Nat→α)→α
 | [],k=>k []
 | i::r,k=>Apd r fun s=>k (i::s)
theorem MV {α:Type}:∀ (l:List Nat) (k:List Nat→α),Apd l k=k l
 | [],_=>rfl
 | i::r,k=>by rw[Apd,MV r]
def Hb:List Oper→List (List Nat)→List (List Nat)
 | [],acc=>acc
 | o::r,acc=>Apd (uM (RT o++((RT o).flatMap fun i=>(acc[i]?).getD [])) []) fun a=>Hb r (acc++[a])
def CZ:Nat→List Oper→Bool
 | _,[]=>true
 | i,o::r=>(o.after.toList.all fun e=>!aG e||Nat.blt e.on i)&&CZ (i+1) r
def mt (f:Foot) (anc:List Nat):Nat→List Foot→Bool
 | _,[]=>true
 | i,g::r=>(J8 anc i||uN g f)&&mt f anc (i+1) r
def fY:List Foot→List (List Nat)→List Foot→Bool
 | [],_,_=>true
 | f::r,a::az9,seen=>mt f a 0 seen&&fY r az9 (seen++[f])
 | _::_,[],_=>false
def Ml (b:Nat):Nat:=cond (Nat.ble H3 b) (b - H3) b
mutual
def DT (g:B5):AV→AV
 | .own b off n=>match Kt g b with | some _=>.own (Ml b) off n | none=>.undef
 | .optr b off=>match Kt g b with | some _=>.optr (Ml b) off | none=>.undef
 | .omap b=>match Kt g b with | some _=>.omap (Ml b) | none=>.undef
 | .agg c=>.agg (Le g c)
 | .tup c=>.tup (Le g c)
 | .fn f c=>.fn f (Le g c)
 | v=>v
def Le (g:B5):List AV→List AV
 | []=>[]
 | v::r=>DT g v::Le g r
end
def rg (g:B5) (K:List Nat):Hl→Hl
 | []=>[]
 | (t,v)::r=>cond (J8 K t) ((t,DT g v)::rg g K r) (rg g K r)
def Aaa (K:List Nat):Hl→List Nat
 | []=>[]
 | (t,v)::r=>cond (J8 K t) (Hm v++Aaa K r) (Aaa K r)
def DU (g:B5):List Nat→Am
 | []=>[]
 | b::r=>match Kt g b with
  | some x=>G2 (DU g r) (Ml b) { x with cells:=cond x.pure x.cells (Le g x.cells) }
  | none=>DU g r
def HK (g:B5) (ids:List Nat):List Nat:=ids.filter fun b=>match Kt g b with | some _=>true | none=>false
def Aab (g:B5) (ids:List Nat):List Nat→Bool
 | []=>true
 | b::r=>(J8 ids b||(Kt g b).isNone)&&Aab g ids r
def A2d:List Nat→Bool
 | []=>true
 | b::r=>cond (Nat.ble H3 b) (Nat.blt (Ml b) 100000) true&&A2d r
def clean (K roots:List Nat) (st:St):Option St :=
 let g:=Au st.h
 let ids:=HK g (DS g (Aaa K st.s++roots))
 cond (aE (ids.map Ml)&&(Aab g ids (Aaa K st.s)&&(Aab g ids (Mk g ids)&&A2d ids))) (some { s:=rg g K st.s,h:=DU g ids }) none
def fZ {R:Type} (E:Env) (roots:List Nat) (ops:Array Oper) (draw:Bool) (st:St) (k:St→O R):O R :=
 zy E ops ops.toList st [] fun st tr =>
  cond (!draw||(CZ 0 ops.toList&&fY tr.reverse (Hb ops.toList []) [])) ((clean (st.s.map (·.1)) roots st).bind k) none
def Aac (b:Nat):Bool:=Nat.ble 100000 b&&Nat.blt b 200000
def RU (live:List Nat):List (Nat×Nat)→St→Option St
 | [],st=>some st
 | (t,sz)::r,st=>cond (Nat.ble 1000000 sz)
  (match J8 live t,Gv st.s t with
  | true,.nsl=>RU live r { s:=kg st.s t (.imm [] 0 (sz - 1000000) false false),h:=st.h }
  | true,.own b off n=>(iB (Au st.h) (.own b off n)).bind fun q=>RU live r { s:=kg st.s t q.1,h:=As q.2.1 st.h }
  | _,_=>RU live r st)
  (match J8 live t,Gv st.s t with
  | true,.nsl=>cond (Au st.h (nid t+15)).isSome none (RU live r { s:=kg st.s t (.own (nid t+15) 0 0),h:=G2 st.h (nid t+15) (Gw sz) })
  | _,_=>RU live r st)
def MW (free:List Nat) (b:Nat):Bool:=Aac b&&!J8 free b
def A7b (free ids:List Nat):List (Nat×Nat):=A6 300000 (ids.filter fun b=>!MW free b)
def DV (free ids:List Nat) (b:Nat):Nat:=cond (MW free b) b (Ju 0 (A7b free ids) b)
def A7c (ρ:Nat→Nat) (K:List Nat):Hl→Hl
 | []=>[]
 | (t,v)::r=>cond (J8 K t) ((t,gU ρ v)::A7c ρ K r) (A7c ρ K r)
def mu (E:Env) (live roots:List Nat) (st:St):Option St :=
 (RU live E.nils st).bind fun st =>
 let g:=Au st.h
 let ids:=HK g (DS g (Aaa live st.s++roots))
 cond (aE (ids.map (DV E.free ids))&&(VJ ids (Aaa live st.s)&&(VJ ids (Mk g ids)&&Nat.ble ids.length 100000))) (some { s:=A7c (DV E.free ids) live st.s,h:=sub g (DV E.free ids) ids }) none
inductive Hint where
 | leaf
 | node (live:List Nat) (a b:Hint)
 | join (live:List Nat) (a b:Hint)
def Hint.live:Hint→List Nat
 | .leaf=>[]
 | .node l _ _=>l
 | .join l _ _=>l
def Hint.a:Hint→Hint
 | .leaf=>.leaf
 | .node _ a _=>a
 | .join _ a _=>a
def Hint.b:Hint→Hint
 | .leaf=>.leaf
 | .node _ _ b=>b
 | .join _ _ b=>b
def Hint.isJoin:Hint→Bool
 | .join _ _ _=>true
 | _=>false
noncomputable def Ah {α:Type} (a:α):{ x:α // x=a }:=Classical.choice ⟨⟨a,rfl⟩⟩
noncomputable def A7d {R:Type} (j:Bool) (f:St→O R):St→O R:=cond j (Ah f).1 f
theorem HL {R:Type} (j:Bool) (f:St→O R):A7d j f=f:=by cases j;rfl;exact(Ah f).2
noncomputable def A3z {R:Type} (E:Env) (roots:List Nat) (H:Hint) (f:St→O R) (st:St):O R:=cond H.isJoin ((mu E H.live roots st).bind (A7d true f)) (f st)
def aH {R:Type} (cn:St→Option St) (body:(St→O R)→St→O R):Nat→St→O R
 | 0,_=>none
 | n+1,st=>body (fun st=>(cn st).bind (aH cn body n)) st
noncomputable def Gy {R:Type} (E:Env) (roots:List Nat) (N:Nat):Code→Hint→(St→O R)→(Nat→St→O R)→(St→O R)→St→O R
 | .skip,_,k,_,_,st=>k st
 | .region _ ops draw,_,k,_,_,st=>fZ E roots ops draw st k
 | .seq a b,H,k,x,r,st=>Gy E roots N a H.a (A3z E roots H fun st=>Gy E roots N b H.b k x r st) x r st
 | .cond c a b,H,k,x,r,st=>match ev st.s c with
  | .bool t=>cond t (Gy E roots N a H.a k x r st) (Gy E roots N b H.b k x r st)
  | _=>none
 | .block id c,H,k,x,r,st=>Gy E roots N c H.a k (fun j st=>cond (Nat.beq j id) (k st) (x j st)) r st
 | .loop c,H,_,x,r,st=>(mu E H.live roots st).bind (A7d true (aH (mu E H.live roots) (fun k st=>Gy E roots N c H.a k x r st) N))
 | .exit id,_,_,x,_,st=>x id st
 | .ret,_,_,_,r,st=>r st
 | _,_,_,_,_,_=>none
def Pi {R:Type} (E:Env) (st:St):List ResultVar→LA→(LA→O R)→O R
 | [],acc,k=>k acc.reverse
 | .tmp t::r,acc,k=>Pi E st r (Gv st.s t::acc) k
 | .cell a t::r,acc,k=>zt E.P (Au st.h) t (Gv st.s a) fun v=>Pi E st r (v::acc) k
def Bb2 (g:B5) (i:Nat) (m:Nat×Nat) (v:AV):Option (AV×H8) :=
 cond (Nat.beq m.1 0) (some (v,[]))
 (cond (Nat.beq m.1 1) (match v with
  | .nsl=>some (.imm [] 0 m.2 false false,[])
  | .imm c n sz _ o=>some (.imm c n sz false o,[])
  | .own b off n=>(iB g (.own b off n)).bind fun q=>some (q.1,q.2.1)
  | _=>none)
 (cond (Nat.beq m.1 2) (match v with
  | .nsl=>cond (g (nid 90000+i)).isSome none (some (.own (nid 90000+i) 0 0,[(nid 90000+i,some (Gw m.2))]))
  | v=>some (v,[]))
 (match v with
  | .agg c=>(DQ g c).bind fun q=>some (.pagg q.1 q.2.2,q.2.1)
  | .pagg c o=>some (.pagg c o,[])
  | _=>none)))
def Atg (h:Am):Nat→List (Nat×Nat)→LA→Option (LA×Am)
 | _,_,[]=>some ([],h)
 | i,ms,v::r=>(Bb2 (Au h) i (ms.headD (0,0)) v).bind fun p=>(Atg (As p.2 h) (i+1) ms.tail r).bind fun q=>some (p.1::q.1,q.2)
def Bb3 (l:LA):AV:=match l with | [v]=>v | l=>.tup l
def BS {R:Type} (E:Env) (fn:Func) (modes:List (Nat×Nat)) (outs:List Nat) (k:AV→Am→O R) (st:St):O R :=
 Pi E st fn.results.toList [] fun l =>
 (Atg st.h 0 modes l).bind fun q =>
 let v:=Bb3 q.1
 let g:=Au q.2
 let ids:=HK g (DS g (Hm v++outs))
 cond (aE (ids.map (DV E.free ids))&&(VJ ids (Hm v)&&(VJ ids (Mk g ids)&&Nat.ble ids.length 100000))) (k (gU (DV E.free ids) v) (sub g (DV E.free ids) ids)) none
def Alw:Nat→LA→Hl
 | _,[]=>[]
 | i,v::r=>(i,v)::Alw (i+1) r
structure Hints where
 H:Hint
 nils:List (Nat×Nat):=[]
 modes:List (Nat×Nat):=[]
 free:List Nat:=[]
 cob:List Nat:=[]
def zi:Am→Bool
 | []=>true
 | (b,_)::r=>Aac b&&zi r
noncomputable def VL {R:Type} (P:Program) (muts:Nat→List Bool) (T:List (Nat×Tw)) (hs:Hints) (N f:Nat) (args:LA) (h:Am) (k:AV→Am→O R):O R :=
 match P.funcs[f]? with
 | none=>none
 | some fn=>match fn.body with
  | none=>none
  | some c =>
   let E:Env:={ P,nt:=fn.ntmps,muts,nils:=hs.nils,free:=hs.free,cob:=hs.cob,tbl:=T }
   let outs:=h.map (·.1)
   let fin:=BS E fn hs.modes outs k
   cond (Nat.ble args.length fn.ntmps&&zi h) (Gy E outs N c hs.H fin (fun _ _=>none) fin { s:=Alw 0 args,h }) none
end Gx

namespace Gx
open Go
mutual
def RepC (J:Nat→Prop) (w:World):AV→Value→Prop
 | .int k n,v=>v=.int k n
 | .bool b,v=>v=.bool b
 | .str s,v=>v=.string ⟨⟨s⟩⟩
 | .nsl,v=>v=.slice none 0 0
 | .imm c len sz tight _,v=>c.length=len*sz∧∃ A cap,v=.slice A len cap∧len≤cap∧(tight=true→cap=len) ∧
   (len=0∨∃ a,A=some a∧J a.block∧RepCs J w c (fun j=>w.cell? (a.add j)) 0)
 | .iptr c _,v=>∃ a,v=.pointer (some a)∧J a.block∧RepCs J w c (fun j=>w.cell? (a.add j)) 0
 | .nilptr,v=>v=.pointer none
 | .nilfn,v=>v=.nilFunc
 | .fn f [],v=>v=.func (.func (f%1000000)) #[] #[]
 | _,_=>False
def RepCs (J:Nat→Prop) (w:World):List AV→(Nat→Option Value)→Nat→Prop
 | [],_,_=>True
 | x::r,rd,i=>(∃ u,rd i=some u∧RepC J w x u)∧RepCs J w r rd (i+1)
end
theorem Dl {J:Nat→Prop} {w:World}:∀ {c:LA} {rd:Nat→Option Value} {i:Nat},
  RepCs J w c rd i↔∀ j x,c[j]?=some x→∃ u,rd (i+j)=some u∧RepC J w x u:=by
 intro c
 induction c with
 | nil=>intro rd i;simp[RepCs]
 | cons x r C =>
  intro rd i
  rw[RepCs,C]
  constructor
  ·rintro⟨D,F⟩ j y k
   cases j with
   | zero=>simp at k;subst k;simpa using D
   | succ j=>have:=F j y (by simpa using k);rwa [show i+1+j=i+(j+1) by omega] at this
  ·intro h
   refine⟨by simpa using h 0 x (by simp),fun j y k=>?_⟩
   have:=h (j+1) y (by simpa using k)
   rwa [show i+(j+1)=i+1+j by omega] at this
def A2e (J:Nat→Prop) (w w':World):Prop:=∀ k,J k→w'.heap[k]?=w.heap[k]?
theorem Alx {J:Nat→Prop} {w w':World} (h:A2e J w w') {a:Addr} (k:J a.block):w'.cell? a=w.cell? a:=by
 unfold World.cell?;rw[h a.block k]
theorem Wa (a:Addr) (n:Nat):(a.add n).block=a.block:=by unfold Addr.add;split<;>rfl
mutual
theorem RepC.keep {J J':Nat→Prop} {w w':World} (hJ:∀ k,J k→J' k) (hk:A2e J w w'):∀ {x:AV} {v:Value},RepC J w x v→RepC J' w' x v
 | .int ..,_,h=>h
 | .bool _,_,h=>h
 | .str _,_,h=>h
 | .nsl,_,h=>h
 | .imm c _ _ _ _,_,h=>by
  rw[RepC] at h ⊢
  obtain⟨h1,A,cap,h2,h3,h4,h5⟩:=h
  refine⟨h1,A,cap,h2,h3,h4,?_⟩
  rcases h5 with h5 | ⟨a,ha,hj,hc⟩
  ·exact .inl h5
  ·refine .inr ⟨a,ha,hJ _ hj,RepCs.keep hJ hk (c:=c) (fun j=>?_) hc⟩
   exact Alx hk (by rw[Wa];exact hj)
 | .iptr c _,_,h=>by
  rw[RepC] at h ⊢
  obtain⟨a,ha,hj,hc⟩:=h
  exact⟨a,ha,hJ _ hj,RepCs.keep hJ hk (c:=c) (fun j=>Alx hk (by rw[Wa];exact hj)) hc⟩
 | .nilptr,_,h=>h
 | .nilfn,_,h=>h
 | .fn _ [],_,h=>h
 | .fn _ (_::_),_,h=>by simp[RepC] at h
 | .pagg ..,_,h=>by simp[RepC] at h
 | .agg _,_,h=>by simp[RepC] at h
 | .tup _,_,h=>by simp[RepC] at h
 | .own ..,_,h=>by simp[RepC] at h
 | .optr ..,_,h=>by simp[RepC] at h
 | .undef,_,h=>by simp[RepC] at h
 | .omap _,_,h=>by simp[RepC] at h
theorem RepCs.keep {J J':Nat→Prop} {w w':World} (hJ:∀ k,J k→J' k) (hk:A2e J w w'):∀ {c:List AV} {rd rd':Nat→Option Value} {i:Nat},(∀ j,rd' j=rd j)→RepCs J w c rd i→RepCs J' w' c rd' i
 | [],_,_,_,_,_=>trivial
 | x::r,rd,rd',i,he,h=>by
  rw[RepCs] at h ⊢
  obtain⟨⟨u,hu,hx⟩,hr⟩:=h
  exact⟨⟨u,by rw[he];exact hu,RepC.keep hJ hk (x:=x) hx⟩,RepCs.keep hJ hk (c:=r) he hr⟩
end
abbrev C1:=Nat→Option (Nat×Nat)
def Bs (w:World) (k:Nat):Nat:=match w.heap[k]? with | some (.cells cs _ _)=>cs.size | _=>0
mutual
def Rep (J:Bool→Nat→Prop) (β:C1) (h:Am) (w:World):AV→Value→Prop
 | .own b off n,v=>∃ x A cap,(Au h b=some x∧x.mp=false)∧v=.slice A n cap∧n≤cap∧(cap=0∨∃ k o,A=some ⟨k,o+off,none⟩ ∧
   (x.dead=true∨(β b=some (k,o)∧o+off+cap*x.sz≤Bs w k∧off+n*x.sz≤x.cells.length)))
 | .omap b,v=>∃ x k,(Au h b=some x∧x.mp=true)∧v=.map (some k)∧(x.dead=true∨β b=some (k,0))
 | .optr b off,v=>∃ x k o,(Au h b=some x∧x.mp=false)∧v=.pointer (some ⟨k,o+off,none⟩)∧(x.dead=true∨β b=some (k,o))
 | .pagg c org,v=>∃ cs,v=.agg ⟨cs⟩∧cs.length=c.length∧RepCs (J org) w c (fun j=>cs[j]?) 0
 | .agg c,v=>∃ cs,v=.agg ⟨cs⟩∧Reps J β h w c cs
 | .tup c,v=>∃ cs,v=.tuple ⟨cs⟩∧Reps J β h w c cs
 | .fn f c,v=>∃ cs:List Value,v=.func (.func (f%1000000)) ⟨cs.take (f/1000000)⟩ ⟨cs.drop (f/1000000)⟩∧Reps J β h w c cs
 | .undef,_=>True
 | .imm c n sz t org,v=>RepC (J org) w (.imm c n sz t org) v
 | .iptr c org,v=>RepC (J org) w (.iptr c org) v
 | .int k n,v=>v=.int k n
 | .bool b,v=>v=.bool b
 | .str s,v=>v=.string ⟨⟨s⟩⟩
 | .nsl,v=>v=.slice none 0 0
 | .nilptr,v=>v=.pointer none
 | .nilfn,v=>v=.nilFunc
def Reps (J:Bool→Nat→Prop) (β:C1) (h:Am) (w:World):List AV→List Value→Prop
 | [],cs=>cs=[]
 | x::r,cs=>∃ u us,cs=u::us∧Rep J β h w x u∧Reps J β h w r us
end
structure Ext (J:Bool→Nat→Prop) (β:C1) (h:Am) (w:World) (J':Bool→Nat→Prop) (β':C1) (h':Am) (w':World):Prop where
 jsub:∀ o k,J o k→J' o k
 keep:∀ o,A2e (J o) w w'
 blk:∀ b x,Au h b=some x→∃ x',(Au h' b=some x'∧x'.mp=x.mp)∧(x'.dead=true∨(x.dead=false∧β' b=β b∧x'.sz=x.sz∧(x.mp=false→x'.cells.length=x.cells.length)))
 size:∀ b k o,β b=some (k,o)→Bs w k≤Bs w' k
mutual
theorem Rep.ext {J J':Bool→Nat→Prop} {β β':C1} {h h':Am} {w w':World} (E:Ext J β h w J' β' h' w'):∀ {x:AV} {v:Value},Rep J β h w x v→Rep J' β' h' w' x v
 | .own b off n,v,hr=>by
  rw[Rep] at hr ⊢
  obtain⟨x,A,cap,⟨hx,hm⟩,h1,h2,hr⟩:=hr
  obtain⟨x',⟨hx',hm'⟩,hd⟩:=E.blk b x hx
  refine⟨x',A,cap,⟨hx',by rw[hm',hm]⟩,h1,h2,?_⟩
  rcases hr with hr | ⟨k,o,h3,hr⟩
  ·exact .inl hr
  ·refine .inr ⟨k,o,h3,?_⟩
   rcases hd with hd | ⟨hd,hβ,hs,hl⟩
   ·exact .inl hd
   ·rcases hr with hr | ⟨h4,h5,h6⟩
    ·simp[hd] at hr
    ·exact .inr ⟨by rw[hβ];exact h4,by rw[hs];exact Nat.le_trans h5 (E.size b k o h4),by rw[hs,hl hm];exact h6⟩
 | .optr b off,v,hr=>by
  rw[Rep] at hr ⊢
  obtain⟨x,k,o,⟨hx,hm⟩,h1,hr⟩:=hr
  obtain⟨x',⟨hx',hm'⟩,hd⟩:=E.blk b x hx
  refine⟨x',k,o,⟨hx',by rw[hm',hm]⟩,h1,?_⟩
  rcases hd with hd | ⟨hd,hβ,hs,hl⟩
  ·exact .inl hd
  ·rcases hr with hr | hr
   ·simp[hd] at hr
   ·exact .inr (by rw[hβ];exact hr)
 | .omap b,v,hr=>by
  rw[Rep] at hr ⊢
  obtain⟨x,k,⟨hx,hm⟩,h1,hr⟩:=hr
  obtain⟨x',⟨hx',hm'⟩,hd⟩:=E.blk b x hx
  refine⟨x',k,⟨hx',by rw[hm',hm]⟩,h1,?_⟩
  rcases hd with hd | ⟨hd,hβ,hs,hl⟩
  ·exact .inl hd
  ·rcases hr with hr | hr
   ·simp[hd] at hr
   ·exact .inr (by rw[hβ];exact hr)
 | .pagg c org,v,hr=>by
  rw[Rep] at hr ⊢
  obtain⟨cs,h1,h2,h3⟩:=hr
  exact⟨cs,h1,h2,RepCs.keep (E.jsub org) (E.keep org) (fun _=>rfl) h3⟩
 | .agg c,v,hr=>by
  rw[Rep] at hr ⊢
  obtain⟨cs,h1,h2⟩:=hr
  exact⟨cs,h1,Reps.ext E (c:=c) h2⟩
 | .tup c,v,hr=>by
  rw[Rep] at hr ⊢
  obtain⟨cs,h1,h2⟩:=hr
  exact⟨cs,h1,Reps.ext E (c:=c) h2⟩
 | .fn f c,v,hr=>by
  rw[Rep] at hr ⊢
  obtain⟨cs,h1,h2⟩:=hr
  exact⟨cs,h1,Reps.ext E (c:=c) h2⟩
 | .undef,_,_=>by rw[Rep];trivial
 | .imm c n sz t org,v,hr=>by rw[Rep] at hr ⊢;exact RepC.keep (E.jsub org) (E.keep org) hr
 | .iptr c org,v,hr=>by rw[Rep] at hr ⊢;exact RepC.keep (E.jsub org) (E.keep org) hr
 | .int ..,_,hr=>hr
 | .bool _,_,hr=>hr
 | .str _,_,hr=>hr
 | .nsl,_,hr=>hr
 | .nilptr,_,hr=>hr
 | .nilfn,_,hr=>hr
theorem Reps.ext {J J':Bool→Nat→Prop} {β β':C1} {h h':Am} {w w':World} (E:Ext J β h w J' β' h' w'):∀ {c:List AV} {cs:List Value},Reps J β h w c cs→Reps J' β' h' w' c cs
 | [],_,hr=>hr
 | x::r,cs,hr=>by
  rw[Reps] at hr ⊢
  obtain⟨u,us,h1,h2,h3⟩:=hr
  exact⟨u,us,h1,Rep.ext E (x:=x) h2,Reps.ext E (c:=r) h3⟩
end
end Gx

namespace Gx
open Go
def CellsRep (J:Bool→Nat→Prop) (β:C1) (h:Am) (w:World) (x:Blk) (rd:Nat→Option Value):Prop :=
 (x.pure=true→RepCs (J x.taint) w x.cells rd 0) ∧
 (x.pure=false→∀ j c,x.cells[j]?=some c→∃ u,rd j=some u∧Rep J β h w c u∧u.oneCell'=true)
def FrOk (n:Nat) (fr:Nat×Nat):Prop:=fr.1=fr.2∨n≤fr.1
theorem FrOk.at {n:Nat} {fr:Nat×Nat} (h:FrOk n fr) (j:Nat) (k:j<n):¬ (fr.1≤j∧j<fr.2):=by rcases h with h | h<;>omega
def Bb4 (J:Bool→Nat→Prop) (β:C1) (h:Am) (w:World) (b:Nat) (x:Blk):Prop :=
 (β b=none∧x.cells=[])∨∃ k o cs ty fr,β b=some (k,o)∧w.heap[k]?=some (.cells cs ty fr) ∧
  FrOk cs.size fr∧o+x.cells.length≤cs.size∧CellsRep J β h w x (fun j=>cs[o+j]?) ∧
  (x.sealed=false→∀ g,¬ J g k)∧(x.sealed=true→J x.taint k)
def A9t (c:LA) (es:Array MapEntry):Prop:=∃ l:List Int,c=l.map (fun n=>.int .i64 n)∧es.toList.map (fun e=>(e.key,e.val))=l.map (fun n=>(.int .i64 n,.bool true))
def MapRep (J:Bool→Nat→Prop) (β:C1) (w:World) (b:Nat) (x:Blk):Prop :=
 x.pure=true∧x.sealed=false∧∃ k es clk,β b=some (k,0)∧w.heap[k]?=some (.map es clk)∧A9t x.cells es∧∀ g,¬ J g k
structure SimH (J:Bool→Nat→Prop) (β:C1) (h:Am) (w:World):Prop where
 jlt:∀ o k,J o k→k<w.heap.size
 jft:∀ k,J false k→J true k
 blk:∀ b x,Au h b=some x→x.dead=false→x.mp=false→Bb4 J β h w b x
 mblk:∀ b x,Au h b=some x→x.dead=false→x.mp=true→MapRep J β w b x
 sep:∀ b b' x x' k o o',Au h b=some x→Au h b'=some x'→x.dead=false→x'.dead=false→x.sealed=false→β b=some (k,o)→β b'=some (k,o')→b=b'
mutual
theorem f4 {J:Bool→Nat→Prop} {β:C1} {h:Am} {w:World}:∀ v:Value,Rep J β h w (uH v) v
 | .int ..=>by simp[uH,Rep]
 | .bool _=>by simp[uH,Rep]
 | .string ⟨⟨s⟩⟩=>by simp[uH,Rep]
 | .slice none 0 0=>by simp[uH,Rep]
 | .slice none 0 (_+1)=>by simp[uH,Rep]
 | .slice none (_+1) _=>by simp[uH,Rep]
 | .slice (some _) _ _=>by simp[uH,Rep]
 | .pointer none=>by simp[uH,Rep]
 | .pointer (some _)=>by simp[uH,Rep]
 | .nilFunc=>by simp[uH,Rep]
 | .agg ⟨cs⟩=>by rw[uH,Rep];exact⟨cs,rfl,f5 cs⟩
 | .float ..=>by simp[uH,Rep]
 | .complex ..=>by simp[uH,Rep]
 | .map _=>by simp[uH,Rep]
 | .chan _=>by simp[uH,Rep]
 | .func ..=>by simp[uH,Rep]
 | .iface ..=>by simp[uH,Rep]
 | .nilIface=>by simp[uH,Rep]
 | .tuple _=>by simp[uH,Rep]
theorem f5 {J:Bool→Nat→Prop} {β:C1} {h:Am} {w:World}:∀ cs:List Value,Reps J β h w (T1 cs) cs
 | []=>by simp[T1,Reps]
 | v::r=>by rw[T1,Reps];exact⟨v,r,rfl,f4 v,f5 r⟩
end
structure SimS (J:Bool→Nat→Prop) (β:C1) (h:Am) (w:World) (s:Hl) (t:Array Value):Prop where
 slot:∀ i v,t[i]?=some v→Rep J β h w (Gv s i) v
 out:∀ i,t.size≤i→Gv s i=.undef
theorem Bn {J:Bool→Nat→Prop} {β:C1} {h:Am} {w:World} {s:Hl} {a:Act} (H:SimS J β h w s a.tmps) (x:Operand):Rep J β h w (ev s x) (a.eval x):=by
 cases x with
 | tmp t =>
  rw[ev,Act.eval,Array.getD_eq_getD_getElem?]
  cases k:a.tmps[t]? with
  | some v=>exact H.slot t v k
  | none =>
   have:a.tmps.size≤t:=by simpa using k
   rw[H.out t this];simp[Rep]
 | const v=>exact f4 v
 | global g=>simp[ev,Rep]
 | func f =>
  rw[ev]
  cases C:Nat.blt f 1000000 with
  | false=>simp[Rep]
  | true =>
   have:f<1000000:=by simpa using C
   simp[Rep,Act.eval,Reps,Nat.mod_eq_of_lt this]
section
variable {R:Type} {r:R} {P:Program} {J:Bool→Nat→Prop} {β:C1} {h:Am} {w:World}
theorem Ape {t:TypeId} {op:BinOp} {k:IntKind} {a b:Int} {v:AV} (C:rY op k a b=some v) :
  ∃ vc,(binOp op t (.int k a) (.int k b)).run P w=.ok vc w∧Rep J β h w v vc:=by
 cases op<;>simp[rY] at C<;>subst C<;>simp[binOp,Op.intArith,Op.intBits,Op.intCmp,Rep]
theorem Ax9 {op:BinOp} {t:TypeId} {x y:AV} {k:AV→O R} {vx vy:Value} (C:A3u P t op x y k=some r) (M:Rep J β h w x vx) (S:Rep J β h w y vy) (ox oy:Operand) :
  ∃ v vc,k v=some r∧(do eqGuard op t ox oy vx vy;binOp op t vx vy:Sem Value).run P w=.ok vc w∧Rep J β h w v vc:=by
 unfold A3u at C
 split at C
 ·rename_i I a k2 b
  rw[Rep] at M S;subst M S
  have F:(eqGuard op t ox oy (.int I a) (.int k2 b)).run P w=.ok () w:=by
   unfold eqGuard;cases op<;>simp
  split at C
  ·cases D:decide (b<0)<;>rw[D] at C<;>simp at C D
   refine⟨_,_,C,?_,by rw[Rep]⟩
   simp[F,binOp,Op.shift];intro V;omega
  ·cases D:decide (b<0)<;>rw[D] at C<;>simp at C D
   refine⟨_,_,C,?_,by rw[Rep]⟩
   simp[F,binOp,Op.shift];intro V;omega
  ·cases L:T2 I k2<;>rw[L] at C<;>simp at C
   have G:I=k2:=by simpa[T2] using L
   subst G
   cases D:(b==0)<;>rw[D] at C<;>simp at C D
   refine⟨_,_,C,?_,by rw[Rep]⟩
   simp[F,binOp,Op.intDiv,D]
  ·cases L:T2 I k2<;>rw[L] at C<;>simp at C
   have G:I=k2:=by simpa[T2] using L
   subst G
   cases D:(b==0)<;>rw[D] at C<;>simp at C D
   refine⟨_,_,C,?_,by rw[Rep]⟩
   simp[F,binOp,Op.intDiv,D]
  ·cases L:T2 I k2<;>rw[L] at C<;>simp at C
   have G:I=k2:=by simpa[T2] using L
   subst G
   cases hi:rY op I a b with
   | none=>rw[hi] at C;simp at C
   | some v =>
    rw[hi] at C
    obtain⟨vc,Y,h2⟩:=Ape (P:=P) (J:=J) (β:=β) (h:=h) (w:=w) (t:=t) hi
    exact⟨v,vc,by simpa using C,by simp[F,Y],h2⟩
 ·rename_i a b
  rw[Rep] at M S;subst M S
  split at C
  ·cases D:fV P t<;>rw[D] at C<;>simp at C
   have T:P.underlying t=some .bool:=by unfold fV at D;split at D<;>simp_all
   refine⟨_,_,C,?_,by rw[Rep]⟩
   have U:(Op.equal t (.bool a) (.bool b)).run P w=.ok (a==b) w:=by
    have:∀ d,(Op.equalIn (d+1) t (.bool a) (.bool b)).run P w=.ok (a==b) w:=fun d=>by
     unfold Op.equalIn;simp only[Sem.run_bind,run_underlying T,Result.andThen_ok,Sem.run_pure]
    exact this 9999
   have F:∀ op,(eqGuard op t ox oy (.bool a) (.bool b)).run P w=.ok () w:=fun op=>by unfold eqGuard;cases op<;>simp
   simp only[Sem.run_bind,F,Result.andThen_ok,binOp,U,Sem.run_pure]
  ·cases D:fV P t<;>rw[D] at C<;>simp at C
   have T:P.underlying t=some .bool:=by unfold fV at D;split at D<;>simp_all
   refine⟨_,_,C,?_,by rw[Rep]⟩
   have U:(Op.equal t (.bool a) (.bool b)).run P w=.ok (a==b) w:=by
    have:∀ d,(Op.equalIn (d+1) t (.bool a) (.bool b)).run P w=.ok (a==b) w:=fun d=>by
     unfold Op.equalIn;simp only[Sem.run_bind,run_underlying T,Result.andThen_ok,Sem.run_pure]
    exact this 9999
   have F:∀ op,(eqGuard op t ox oy (.bool a) (.bool b)).run P w=.ok () w:=fun op=>by unfold eqGuard;cases op<;>simp
   simp only[Sem.run_bind,F,Result.andThen_ok,binOp,U,Sem.run_pure]
  ·simp at C
 ·rename_i a b
  rw[Rep] at M S;subst M S
  have ea:(⟨⟨a⟩⟩:ByteArray).toList=a:=by simp[ByteArray.toList_eq]
  have eb:(⟨⟨b⟩⟩:ByteArray).toList=b:=by simp[ByteArray.toList_eq]
  have F:∀ op,(eqGuard op t ox oy (.string ⟨⟨a⟩⟩) (.string ⟨⟨b⟩⟩)).run P w=.ok () w:=fun op=>by unfold eqGuard;cases op<;>simp
  split at C
  ·cases D:Nat.ble (a.length+b.length) 140737488355328<;>rw[D] at C<;>simp at C D
   refine⟨_,_,C,?_,by rw[Rep]⟩
   have hl:¬ (((⟨⟨a⟩⟩:ByteArray).size+(⟨⟨b⟩⟩:ByteArray).size:Nat):Int)>IntKind.i64.max:=by
    show ¬ ((a.length+b.length:Nat):Int)>9223372036854775807
    omega
   have ec:(⟨⟨a⟩⟩:ByteArray)++⟨⟨b⟩⟩=⟨⟨a++b⟩⟩:=by
    apply ByteArray.ext;simp[ByteArray.data_append]
   simp only[Sem.run_bind,F,Result.andThen_ok,binOp,Op.stringOp,if_neg hl,Sem.run_pure,ec]
  all_goals first
   | (refine⟨_,_,C,?_,by rw[Rep]⟩;simp only[Sem.run_bind,F,Result.andThen_ok,binOp,Op.stringOp,Sem.run_pure,ea,eb];done)
   | simp at C
 ·simp at C
end
end Gx

namespace Gx
open Go
section
variable {R:Type} {r:R} {P:Program} {J:Bool→Nat→Prop} {β:C1} {h:Am} {w:World}
theorem ub {α:Type} {o:Option α} {f:α→O R} (k:o.bind f=some r):∃ x,o=some x∧f x=some r:=by
 cases o with
 | none=>simp at k
 | some x=>exact⟨x,rfl,by simpa using k⟩
theorem uc {b:Bool} {x:O R} (k:cond b x none=some r):b=true∧x=some r:=by
 cases b<;>simp at k;exact⟨rfl,k⟩
theorem A2f {b:Bool} {x:O R} (k:cond b none x=some r):b=false∧x=some r:=by
 cases b<;>simp at k;exact⟨rfl,k⟩
theorem A30 {op:UnOp} {x v:AV} {vx:Value} (C:Beg op x=some v) (F:Rep J β h w x vx) :
  ∃ vc,(Op.unary op vx).run P w=.ok vc w∧Rep J β h w v vc:=by
 unfold Beg at C
 split at C
 ·rename_i k n
  rw[Rep] at F;subst F;simp at C;subst C
  refine⟨.int k (k.wrap (-n)),by simp[Op.unary,Op.intArith],?_⟩
  rw[Rep]
 ·rename_i k n
  rw[Rep] at F;subst F
  have D:=C
  rw[rY] at D
  simp only[Option.some.injEq] at D;subst D
  refine⟨_,rfl,?_⟩
  rw[Rep];cases k.signed<;>rfl
 ·rename_i b
  rw[Rep] at F;subst F;simp at C;subst C
  exact⟨.bool (!b),by simp[Op.unary],by rw[Rep]⟩
 ·simp at C
def uO (P:Program) (J:Bool→Nat→Prop) (β:C1) (h:Am) (w:World) (t:TypeId) (rd:Nat→Option Value) (v:AV):Prop :=
 (∃ d,P.underlying t=some d∧d.isRow=false∧∃ u,rd 0=some u∧Rep J β h w v u) ∨
 (∃ d,P.underlying t=some d∧d.isRow=true∧∃ us:List Value,(P.info? t).map (·.size)=some us.length∧(∀ j u,us[j]?=some u→rd j=some u)∧Rep J β h w v (.agg us.toArray))
theorem RepCs.at {J:Nat→Prop} {c:LA} {rd:Nat→Option Value} (k:RepCs J w c rd 0) {j:Nat} {x:AV} (C:c[j]?=some x):∃ u,rd j=some u∧RepC J w x u:=by
 have:=Dl.1 k j x C;simpa using this
theorem RepCs.drop {J:Nat→Prop} {c:LA} {rd:Nat→Option Value} (k:RepCs J w c rd 0) (n:Nat):RepCs J w (c.drop n) (fun j=>rd (n+j)) 0:=by
 rw[Dl] at k ⊢
 intro j x C
 rw[List.getElem?_drop] at C
 simpa using k (n+j) x C
theorem RepCs.take {J:Nat→Prop} {c:LA} {rd:Nat→Option Value} (C:RepCs J w c rd 0) (n:Nat):RepCs J w (c.take n) rd 0:=by
 rw[Dl] at C ⊢
 intro j x k
 rw[List.getElem?_take] at k
 split at k
 ·exact C j x k
 ·simp at k
theorem RepCs.list {J:Nat→Prop} {c:LA} {rd:Nat→Option Value} (F:RepCs J w c rd 0) :
  ∃ us:List Value,us.length=c.length∧(∀ j u,us[j]?=some u→rd j=some u)∧RepCs J w c (fun j=>us[j]?) 0:=by
 refine⟨c.zipIdx.map fun p=>(rd p.2).getD undef,by simp,fun j u k=>?_,?_⟩
 ·rw[List.getElem?_map,List.getElem?_zipIdx] at k
  cases D:c[j]? with
  | none=>rw[D] at k;simp at k
  | some x =>
   rw[D] at k
   obtain⟨G,C,_⟩:=F.at D
   simp[C] at k
   rw[C,k]
 ·rw[Dl]
  intro j x k
  obtain⟨u,C,hr⟩:=F.at k
  refine⟨u,?_,hr⟩
  simp[k,C]
theorem uP {J1 J2:Nat→Prop}:∀ {c:LA} {rd:Nat→Option Value} {i:Nat},Bb c=true→RepCs J1 w c rd i→RepCs J2 w c rd i
 | [],_,_,_,_=>trivial
 | x::r,rd,i,k,C=>by
  rw[RepCs] at C ⊢
  obtain⟨⟨u,D,G⟩,F⟩:=C
  have hr:Bb r=true:=by unfold Bb at k;split at k<;>simp_all
  refine⟨⟨u,D,?_⟩,uP hr F⟩
  unfold Bb at k
  split at k<;>simp_all[RepC]
theorem iD {t:TypeId} {c:LA} {org:Bool} {k:Bool→O R} {rd:Nat→Option Value} {i:Nat} (C:BQ P t c org k=some r) (D:RepCs (J org) w c rd i):∃ o,k o=some r∧RepCs (J o) w c rd i:=by
 unfold BQ at C
 cases F:A15 P t with
 | true=>rw[F] at C;exact⟨org,C,D⟩
 | false =>
  rw[F,cond_false] at C
  obtain⟨G,I⟩:=uc C
  refine⟨false,I,?_⟩
  cases org with
  | false=>exact D
  | true=>exact uP (by simpa using G) D
theorem X9 {t:TypeId} {c:LA} {org:Bool} {k:AV→O R} {rd:Nat→Option Value} (C:aA P t c org k=some r) (M:RepCs (J org) w c rd 0) :
  ∃ v,k v=some r∧uO P J β h w t rd v:=by
 unfold aA at C
 have agg:∀ {d:TypeDesc},P.underlying t=some d→d.isRow=true→((Di P t).bind fun n=>cond (Nat.ble n c.length) (BQ P t (c.take n) org fun o=>k (.pagg (c.take n) o)) none)=some r →
   ∃ v,k v=some r∧uO P J β h w t rd v:=by
  intro d F hd C
  obtain⟨n,hn,C⟩:=ub C
  obtain⟨V,C⟩:=uc C
  have hle':n≤c.length:=by simpa using V
  obtain⟨us,G,D,Y⟩:=(M.take n).list
  have hl:us.length=n:=by rw[G];simp;omega
  obtain⟨o,C,h4⟩:=iD C Y
  refine⟨_,C,.inr ⟨d,F,hd,us,?_,D,?_⟩⟩
  ·rw[hl];exact hn
  ·rw[Rep];exact⟨us,rfl,by rw[G],h4⟩
 split at C
 ·rename_i kd F
  obtain⟨x,I,C⟩:=ub C
  obtain⟨n,hn,C⟩:=ub C
  obtain⟨u,G,D⟩:=M.at (by rw[←List.head?_eq_getElem?];exact I)
  refine⟨_,C,.inl ⟨_,F,rfl,u,G,?_⟩⟩
  unfold uI at hn
  split at hn
  ·obtain⟨S,T⟩:=uc hn
   simp[T2] at S T;subst S;subst T
   rw[RepC] at D;rw[Rep];exact D
  ·simp at hn
 ·rename_i F
  obtain⟨x,I,C⟩:=ub C
  obtain⟨n,hn,C⟩:=ub C
  obtain⟨u,G,D⟩:=M.at (by rw[←List.head?_eq_getElem?];exact I)
  refine⟨_,C,.inl ⟨_,F,rfl,u,G,?_⟩⟩
  unfold asBool at hn
  split at hn
  ·simp at hn;subst hn
   rw[RepC] at D;rw[Rep];exact D
  ·simp at hn
 ·rename_i F
  obtain⟨x,I,C⟩:=ub C
  obtain⟨n,hn,C⟩:=ub C
  obtain⟨u,G,D⟩:=M.at (by rw[←List.head?_eq_getElem?];exact I)
  refine⟨_,C,.inl ⟨_,F,rfl,u,G,?_⟩⟩
  unfold uJ at hn
  split at hn
  ·simp at hn;subst hn
   rw[RepC] at D;rw[Rep];exact D
  ·simp at hn
 ·rename_i e F
  obtain⟨sz,hsz,C⟩:=ub C
  obtain⟨x,I,C⟩:=ub C
  obtain⟨p,L,C⟩:=ub C
  obtain⟨u,G,D⟩:=M.at (by rw[←List.head?_eq_getElem?];exact I)
  refine⟨_,C,.inl ⟨_,F,rfl,u,G,?_⟩⟩
  unfold A3v at L
  rw[Rep,RepC]
  split at L
  ·obtain⟨S,U⟩:=uc L
   simp at S U;subst S;subst U
   rw[RepC] at D
   obtain⟨Y,A,cap,h4,h5,h6,h7⟩:=D
   exact⟨Y,A,cap,h4,h5,by simp,h7⟩
  ·simp at L;subst L
   rw[RepC] at D
   exact⟨by simp,none,0,D,by simp,by simp,.inl rfl⟩
  ·simp at L
 ·rename_i F;exact agg F rfl C
 ·rename_i F;exact agg F rfl C
 ·simp at C
theorem C3:∀ {c:LA} {cs:List Value},Reps J β h w c cs↔cs.length=c.length∧∀ (j:Nat) (x:AV) (u:Value),c[j]?=some x→cs[j]?=some u→Rep J β h w x u
 | [],cs=>by rw[Reps];simp
 | x::r,cs=>by
  rw[Reps]
  constructor
  ·rintro⟨u,us,rfl,D,F⟩
   rw[C3] at F
   refine⟨by simp[F.1],fun j y v k C=>?_⟩
   cases j with
   | zero=>simp at k C;subst k C;exact D
   | succ j=>exact F.2 j y v (by simpa using k) (by simpa using C)
  ·rintro⟨G,D⟩
   cases cs with
   | nil=>simp at G
   | cons u us =>
    refine⟨u,us,rfl,D 0 x u (by simp) (by simp),?_⟩
    rw[C3]
    exact⟨by simpa using G,fun j y v k C=>D (j+1) y v (by simpa using k) (by simpa using C)⟩
theorem aI {t:TypeId} {c:LA} {k:AV→O R} {rd:Nat→Option Value} (C:uK P t c k=some r)
  (M:∀ j x,c[j]?=some x→∃ u,rd j=some u∧Rep J β h w x u) :
  ∃ v,k v=some r∧uO P J β h w t rd v:=by
 unfold uK at C
 have agg:∀ {d:TypeDesc},P.underlying t=some d→d.isRow=true→((Di P t).bind fun n=>cond (Nat.ble n c.length) (k (.agg (c.take n))) none)=some r →
   ∃ v,k v=some r∧uO P J β h w t rd v:=by
  intro d F T C
  obtain⟨n,hn,C⟩:=ub C
  obtain⟨S,C⟩:=uc C
  have L:n≤c.length:=by simpa using S
  refine⟨_,C,.inr ⟨d,F,T,(c.take n).zipIdx.map fun p=>(rd p.2).getD undef,?_,fun j u I=>?_,?_⟩⟩
  ·simp;rw[Nat.min_eq_left L];exact Option.map_eq_some_iff.1 hn
  ·rw[List.getElem?_map,List.getElem?_zipIdx] at I
   cases D:(c.take n)[j]? with
   | none=>rw[D] at I;simp at I
   | some x =>
    rw[D] at I
    rw[List.getElem?_take] at D
    split at D
    ·obtain⟨U,G,_⟩:=M j x D
     simp[G] at I
     rw[G,I]
    ·simp at D
  ·rw[Rep]
   refine⟨_,rfl,C3.2 ⟨by simp,fun j x u D F=>?_⟩⟩
   simp[D] at F
   rw[List.getElem?_take] at D
   split at D
   ·obtain⟨U,G,hr⟩:=M j x D
    simp[G] at F;subst F;exact hr
   ·simp at D
 split at C
 ·rename_i F;exact agg F rfl C
 ·rename_i F;exact agg F rfl C
 ·rename_i d _ _ F
  obtain⟨x,D,C⟩:=ub C
  obtain⟨u,V,Y⟩:=M 0 x (by rw[←List.head?_eq_getElem?];exact D)
  refine⟨x,C,.inl ⟨d,F,?_,u,V,Y⟩⟩
  cases d<;>simp_all
 ·simp at C
theorem Aly {n:Nat} {k:AV→O R}:∀ {c:LA} {i:Nat},RP n k c i=some r→i≤n∧∃ x,c[n - i]?=some x∧k x=some r
 | [],i,C=>by simp[RP] at C
 | v::c,i,C=>by
  rw[RP] at C
  cases D:Nat.beq n i with
  | true =>
   rw[D] at C
   have:n=i:=Nat.eq_of_beq_eq_true D
   subst this
   exact⟨Nat.le_refl _,v,by simp,C⟩
  | false =>
   rw[D] at C
   obtain⟨I,x,F,G⟩:=Aly (c:=c) C
   refine⟨by omega,x,?_,G⟩
   rw[show n - i=(n - (i+1))+1 by omega];simpa using F
theorem mv {t:TypeId} {c:LA} {off:Nat} {k:AV→O R} (C:aB P t c off k=some r):uK P t (c.drop off) k=some r:=by
 unfold aB at C
 unfold uK
 split at C
 ·exact C
 ·exact C
 ·rename_i d I L M
  obtain⟨_,x,D,F⟩:=Aly C
  have G:(c.drop off).head?=some x:=by rw[List.head?_eq_getElem?,List.getElem?_drop];simpa using D
  rw[G];exact F
 ·simp at C
theorem f6 {t:TypeId} {d:TypeDesc} (k:P.underlying t=some d):(isAgg t).run P w=.ok d.isRow w:=by
 unfold isAgg
 rw[Sem.run_bind,run_underlying k w]
 cases d<;>simp
theorem iE {t:TypeId} {a:Addr} {v:AV} (hr:uO P J β h w t (fun j=>w.cell? (a.add j)) v):∃ vc,(loadVar t a).run P w=.ok vc w∧Rep J β h w v vc:=by
 rcases hr with⟨d,C,D,u,k,F⟩ | ⟨d,C,D,us,k,F,I⟩
 ·refine⟨u,?_,F⟩
  have G:w.cell? a=some u:=by simpa[Addr.add] using k
  simp[loadVar,f6 C,D,G]
 ·refine⟨_,?_,I⟩
  have L:=run_loadCells_list (P:=P) w a us F
  cases hq:P.info? t with
  | none=>simp[hq] at k
  | some i =>
   have hs:i.size=us.length:=by simpa[hq] using k
   simp[loadVar,Sem.run_bind,f6 C,D,Go.sizeOf,typeInfo,hq,hs,L]
theorem W9 {t:TypeId} {cs:List Value} {off:Nat} {v:AV} (hr:uO P J β h w t (fun j=>cs[off+j]?) v):∃ vc,(part t ⟨cs⟩ off).run P w=.ok vc w∧Rep J β h w v vc:=by
 rcases hr with⟨d,C,D,u,k,F⟩ | ⟨d,C,D,us,k,F,I⟩
 ·refine⟨u,?_,F⟩
  simp at k
  simp[part,f6 C,D,k]
 ·refine⟨_,?_,I⟩
  cases hq:P.info? t with
  | none=>simp[hq] at k
  | some i =>
   have hs:i.size=us.length:=by simpa[hq] using k
   have:(⟨cs⟩:Array Value).extract off (off+us.length)=us.toArray:=by
    apply Array.ext'
    simp
    apply List.ext_getElem?
    intro j
    rw[List.getElem?_take,List.getElem?_drop]
    split
    ·rename_i G
     rw[List.getElem?_eq_getElem G]
     exact F j _ (List.getElem?_eq_getElem G)
    ·rename_i G
     rw[List.getElem?_eq_none (by omega)]
   simp only[part,Sem.run_bind,f6 C,D,Go.sizeOf,typeInfo,run_program,Result.andThen_ok,hq,Sem.run_pure,hs,if_true,this]
end
end Gx

namespace Gx
open Go
section
variable {R:Type} {r:R} {P:Program} {J:Bool→Nat→Prop} {β:C1} {h:Am} {w:World} {g:B5}
theorem Ya {k:Nat} {cs:Array Value} {ty:TypeId} {fr:Nat×Nat} (C:w.heap[k]?=some (.cells cs ty fr)) (i:Nat):w.cell? ⟨k,i,none⟩=cs[i]?:=by
 simp[World.cell?,C]
def Looks (g:B5) (h:Am):Prop:=∀ b x,g b=some x→Au h b=some x
theorem Pj {b:Nat} {x:Blk} (C:Looks g h) (k:Kt g b=some x):Au h b=some x∧x.dead=false:=by
 unfold Kt at k
 obtain⟨y,D,k⟩:=ub k
 obtain⟨F,k⟩:=A2f k
 simp at k;subst k
 exact⟨C b _ D,F⟩
theorem Apf {b off:Nat} {x:Blk} {v:Value} (S:SimH J β h w) (G:Au h b=some x) (I:x.dead=false) (hr:Rep J β h w (.optr b off) v) :
  ∃ k o cs ty fr,β b=some (k,o)∧v=.pointer (some ⟨k,o+off,none⟩)∧w.heap[k]?=some (.cells cs ty fr) ∧
  FrOk cs.size fr∧o+x.cells.length≤cs.size∧CellsRep J β h w x (fun j=>cs[o+j]?) ∧
  (x.sealed=false→∀ g,¬ J g k)∧(x.sealed=true→J x.taint k):=by
 rw[Rep] at hr
 obtain⟨y,k,o,⟨D,L⟩,M,hr⟩:=hr
 rw[G] at D;simp at D;subst D
 rcases hr with hr | F
 ·simp[I] at hr
 ·rcases S.blk b x G I L with⟨hn,_⟩ | ⟨k',o',cs,ty,fr,C,T,U,V,Y,h5,h6⟩
  ·rw[F] at hn;simp at hn
  ·rw[F] at C;simp at C;obtain⟨rfl,rfl⟩:=C
   exact⟨k,o,cs,ty,fr,F,M,T,U,V,Y,h5,h6⟩
theorem CellsRep.reads {t:TypeId} {x:Blk} {cs:Array Value} {o off:Nat} {k:AV→O R} (I:CellsRep J β h w x (fun j=>cs[o+j]?))
  (C:cond x.pure (aA P t (x.cells.drop off) x.taint k) (aB P t x.cells off k)=some r) :
  ∃ v,k v=some r∧uO P J β h w t (fun j=>cs[o+off+j]?) v:=by
 cases D:x.pure with
 | true =>
  rw[D] at C
  have:=(I.1 D).drop off
  obtain⟨v,F,G⟩:=X9 (β:=β) (h:=h) C this
  exact⟨v,F,by simpa[Nat.add_assoc] using G⟩
 | false =>
  rw[D] at C
  obtain⟨v,F,G⟩:=aI (J:=J) (β:=β) (h:=h) (w:=w) (rd:=fun j=>cs[o+(off+j)]?) (mv C) (fun j y L=>by
   rw[List.getElem?_drop] at L
   obtain⟨u,M,hr,_⟩:=I.2 D _ _ L
   exact⟨u,M,hr⟩)
  exact⟨v,F,by simpa[Nat.add_assoc] using G⟩
theorem uQ {t:TypeId} {p:AV} {vp:Value} {k:AV→O R} (S:SimH J β h w) (U:Looks g h) (C:zt P g t p k=some r) (D:Rep J β h w p vp) :
  ∃ v vc,k v=some r∧(Instr.loadAt t vp).run P w=.ok vc w∧Rep J β h w v vc:=by
 unfold zt at C
 split at C
 ·rename_i c org
  rw[Rep,RepC] at D
  obtain⟨a,rfl,_,F⟩:=D
  obtain⟨v,G,I⟩:=X9 (β:=β) (h:=h) C F
  obtain⟨vc,L,M⟩:=iE I
  exact⟨v,vc,G,by simp[Instr.loadAt,Instr.sureAddr,L],M⟩
 ·rename_i b off
  obtain⟨x,V,C⟩:=ub C
  obtain⟨Y,hd⟩:=Pj U V
  obtain⟨kk,o,cs,ty,fr,hβ,rfl,hk,_,_,F,_⟩:=Apf S Y hd D
  obtain⟨v,G,I⟩:=F.reads C
  have T:uO P J β h w t (fun j=>w.cell? ((⟨kk,o+off,none⟩:Addr).add j)) v:=by
   simpa only[Addr.add_mid,Ya hk] using I
  obtain⟨vc,L,M⟩:=iE T
  exact⟨v,vc,G,by simp[Instr.loadAt,Instr.sureAddr,L],M⟩
 ·simp at C
theorem E1 {t:TypeId} {n:Nat} (hs:Di P t=some n) (w:World):(Go.sizeOf t).run P w=.ok n w:=by
 unfold Di at hs
 cases hq:P.info? t with
 | none=>simp[hq] at hs
 | some i=>simp[hq] at hs;simp[Go.sizeOf,typeInfo,hq,hs]
theorem Wb {i:Int} {n:Nat} (hi:Ac i n=true):0≤i∧i<(n:Int):=by simpa[Ac] using hi
theorem mw {J:Nat→Prop} {c:LA} {a:Addr} (k:RepCs J w c (fun j=>w.cell? (a.add j)) 0) (n:Nat):RepCs J w (c.drop n) (fun j=>w.cell? ((a.add n).add j)) 0:=by
 have e:∀ j,(a.add n).add j=a.add (n+j):=fun j=>by
  unfold Addr.add
  by_cases C:n=0<;>by_cases D:j=0<;>simp[C,D,Nat.add_assoc]
 simpa[e] using k.drop n
theorem A9u {b off n:Nat} {v:Value} (m:Nat) (hr:Rep J β h w (.own b off n) v) (hn:n≠0) :
  ∃ k o cap,v=.slice (some ⟨k,o,none⟩) n cap∧Rep J β h w (.optr b (off+m)) (.pointer (some ⟨k,o+m,none⟩)):=by
 rw[Rep] at hr
 obtain⟨x,A,cap,C,rfl,D,hr⟩:=hr
 rcases hr with hr | ⟨k,o,rfl,hr⟩
 ·omega
 ·refine⟨k,o+off,cap,rfl,?_⟩
  rw[Rep];exact⟨x,k,o,C,by rw[Nat.add_assoc],hr.imp id (·.1)⟩
theorem iF {t k:TypeId} {C:IntKind} {i:Int} {len cap sz:Nat} {a:Addr} (D:P.underlying t=some (.slice k)) (hs:Di P k=some sz) (F:Ac i len=true) :
  (Instr.indexAt t (.slice (some a) len cap) (.int C i)).run P w=.ok (.pointer (some (a.add (i.toNat*sz)))) w:=by
 obtain⟨G,I⟩:=Wb F
 simp[Instr.indexAt,asIntOf,run_underlying D,G,I,E1 hs]
theorem iG {t k:TypeId} {C:IntKind} {i:Int} {len sz:Nat} {a:Addr} (D:P.underlying t=some (.array len k)) (hs:Di P k=some sz) (F:Ac i len=true) :
  (Instr.indexAt t (.pointer (some a)) (.int C i)).run P w=.ok (.pointer (some (a.add (i.toNat*sz)))) w:=by
 obtain⟨G,I⟩:=Wb F
 simp[Instr.indexAt,asIntOf,run_underlying D,G,I,E1 hs,Instr.sureAddr]
theorem ri {t:TypeId} {x i:AV} {vx vi:Value} {k:AV→O R} (D:V7 P t x i k=some r) (F:Rep J β h w x vx) (hi:Rep J β h w i vi) :
  ∃ v vc,k v=some r∧(Instr.indexAt t vx vi).run P w=.ok vc w∧Rep J β h w v vc:=by
 unfold V7 at D
 split at D
 ·rename_i M c len sz tight org S i G
  obtain⟨T,hs,I⟩:=ub D
  obtain⟨he,h2⟩:=uc I
  obtain⟨C,L⟩:=uc h2
  have U:T=sz:=by simp at he;exact he.symm
  subst U
  rw[Rep] at hi;subst hi
  rw[Rep,RepC] at F
  obtain⟨hlen,A,cap,rfl,hcap,_,hA⟩:=F
  rcases hA with hA | ⟨a,rfl,V,Y⟩
  ·have:=Wb C;omega
  refine⟨_,_,L,iF G hs C,?_⟩
  rw[Rep,RepC]
  exact⟨_,rfl,by rw[Wa];exact V,mw Y _⟩
 ·rename_i M b off len S i G
  obtain⟨sz,hs,I⟩:=ub D
  obtain⟨C,L⟩:=uc I
  rw[Rep] at hi;subst hi
  obtain⟨kk,o,cap,rfl,h4⟩:=A9u (i.toNat*sz) F (by have:=Wb C;omega)
  exact⟨_,_,L,iF G hs C,by rw[Addr.add_mid];exact h4⟩
 ·rename_i len M c org S i G
  obtain⟨sz,hs,I⟩:=ub D
  obtain⟨C,L⟩:=uc I
  rw[Rep] at hi;subst hi
  rw[Rep,RepC] at F
  obtain⟨a,rfl,V,Y⟩:=F
  refine⟨_,_,L,iG G hs C,?_⟩
  rw[Rep,RepC]
  exact⟨_,rfl,by rw[Wa];exact V,mw Y _⟩
 ·rename_i len M b off S i G
  obtain⟨sz,hs,I⟩:=ub D
  obtain⟨C,L⟩:=uc I
  rw[Rep] at hi;subst hi
  rw[Rep] at F
  obtain⟨y,kk,o,hy,rfl,h4⟩:=F
  refine⟨_,_,L,iG G hs C,?_⟩
  rw[Rep,Addr.add_mid]
  exact⟨y,kk,o,hy,by rw[Nat.add_assoc],h4⟩
 ·simp at D
theorem mz {t:TypeId} {f:Nat} {p:Nat×TypeId} (k:zh P t f=some p):∃ fs fd,P.underlying t=some (.struct fs)∧fs[f]?=some fd∧fd.offset=p.1∧fd.type=p.2:=by
 unfold zh at k
 split at k
 ·rename_i fs C
  cases hq:fs[f]? with
  | none=>simp[hq] at k
  | some fd=>simp[hq] at k;subst k;exact⟨fs,fd,C,hq,rfl,rfl⟩
 ·simp at k
theorem rj {t:TypeId} {x:AV} {f:Nat} {vx:Value} {k:AV→O R} (G:V8 P t x f k=some r) (C:Rep J β h w x vx) :
  ∃ v vc,k v=some r∧(Instr.fieldAt t vx f).run P w=.ok vc w∧Rep J β h w v vc:=by
 unfold V8 at G
 obtain⟨p,I,L⟩:=ub G
 obtain⟨n,hn,M⟩:=ub L
 obtain⟨S,D⟩:=A2f M
 obtain⟨fs,fd,T,U,V,Y⟩:=mz I
 have F:n≠0:=by intro e;subst e;simp at S
 have run:∀ a:Addr,(Instr.fieldAt t (.pointer (some a)) f).run P w=.ok (.pointer (some (a.add p.1))) w:=fun a=>by
  simp[Instr.fieldAt,run_underlying T,U,Instr.sureAddr,fieldPlace,Y,E1 hn,F,V]
 split at D
 ·rw[Rep,RepC] at C
  obtain⟨a,rfl,hj,hc⟩:=C
  refine⟨_,_,D,run a,?_⟩
  rw[Rep,RepC]
  exact⟨_,rfl,by rw[Wa];exact hj,mw hc _⟩
 ·rw[Rep] at C
  obtain⟨y,kk,o,hy,rfl,h4⟩:=C
  refine⟨_,_,D,run _,?_⟩
  rw[Rep,Addr.add_mid]
  exact⟨y,kk,o,hy,by rw[Nat.add_assoc],h4⟩
 ·simp at D
theorem Apg {t:TypeId} {x:AV} {f:Nat} {vx:Value} {k:AV→O R} (T:rZ P t x f k=some r) (D:Rep J β h w x vx) :
  ∃ v vc,k v=some r∧(Instr.field t vx f).run P w=.ok vc w∧Rep J β h w v vc:=by
 unfold rZ at T
 obtain⟨p,hp,F⟩:=ub T
 obtain⟨fs,fd,U,V,Y,ht⟩:=mz hp
 split at F
 ·rename_i c org
  rw[Rep] at D
  obtain⟨cs,rfl,hl,C⟩:=D
  obtain⟨v,G,I⟩:=X9 (β:=β) (h:=h) F (C.drop p.1)
  obtain⟨vc,L,M⟩:=W9 I
  exact⟨v,vc,G,by simp[Instr.field,run_underlying U,V,asAgg,ht,Y,L],M⟩
 ·rename_i c
  rw[Rep] at D
  obtain⟨cs,rfl,C⟩:=D
  rw[C3] at C
  obtain⟨v,G,I⟩:=aI (J:=J) (β:=β) (h:=h) (w:=w) (rd:=fun j=>cs[p.1+j]?) F (fun j y S=>by
   rw[List.getElem?_drop] at S
   have:p.1+j<cs.length:=by
    rw[C.1];exact(List.getElem?_eq_some_iff.1 S).1
   exact⟨cs[p.1+j],List.getElem?_eq_getElem this,C.2 _ _ _ S (List.getElem?_eq_getElem this)⟩)
  obtain⟨vc,L,M⟩:=W9 I
  exact⟨v,vc,G,by simp[Instr.field,run_underlying U,V,asAgg,ht,Y,L],M⟩
 ·simp at F
theorem Aph {t:TypeId} {x i:AV} {vx vi:Value} {k:AV→O R} (C:r7 P t x i k=some r) (D:Rep J β h w x vx) (hi:Rep J β h w i vi) :
  ∃ v vc,k v=some r∧(Instr.index t vx vi).run P w=.ok vc w∧Rep J β h w v vc:=by
 unfold r7 at C
 split at C
 ·rename_i s kd i F
  obtain⟨G,I⟩:=uc C
  obtain⟨L,T⟩:=Wb G
  rw[Rep] at hi;rw[Rep] at D;subst hi D
  have M:i.toNat<s.length:=by omega
  refine⟨_,.int .u8 ((s.getD i.toNat 0).toNat:Int),I,?_,by rw[Rep]⟩
  have hg:(⟨⟨s⟩⟩:ByteArray)[i.toNat]?=some s[i.toNat]:=by
   have:i.toNat<(⟨⟨s⟩⟩:ByteArray).size:=M
   rw[getElem?_pos (⟨⟨s⟩⟩:ByteArray) i.toNat this];rfl
  simp only[Instr.index,asIntOf,Sem.run_bind,Sem.run_pure,Result.andThen_ok,run_underlying F,L,if_true,hg,List.getD_eq_getElem?_getD,List.getElem?_eq_getElem M,Option.getD_some]
 ·rename_i len el c org kd i F
  obtain⟨sz,hs,I⟩:=ub C
  obtain⟨G,T⟩:=uc I
  obtain⟨L,U⟩:=Wb G
  rw[Rep] at hi;rw[Rep] at D;subst hi
  obtain⟨cs,rfl,hl,S⟩:=D
  obtain⟨v,V,Y⟩:=X9 (β:=β) (h:=h) T (S.drop (i.toNat*sz))
  obtain⟨vc,h6,h7⟩:=W9 Y
  exact⟨v,vc,V,by simp[Instr.index,asIntOf,run_underlying F,L,U,E1 hs,h6],h7⟩
 ·rename_i len el c kd i F
  obtain⟨sz,hs,I⟩:=ub C
  obtain⟨G,T⟩:=uc I
  obtain⟨L,U⟩:=Wb G
  rw[Rep] at hi;rw[Rep] at D;subst hi
  obtain⟨cs,rfl,S⟩:=D
  rw[C3] at S
  obtain⟨v,V,Y⟩:=aI (J:=J) (β:=β) (h:=h) (w:=w) (rd:=fun j=>cs[i.toNat*sz+j]?) (mv T) (fun j y hj=>by
   rw[List.getElem?_drop] at hj
   have:i.toNat*sz+j<cs.length:=by
    rw[S.1];exact(List.getElem?_eq_some_iff.1 hj).1
   exact⟨cs[i.toNat*sz+j],List.getElem?_eq_getElem this,S.2 _ _ _ hj (List.getElem?_eq_getElem this)⟩)
  obtain⟨vc,h6,h7⟩:=W9 Y
  exact⟨v,vc,V,by simp[Instr.index,asIntOf,run_underlying F,L,U,E1 hs,h6],h7⟩
 ·simp at C
end
end Gx

namespace Gx
open Go
section
variable {R:Type} {r:R} {P:Program} {J:Bool→Nat→Prop} {β:C1} {h:Am} {w:World} {g:B5}
def HI (J:Bool→Nat→Prop) (β:C1) (h:Am) (w:World):Option AV→Option Value→Prop
 | none,none=>True
 | some x,some v=>Rep J β h w x v
 | _,_=>False
theorem aJ {o:Option AV} {vo:Option Value} {d:Nat} {i:Int} (C:mf o d=some i) (D:HI J β h w o vo) :
  (o=none∧vo=none∧i=d)∨∃ k,vo=some (.int k i):=by
 unfold mf at C
 split at C
 ·simp at C;subst C
  cases vo with
  | none=>exact .inl ⟨rfl,rfl,rfl⟩
  | some v=>simp[HI] at D
 ·rename_i k j
  simp at C;subst C
  cases vo with
  | none=>simp[HI] at D
  | some v=>rw[HI,Rep] at D;subst D;exact .inr ⟨k,rfl⟩
 ·simp at C
theorem Xa {lo hi mx:Option AV} {vlo vhi vmx:Option Value} {n cap:Nat} {k:Nat→Nat→O R} {isSlice:Bool} (T:BR lo hi mx n k=some r)
  (M:HI J β h w lo vlo)
  (G:HI J β h w hi vhi)
  (I:HI J β h w mx vmx) (U:n≤cap) :
  ∃ l D m,k l D=some r∧l≤D∧D≤n∧D≤m∧m≤cap∧(mx=none→m=cap)∧(∀ F i,vmx=some (.int F i)→(m:Int)=i)∧(∀ F i,vhi=some (.int F i)→(D:Int)=i)∧(hi=none→D=n) ∧
   (Instr.sliceBounds isSlice n cap vlo vhi vmx).run P w=.ok (l,D,m) w:=by
 unfold BR at T
 obtain⟨l,h1,h2⟩:=ub T
 obtain⟨C,h3,h4⟩:=ub h2
 obtain⟨m,h5,S⟩:=ub h4
 obtain⟨V,S⟩:=A2f S
 obtain⟨Y,h7⟩:=uc S
 simp at Y V
 obtain⟨c1,c2,c3,c4⟩:=Y
 have run:∀ (F:IntKind) (i:Int) (y:Nat) (code:BoundsCode),0≤i→i≤(y:Int)→(Instr.sliceBound (.int F i) y code).run P w=.ok i.toNat w:=fun F i y code a b=>by
  simp[Instr.sliceBound,asIntOf,a,b]
 have bl:=aJ (J:=J) (β:=β) (h:=h) (w:=w) h1 M
 have bh:=aJ (J:=J) (β:=β) (h:=h) (w:=w) h3 G
 have bm:=aJ (J:=J) (β:=β) (h:=h) (w:=w) h5 I
 rcases bm with⟨rfl,rfl,rfl⟩ | ⟨km,rfl⟩
 ·refine⟨l.toNat,C.toNat,cap,h7,by omega,by omega,by omega,by omega,fun _=>rfl,by simp,?_,?_,?_⟩
  ·intro F i L
   rcases bh with⟨_,rfl,_⟩ | ⟨kh,rfl⟩
   ·simp at L
   ·simp at L;omega
  ·intro hn
   rcases bh with⟨_,_,rfl⟩ | ⟨kh,rfl⟩
   ·simp
   ·subst hn;simp[HI] at G
  ·rcases bh with⟨_,rfl,rfl⟩ | ⟨kh,rfl⟩<;>rcases bl with⟨_,rfl,rfl⟩ | ⟨kl,rfl⟩
   ·simp[Instr.sliceBounds]
   ·simp[Instr.sliceBounds,run _ l n _ c1 (by omega)]
   ·simp[Instr.sliceBounds,run _ C cap _ (by omega) (by omega)]
   ·simp[Instr.sliceBounds,run _ C cap _ (by omega) (by omega),run _ l C.toNat _ c1 (by omega)]
 ·rcases bh with⟨rfl,rfl,rfl⟩ | ⟨kh,rfl⟩
  ·have:mx.isSome=true:=by
    cases mx with
    | none=>simp[HI] at I
    | some _=>rfl
   have:=V this;simp at this
  ·refine⟨l.toNat,C.toNat,m.toNat,h7,by omega,by omega,by omega,by omega,?_,?_,?_,?_,?_⟩
   ·intro hn;subst hn;simp[HI] at I
   ·intro F i L;simp at L;omega
   ·intro F i L;simp at L;omega
   ·intro hn;subst hn;simp[HI] at G
   ·rcases bl with⟨_,rfl,rfl⟩ | ⟨kl,rfl⟩
    ·simp[Instr.sliceBounds,run _ m cap _ (by omega) (by omega),run _ C m.toNat _ (by omega) (by omega)]
    ·simp[Instr.sliceBounds,run _ m cap _ (by omega) (by omega),run _ C m.toNat _ (by omega) (by omega),run _ l C.toNat _ c1 (by omega)]
theorem Api {t:TypeId} {x:AV} {lo hi mx:Option AV} {vx:Value} {vlo vhi vmx:Option Value} {k:AV→O R} (hl:Looks g h) (L:r8 P g t x lo hi mx k=some r)
  (T:Rep J β h w x vx) (M:HI J β h w lo vlo) (D:HI J β h w hi vhi) (F:HI J β h w mx vmx) :
  ∃ v vc,k v=some r∧(Instr.sliceAt t vx vlo vhi vmx).run P w=.ok vc w∧Rep J β h w v vc:=by
 unfold r8 at L
 split at L
 ·rename_i s U
  obtain⟨hm,h1⟩:=A2f L
  have hmn:mx=none:=by cases mx<;>simp_all
  subst hmn
  have hv:vmx=none:=by cases vmx<;>simp_all[HI]
  subst hv
  rw[Rep] at T;subst T
  obtain⟨l,C,m,V,h3,h4,_,_,h5,_,_,_,h6⟩:=Xa (P:=P) (isSlice:=false) h1 M D (vmx:=none) (by simp[HI]) (Nat.le_refl _)
  refine⟨_,_,V,?_,by rw[Rep]⟩
  have hs:(⟨⟨s⟩⟩:ByteArray).size=s.length:=rfl
  have he:(⟨⟨s⟩⟩:ByteArray).extract l C=⟨⟨(s.drop l).take (C - l)⟩⟩:=by
   apply ByteArray.ext
   rw[ByteArray.data_extract]
   simp
  simp[Instr.sliceAt,Instr.slice,run_underlying U,hs,h6,he]
 ·rename_i el U
  rw[Rep] at T;subst T
  obtain⟨sz,hs,L⟩:=ub L
  obtain⟨l,C,m,V,h3,h4,h5,h6,_,_,_,_,h7⟩:=Xa (P:=P) (isSlice:=true) L M D F (Nat.le_refl _)
  have:l=0:=by omega
  have:C=0:=by omega
  have:m=0:=by omega
  subst l;subst C;subst m
  refine⟨_,.slice none 0 0,V,?_,by rw[Rep]⟩
  simp[Instr.sliceAt,Instr.slice,run_underlying U,h7,E1 hs]
 ·rename_i el c n sz tight org U
  obtain⟨Y,hs,h1⟩:=ub L
  obtain⟨he,V⟩:=uc h1
  have S:Y=sz:=by simp at he;exact he.symm
  subst S
  rw[Rep,RepC] at T
  obtain⟨hlen,A,cap,rfl,G,ht,hA⟩:=T
  obtain⟨l,C,m,h3,h4,h5,h6,h7,h8,h9,h10,h11,h12⟩:=Xa (P:=P) (isSlice:=true) V M D F G
  refine⟨_,.slice (if m=l then A else A.map (·.add (l*Y))) (C - l) (m - l),h3,?_,?_⟩
  ·simp[Instr.sliceAt,Instr.slice,run_underlying U,h12,E1 hs]
  ·rw[Rep,RepC]
   refine⟨?_,_,_,rfl,by omega,?_,?_⟩
   ·simp;rw[hlen,←Nat.sub_mul]
    exact Nat.min_eq_left (Nat.mul_le_mul_right _ (by omega))
   ·intro I
    unfold A16 at I
    split at I
    ·have:=ht I
     have:=h8 rfl
     have:=h11 rfl
     omega
    ·rename_i ka a kb b
     cases vhi with
     | none=>simp[HI] at D
     | some u1=>cases vmx with
      | none=>simp[HI] at F
      | some u2 =>
       rw[HI,Rep] at D F;subst D F
       have e1:=h10 _ _ rfl
       have e2:=h9 _ _ rfl
       simp at I
       omega
    ·simp at I
   ·by_cases hz:C - l=0
    ·exact .inl hz
    ·right
     rcases hA with hA | ⟨a,rfl,hj,hc⟩
     ·omega
     ·refine⟨a.add (l*Y),by rw[if_neg (by omega)];rfl,by rw[Wa];exact hj,(mw hc _).take _⟩
 ·rename_i el b off n U
  obtain⟨sz,hs,h1⟩:=ub L
  obtain⟨y,hy,V⟩:=ub h1
  obtain⟨he,h3⟩:=uc V
  obtain⟨hb,hd⟩:=Pj hl hy
  have S:sz=y.sz:=by simpa using he
  rw[Rep] at T
  obtain⟨x,A,cap,⟨hx1,hmp⟩,rfl,G,hr⟩:=T
  rw[hb] at hx1;simp at hx1;subst hx1
  obtain⟨l,C,m,h4,h5,h6,h7,h8,_,_,_,_,h9⟩:=Xa (P:=P) (isSlice:=true) h3 M D F G
  refine⟨_,.slice (if m=l then A else A.map (·.add (l*sz))) (C - l) (m - l),h4,?_,?_⟩
  ·simp[Instr.sliceAt,Instr.slice,run_underlying U,h9,E1 hs]
  ·rw[Rep]
   refine⟨y,_,_,⟨hb,hmp⟩,rfl,by omega,?_⟩
   by_cases hz:m - l=0
   ·exact .inl hz
   ·right
    rcases hr with hr | ⟨kk,o,rfl,hr⟩
    ·omega
    ·refine⟨kk,o,by rw[if_neg (by omega)];simp[Addr.add_mid,Nat.add_assoc],?_⟩
     rcases hr with hr | ⟨r1,r2,r3⟩
     ·simp[hd] at hr
     ·refine .inr ⟨r1,?_,?_⟩
      ·have:l*sz+(m - l)*y.sz≤cap*y.sz:=by
        rw[S,←Nat.add_mul];exact Nat.mul_le_mul_right _ (by omega)
       omega
      ·have:l*sz+(C - l)*y.sz≤n*y.sz:=by
        rw[S,←Nat.add_mul];exact Nat.mul_le_mul_right _ (by omega)
       omega
 ·simp at L
theorem Aya {t:TypeId} {x v:AV} {vx:Value} {ty:TypeId} (k:Bb1 P t x=some v) (D:Rep J β h w x vx) :
  ∃ vc,(Builtin.len_ #[t] ty #[vx]).run P w=.ok vc w∧Rep J β h w v vc:=by
 unfold Bb1 at k
 split at k
 ·rename_i C
  simp at k;subst k;rw[Rep] at D;subst D
  exact⟨.int .i64 0,by simp[Builtin.len_,run_underlying C,goInt],by rw[Rep]⟩
 ·rename_i n _ _ _ C
  simp at k;subst k;rw[Rep,RepC] at D
  obtain⟨_,A,cap,rfl,_⟩:=D
  exact⟨.int .i64 n,by simp[Builtin.len_,run_underlying C,goInt],by rw[Rep]⟩
 ·rename_i n C
  simp at k;subst k;rw[Rep] at D
  obtain⟨_,A,cap,_,rfl,_⟩:=D
  exact⟨.int .i64 n,by simp[Builtin.len_,run_underlying C,goInt],by rw[Rep]⟩
 ·rename_i s C
  simp at k;subst k;rw[Rep] at D;subst D
  refine⟨.int .i64 s.length,?_,by rw[Rep]⟩
  have hs:(⟨⟨s⟩⟩:ByteArray).size=s.length:=rfl
  simp[Builtin.len_,run_underlying C,goInt,hs]
 ·rename_i n _ C
  simp at k;subst k
  exact⟨.int .i64 n,by simp[Builtin.len_,run_underlying C,goInt],by rw[Rep]⟩
 ·simp at k
theorem Aad {J:Nat→Prop}:∀ {x:AV} {u:Value},RepC J w x u→u.oneCell'=true
 | .int ..,_,hr=>by rw[RepC] at hr;subst hr;rfl
 | .bool _,_,hr=>by rw[RepC] at hr;subst hr;rfl
 | .str _,_,hr=>by rw[RepC] at hr;subst hr;rfl
 | .nsl,_,hr=>by rw[RepC] at hr;subst hr;rfl
 | .imm ..,_,hr=>by rw[RepC] at hr;obtain⟨_,A,cap,rfl,_⟩:=hr;rfl
 | .iptr ..,_,hr=>by rw[RepC] at hr;obtain⟨a,rfl,_⟩:=hr;rfl
 | .nilptr,_,hr=>by rw[RepC] at hr;subst hr;rfl
 | .nilfn,_,hr=>by rw[RepC] at hr;subst hr;rfl
 | .fn _ [],_,hr=>by rw[RepC] at hr;subst hr;rfl
 | .fn _ (_::_),_,hr=>by simp[RepC] at hr
 | .pagg ..,_,hr=>by simp[RepC] at hr
 | .agg _,_,hr=>by simp[RepC] at hr
 | .tup _,_,hr=>by simp[RepC] at hr
 | .own ..,_,hr=>by simp[RepC] at hr
 | .optr ..,_,hr=>by simp[RepC] at hr
 | .undef,_,hr=>by simp[RepC] at hr
 | .omap _,_,hr=>by simp[RepC] at hr
theorem RepCs.one {J:Nat→Prop} {c:LA} {us:List Value} (D:RepCs J w c (fun j=>us[j]?) 0) (I:us.length=c.length):∀ u ∈ us,u.oneCell'=true:=by
 intro u F
 obtain⟨j,G,rfl⟩:=List.getElem_of_mem F
 have C:j<c.length:=by omega
 obtain⟨L,k,hr⟩:=D.at (List.getElem?_eq_getElem C)
 simp[List.getElem?_eq_getElem G] at k
 rw[k];exact Aad hr
structure Yield (P:Program) (w:World) (sz:Nat) (vx:Value) (n:Nat) (us:List Value):Prop where
 len:∀ w':World,(Builtin.lenOf vx).run P w'=.ok n w'
 cells:∀ (w':World) (m:Nat),(∀ a,w'.cell? a=w.cell? a)→m≤n→(Builtin.firstCells sz m vx).run P w'=.ok (us.take (m*sz)).toArray w'
 length:us.length=n*sz
theorem Ath {sz:Nat} {x:AV} {vx:Value} {q:LA×Nat×Bool} (S:SimH J β h w) (hl:Looks g h) (F:A17 g sz x=some q) (G:Rep J β h w x vx) :
  ∃ us:List Value,Yield P w sz vx q.2.1 us∧q.1.length=us.length∧RepCs (J q.2.2) w q.1 (fun j=>us[j]?) 0:=by
 have ofSlice:∀ (a:Addr) (n cap:Nat) (us:List Value),us.length=n*sz→(∀ j u,us[j]?=some u→w.cell? (a.add j)=some u)→Yield P w sz (.slice (some a) n cap) n us:=fun a n cap us C hu =>
  ⟨fun _=>rfl,fun w' m D hm=>by
   have hle:m*sz≤n*sz:=Nat.mul_le_mul_right _ hm
   refine run_firstCells_some (P:=P) w' sz m a n cap (us.take (m*sz)) (by simp;omega) (fun j v U=>?_)
   rw[D]
   rw[List.getElem?_take] at U
   split at U
   ·exact hu j v U
   ·simp at U,C⟩
 have ofEmpty:∀ (A:Option Addr) (cap:Nat),Yield P w sz (.slice A 0 cap) 0 []:=fun A cap =>
  ⟨fun _=>rfl,fun w' m D hm=>by
   have:m=0:=by omega
   subst this
   cases A with
   | none=>simp[run_firstCells_none]
   | some a=>have:=run_firstCells_some (P:=P) w' sz 0 a 0 cap [] (by simp) (fun j v U=>by simp at U);simpa using this,by simp⟩
 unfold A17 at F
 split at F
 ·simp at F;subst F;rw[Rep] at G;subst G
  exact⟨[],ofEmpty _ _,rfl,by simp[RepCs]⟩
 ·rename_i c n sz' tight org
  obtain⟨D,L⟩:=uc F
  have he':sz'=sz:=by simp at D;exact D.symm
  subst he'
  simp at L;subst L
  rw[Rep,RepC] at G
  obtain⟨C,A,cap,rfl,V,ht,hA⟩:=G
  rcases hA with rfl | ⟨a,rfl,Y,hc⟩
  ·have:c=[]:=by simpa using C
   subst this
   exact⟨[],ofEmpty _ _,rfl,by simp[RepCs]⟩
  ·obtain⟨us,I,h3,h4⟩:=hc.list
   exact⟨us,ofSlice a n cap us (by rw[I,C]) h3,I.symm,h4⟩
 ·rename_i b off n
  obtain⟨y,hy,L⟩:=ub F
  obtain⟨D,I⟩:=uc L
  obtain⟨hb,hd⟩:=Pj hl hy
  simp at D I
  obtain⟨hp,D⟩:=D
  subst I;subst D
  rw[Rep] at G
  obtain⟨x,A,cap,⟨M,hmp⟩,rfl,V,hr⟩:=G
  rw[hb] at M;simp at M;subst M
  rcases hr with hr | ⟨kk,o,rfl,hr⟩
  ·have:n=0:=by omega
   subst this
   exact⟨[],ofEmpty _ _,by simp,by simp[RepCs]⟩
  ·rcases hr with hr | ⟨r1,r2,r3⟩
   ·simp[hd] at hr
   ·rcases S.blk b y hb hd hmp with⟨hn,_⟩ | ⟨k',o',cs,ty,fr,T,g1,g2,g3,g4,g5,g6⟩
    ·rw[r1] at hn;simp at hn
    ·rw[r1] at T;simp at T;obtain⟨rfl,rfl⟩:=T
     obtain⟨us,I,h3,h4⟩:=(((g4.1 hp).drop off).take (n*y.sz)).list
     have C:us.length=n*y.sz:=by rw[I];simp;omega
     refine⟨us,ofSlice _ n cap us C (fun j u Y=>?_),I.symm,h4⟩
     have:=h3 j u Y
     rw[Addr.add_mid,Ya g1,Nat.add_assoc];exact this
 ·rename_i s
  obtain⟨D,L⟩:=uc F
  simp at D L
  subst D;subst L
  rw[Rep] at G;subst G
  refine⟨s.map fun b=>.int .u8 (b.toNat:Int),⟨fun _=>rfl,fun w' m _ hm=>?_,by simp⟩,by simp,?_⟩
  ·simp[Builtin.firstCells]
  ·rw[Dl]
   intro j x Y
   simp at Y
   obtain⟨b,hb,rfl⟩:=Y
   exact⟨_,by simp[hb];rfl,by rw[RepC]⟩
 ·simp at F
theorem RV {G:TypeId} {sz:Nat} {x:AV} {vx:Value} {k:LA×Nat×Bool→O R} (S:SimH J β h w) (I:Looks g h) (F:ki P G g sz x k=some r) (L:Rep J β h w x vx) :
  ∃ (q:LA×Nat×Bool) (us:List Value),k q=some r∧Yield P w sz vx q.2.1 us∧q.1.length=us.length∧RepCs (J q.2.2) w q.1 (fun j=>us[j]?) 0:=by
 unfold ki at F
 obtain⟨q,hq,M⟩:=ub F
 obtain⟨us,Y,C,D⟩:=Ath (P:=P) S I hq L
 obtain⟨o,T,U⟩:=iD M D
 exact⟨_,us,T,Y,C,U⟩
end
end Gx

namespace Gx
open Go
theorem gV {a b:Nat} (h:a≠b):Nat.beq a b=false:=by
 cases k:Nat.beq a b with
 | false=>rfl
 | true=>exact absurd (Nat.eq_of_beq_eq_true k) h
theorem Z8 {a b:Nat} (h:Nat.beq a b=false):a≠b:=fun e=>by subst e;rw[Nat.beq_refl] at h;cases h
theorem Ai:∀ (h:Am) (b:Nat) (y:Blk) (c:Nat),Au (G2 h b y) c=if c=b then some y else Au h c
 | [],b,y,c=>by
  by_cases e:c=b
  ·subst e;simp[G2,Au]
  ·have:Nat.beq b c=false:=gV (fun e'=>e e'.symm)
   simp[G2,Au,e,this]
 | (i,x)::r,b,y,c=>by
  rw[G2]
  cases D:Nat.beq i b with
  | true =>
   have k:i=b:=by simpa using D
   subst k
   by_cases e:c=i
   ·subst e;simp[Au]
   ·have:Nat.beq i c=false:=gV (fun e'=>e e'.symm)
    simp[Au,e,this]
  | false =>
   have k:i≠b:=Z8 D
   cases G:Nat.blt b i with
   | true =>
    by_cases e:c=b
    ·subst e;simp[Au]
    ·have:Nat.beq b c=false:=gV (fun e'=>e e'.symm)
     simp[Au,e,this]
   | false =>
    simp only[cond_false]
    rw[Au]
    cases F:Nat.beq i c with
    | true =>
     have C:i=c:=by simpa using F
     subst C
     simp[Au,k]
    | false=>simp[Au,F,Ai r b y c]
theorem Pk:∀ (h:Hl) (b:Nat) (y:AV) (c:Nat),Gv (kg h b y) c=if c=b then y else Gv h c
 | [],b,y,c=>by
  by_cases e:c=b
  ·subst e;simp[kg,Gv]
  ·have:Nat.beq b c=false:=gV (fun e'=>e e'.symm)
   simp[kg,Gv,e,this]
 | (i,x)::r,b,y,c=>by
  rw[kg]
  cases D:Nat.beq i b with
  | true =>
   have k:i=b:=by simpa using D
   subst k
   by_cases e:c=i
   ·subst e;simp[Gv]
   ·have:Nat.beq i c=false:=gV (fun e'=>e e'.symm)
    simp[Gv,e,this]
  | false =>
   have k:i≠b:=Z8 D
   cases G:Nat.blt b i with
   | true =>
    by_cases e:c=b
    ·subst e;simp[Gv]
    ·have:Nat.beq b c=false:=gV (fun e'=>e e'.symm)
     simp[Gv,e,this]
   | false =>
    simp only[cond_false]
    rw[Gv]
    cases F:Nat.beq i c with
    | true =>
     have C:i=c:=by simpa using F
     subst C
     simp[Gv,k]
    | false=>simp[Gv,F,Pk r b y c]
def Ati (β:C1) (h:Am) (k:Nat):Prop:=∃ b x o,Au h b=some x∧x.dead=false∧x.sealed=false∧β b=some (k,o)
structure Step (J:Bool→Nat→Prop) (β:C1) (h:Am) (w:World) (J':Bool→Nat→Prop) (β':C1) (h':Am) (w':World):Prop where
 ext:Ext J β h w J' β' h' w'
 sim:SimH J' β' h' w'
 os:w'.os=w.os
 tape:w'.tape=w.tape
 output:w'.output=w.output
 size:w.heap.size≤w'.heap.size
 frame:∀ k,k<w.heap.size→¬ Ati β h k→w'.heap[k]?=w.heap[k]?
 wr:∀ k,Ati β' h' k→k<w.heap.size→Ati β h k
 jup:∀ o k,J' o k→J o k∨Ati β h k∨w.heap.size≤k
section
variable {J J' J'':Bool→Nat→Prop} {β β' β'':C1} {h h' h'':Am} {w w' w'':World}
theorem Ext.refl:Ext J β h w J β h w:=⟨fun _ _ k=>k,fun _ _ _=>rfl,fun b x C=>⟨x,⟨C,rfl⟩,by cases D:x.dead<;>simp⟩,fun _ _ _ _=>Nat.le_refl _⟩
theorem Ext.trans (A:Ext J β h w J' β' h' w') (B:Ext J' β' h' w' J'' β'' h'' w'') (hs:∀ b k o,β b=some (k,o)→Bs w k≤Bs w'' k):Ext J β h w J'' β'' h'' w'' where
 jsub o k D:=B.jsub o k (A.jsub o k D)
 keep o k D:=(B.keep o k (A.jsub o k D)).trans (A.keep o k D)
 blk b x I:=by
  obtain⟨x',⟨L,m1⟩,F⟩:=A.blk b x I
  obtain⟨x'',⟨M,m3⟩,C⟩:=B.blk b x' L
  refine⟨x'',⟨M,m3.trans m1⟩,?_⟩
  rcases C with C | ⟨C,S,T,U⟩
  ·exact .inl C
  ·rcases F with F | ⟨V,Y,g3,g4⟩
   ·simp[C] at F
   ·exact .inr ⟨V,S.trans Y,T.trans g3,fun G=>(U (m1.trans G)).trans (g4 G)⟩
 size:=hs
theorem Step.refl (S:SimH J β h w):Step J β h w J β h w:=⟨Ext.refl,S,rfl,rfl,rfl,Nat.le_refl _,fun _ _ _=>rfl,fun _ k _=>k,fun _ _ C=>.inl C⟩
theorem Step.trans (A:Step J β h w J' β' h' w') (B:Step J' β' h' w' J'' β'' h'' w'') (hs:∀ b k o,β b=some (k,o)→Bs w k≤Bs w'' k):Step J β h w J'' β'' h'' w'' where
 ext:=A.ext.trans B.ext hs
 sim:=B.sim
 os:=B.os.trans A.os
 tape:=B.tape.trans A.tape
 output:=B.output.trans A.output
 size:=Nat.le_trans A.size B.size
 frame k C F:=(B.frame k (Nat.lt_of_lt_of_le C A.size) (fun G=>F (A.wr k G C))).trans (A.frame k C F)
 wr k F C:=A.wr k (B.wr k F (Nat.lt_of_lt_of_le C A.size)) C
 jup o k I:=by
  rcases B.jup o k I with D | D | D
  ·exact A.jup o k D
  ·by_cases C:k<w.heap.size
   ·exact .inr (.inl (A.wr k D C))
   ·exact .inr (.inr (by omega))
  ·exact .inr (.inr (Nat.le_trans A.size D))
theorem CellsRep.ext (E:Ext J β h w J' β' h' w') {x:Blk} {rd:Nat→Option Value} (C:CellsRep J β h w x rd):CellsRep J' β' h' w' x rd :=
 ⟨fun k=>RepCs.keep (E.jsub _) (E.keep _) (fun _=>rfl) (C.1 k),fun k j c D=>by
  obtain⟨u,F,G,I⟩:=C.2 k j c D
  exact⟨u,F,Rep.ext E G,I⟩⟩
theorem Hn {k:Nat} {cs:Array Value} {ty:TypeId} {fr:Nat×Nat} (C:w.heap[k]?=some (.cells cs ty fr)):Bs w k=cs.size:=by simp[Bs,C]
theorem f8 {k:Nat} {o:Obj} (F:w.heap[k]?=some o):k<w.heap.size:=by
 rcases Nat.lt_or_ge k w.heap.size with C | D
 ·exact C
 ·rw[Array.getElem?_eq_none D] at F;cases F
theorem MapRep.keep {b:Nat} {x:Blk} (M:MapRep J β w b x) (D:β' b=β b) (F:∀ k o,β b=some (k,o)→w'.heap[k]?=w.heap[k]?) (G:∀ g k o,β b=some (k,o)→J' g k→J g k):MapRep J' β' w' b x:=by
 obtain⟨I,L,k,es,clk,C,S,T,U⟩:=M
 exact⟨I,L,k,es,clk,by rw[D];exact C,by rw[F k 0 C];exact S,T,fun g V=>U g (G g k 0 C V)⟩
theorem Step.drew (S:SimH J β h w):Step J β h w J β h w.drew where
 ext:=⟨fun _ _ C=>C,fun _ _ _=>rfl,fun b x D=>⟨x,⟨D,rfl⟩,by cases F:x.dead<;>simp⟩,fun _ _ _ _=>Nat.le_refl _⟩
 sim:=by
  have E:Ext J β h w J β h w.drew:=⟨fun _ _ C=>C,fun _ _ _=>rfl,fun b x D=>⟨x,⟨D,rfl⟩,by cases F:x.dead<;>simp⟩,fun _ _ _ _=>Nat.le_refl _⟩
  refine⟨S.jlt,S.jft,fun b x D F G=>?_,fun b x D F G=>(S.mblk b x D F G).keep rfl (fun _ _ _=>rfl) (fun _ _ _ _ C=>C),S.sep⟩
  rcases S.blk b x D F G with I | ⟨k,o,cs,ty,fr,I,L,M,T,U,V⟩
  ·exact .inl I
  ·exact .inr ⟨k,o,cs,ty,fr,I,L,M,T,U.ext E,V⟩
 os:=rfl
 tape:=rfl
 output:=rfl
 size:=Nat.le_refl _
 frame _ _ _:=rfl
 wr _ G _:=G
 jup _ _ C:=.inl C
theorem D0 (w:World) (o:Obj) {k:Nat} (C:k<w.heap.size):(w.alloc o).heap[k]?=w.heap[k]?:=by
 show(w.heap.push o)[k]?=_
 rw[Array.getElem?_push,if_neg (by omega)]
theorem Zp (S:SimH J β h w) {b:Nat} {x:Blk} {k o:Nat} (G:Au h b=some x) (I:x.dead=false) (D:β b=some (k,o)):k<w.heap.size:=by
 cases L:x.mp with
 | false =>
  rcases S.blk b x G I L with⟨hn,_⟩ | ⟨M,o',cs,ty,fr,C,F,_⟩
  ·rw[D] at hn;simp at hn
  ·rw[D] at C;simp at C;obtain⟨rfl,rfl⟩:=C;exact f8 F
 | true =>
  obtain⟨_,_,M,es,clk,C,F,_⟩:=S.mblk b x G I L
  rw[D] at C;simp at C;obtain⟨rfl,_⟩:=C;exact f8 F
theorem Step.new (S:SimH J β h w) {d:Nat} {x:Blk} {cs:Array Value} {ty:TypeId} {fr:Nat×Nat} (hn:Au h d=none) (hxd:x.dead=false) (hxs:x.sealed=false)
  (hfr:FrOk cs.size fr) (hlen:x.cells.length≤cs.size) (hc:CellsRep J β h w x (fun j=>cs[j]?)) (hxm:x.mp=false:=by rfl) :
  Step J β h w J (fun b=>if b=d then some (w.heap.size,0) else β b) (G2 h d x) (w.alloc (.cells cs ty fr)):=by
 have ne:∀ {b y},Au h b=some y→b≠d:=fun C e=>by subst e;rw[hn] at C;cases C
 have E:Ext J β h w J (fun b=>if b=d then some (w.heap.size,0) else β b) (G2 h d x) (w.alloc (.cells cs ty fr)):=by
  refine⟨fun _ _ F=>F,fun o k F=>D0 w _ (S.jlt o k F),fun b y C=>⟨y,⟨by rw[Ai,if_neg (ne C)];exact C,rfl⟩,?_⟩,fun b k o D=>?_⟩
  ·cases L:y.dead
   ·exact .inr ⟨rfl,by simp[ne C],rfl,fun _=>rfl⟩
   ·exact .inl rfl
  ·by_cases M:k<w.heap.size
   ·simp[Bs,D0 w _ M]
   ·simp[Bs,Array.getElem?_eq_none (Nat.le_of_not_lt M)]
 have T:(w.alloc (.cells cs ty fr)).heap[w.heap.size]?=some (.cells cs ty fr):=by
  show(w.heap.push _)[_]?=_;simp
 have hsz:(w.alloc (.cells cs ty fr)).heap.size=w.heap.size+1:=by show(w.heap.push _).size=_;simp
 refine⟨E,⟨fun o k F=>by have:=S.jlt o k F;omega,S.jft,fun b y C L V=>?_,fun b y C L V=>by
   rw[Ai] at C
   by_cases e:b=d
   ·rw[if_pos e] at C;simp at C;subst C;simp[hxm] at V
   ·rw[if_neg e] at C
    exact(S.mblk b y C L V).keep (by simp[e]) (fun k o D=>D0 w _ (Zp S C L D)) (fun _ _ _ _ F=>F),?_⟩,rfl,rfl,rfl,by omega,fun k M _=>D0 w _ M,?_,fun _ _ F=>.inl F⟩
 ·rw[Ai] at C
  by_cases e:b=d
  ·subst e;simp at C;subst C
   exact .inr ⟨w.heap.size,0,cs,ty,fr,by simp,T,hfr,by omega,by simpa using hc.ext E,fun _ g F=>by have:=S.jlt g _ F;omega,fun hs=>by simp[hxs] at hs⟩
  ·rw[if_neg e] at C
   rcases S.blk b y C L V with Y | ⟨k,o,cs',ty',fr',Y,h2,h3,h4,h5,h6⟩
   ·exact .inl ⟨by simp[e,Y.1],Y.2⟩
   ·exact .inr ⟨k,o,cs',ty',fr',by simp[e,Y],by rw[D0 w _ (f8 h2)];exact h2,h3,h4,h5.ext E,h6⟩
 ·intro b b' y y' k o o' C G L U hs D I
  rw[Ai] at C G
  by_cases e:b=d<;>by_cases e':b'=d
  ·rw[e,e']
  ·rw[if_neg e'] at G
   simp[e] at D;simp[e'] at I
   have:=Zp S G U I;omega
  ·rw[if_neg e] at C
   simp[e'] at I;simp[e] at D
   have:=Zp S C L D;omega
  ·rw[if_neg e] at C;rw[if_neg e'] at G
   simp[e] at D;simp[e'] at I
   exact S.sep b b' y y' k o o' C G L U hs D I
 ·rintro k ⟨b,y,o,C,L,hs,D⟩ M
  rw[Ai] at C
  by_cases e:b=d
  ·simp[e] at D;omega
  ·rw[if_neg e] at C;simp[e] at D
   exact⟨b,y,o,C,L,hs,D⟩
theorem Step.newNone (S:SimH J β h w) {d:Nat} {x:Blk} (hn:Au h d=none) (hc:x.cells=[]) (U:x.mp=false:=by rfl) :
  Step J β h w J (fun b=>if b=d then none else β b) (G2 h d x) w:=by
 have ne:∀ {b y},Au h b=some y→b≠d:=fun C e=>by subst e;rw[hn] at C;cases C
 have E:Ext J β h w J (fun b=>if b=d then none else β b) (G2 h d x) w:=by
  refine⟨fun _ _ L=>L,fun o k L=>rfl,fun b y C=>⟨y,⟨by rw[Ai,if_neg (ne C)];exact C,rfl⟩,?_⟩,fun b k o D=>Nat.le_refl _⟩
  cases F:y.dead
  ·exact .inr ⟨rfl,by simp[ne C],rfl,fun _=>rfl⟩
  ·exact .inl rfl
 refine⟨E,⟨S.jlt,S.jft,fun b y C F M=>?_,fun b y C F M=>by
   rw[Ai] at C
   by_cases e:b=d
   ·rw[if_pos e] at C;simp at C;subst C;simp[U] at M
   ·rw[if_neg e] at C
    exact(S.mblk b y C F M).keep (by simp[e]) (fun k o D=>rfl) (fun _ _ _ _ L=>L),?_⟩,rfl,rfl,rfl,Nat.le_refl _,fun k hk _=>rfl,?_,fun _ _ L=>.inl L⟩
 ·rw[Ai] at C
  by_cases e:b=d
  ·subst e;simp at C;subst C
   exact .inl ⟨by simp,hc⟩
  ·rw[if_neg e] at C
   rcases S.blk b y C F M with T | ⟨k,o,V,Y,fr',T,h2,h3,h4,h5,h6⟩
   ·exact .inl ⟨by simp[e,T.1],T.2⟩
   ·exact .inr ⟨k,o,V,Y,fr',by simp[e,T],h2,h3,h4,h5.ext E,h6⟩
 ·intro b b' y y' k o o' C G F hd' hs D I
  rw[Ai] at C G
  by_cases e:b=d
  ·simp[e] at D
  ·by_cases e':b'=d
   ·simp[e'] at I
   ·rw[if_neg e] at C;rw[if_neg e'] at G
    simp[e] at D;simp[e'] at I
    exact S.sep b b' y y' k o o' C G F hd' hs D I
 ·rintro k ⟨b,y,o,C,F,hs,D⟩ hk
  rw[Ai] at C
  by_cases e:b=d
  ·simp[e] at D
  ·rw[if_neg e] at C;simp[e] at D
   exact⟨b,y,o,C,F,hs,D⟩
theorem Step.newMap (S:SimH J β h w) {d:Nat} {x:Blk} (hn:Au h d=none) (hxd:x.dead=false) (hxs:x.sealed=false) (hxp:x.pure=true) (hxc:x.cells=[]) (hxm:x.mp=true) :
  Step J β h w J (fun b=>if b=d then some (w.heap.size,0) else β b) (G2 h d x) (w.alloc (.map #[] 0)):=by
 have ne:∀ {b y},Au h b=some y→b≠d:=fun C e=>by subst e;rw[hn] at C;cases C
 have E:Ext J β h w J (fun b=>if b=d then some (w.heap.size,0) else β b) (G2 h d x) (w.alloc (.map #[] 0)):=by
  refine⟨fun _ _ F=>F,fun o k F=>D0 w _ (S.jlt o k F),fun b y C=>⟨y,⟨by rw[Ai,if_neg (ne C)];exact C,rfl⟩,?_⟩,fun b k o D=>?_⟩
  ·cases L:y.dead
   ·exact .inr ⟨rfl,by simp[ne C],rfl,fun _=>rfl⟩
   ·exact .inl rfl
  ·by_cases M:k<w.heap.size
   ·simp[Bs,D0 w _ M]
   ·simp[Bs,Array.getElem?_eq_none (Nat.le_of_not_lt M)]
 have T:(w.alloc (.map #[] 0)).heap[w.heap.size]?=some (.map #[] 0):=by
  show(w.heap.push _)[_]?=_;simp
 have hsz:(w.alloc (.map #[] 0)).heap.size=w.heap.size+1:=by show(w.heap.push _).size=_;simp
 refine⟨E,⟨fun o k F=>by have:=S.jlt o k F;omega,S.jft,fun b y C L V=>?_,fun b y C L V=>?_,?_⟩,rfl,rfl,rfl,by omega,fun k M _=>D0 w _ M,?_,fun _ _ F=>.inl F⟩
 ·rw[Ai] at C
  by_cases e:b=d
  ·rw[if_pos e] at C;simp at C;subst C;simp[hxm] at V
  ·rw[if_neg e] at C
   rcases S.blk b y C L V with Y | ⟨k,o,cs',ty',fr',Y,h2,h3,h4,h5,h6⟩
   ·exact .inl ⟨by simp[e,Y.1],Y.2⟩
   ·exact .inr ⟨k,o,cs',ty',fr',by simp[e,Y],by rw[D0 w _ (f8 h2)];exact h2,h3,h4,h5.ext E,h6⟩
 ·rw[Ai] at C
  by_cases e:b=d
  ·rw[if_pos e] at C;simp at C;subst C
   exact⟨hxp,hxs,w.heap.size,#[],0,by simp[e],T,⟨[],by simp[hxc],by simp⟩,fun g F=>by have:=S.jlt g _ F;omega⟩
  ·rw[if_neg e] at C
   exact(S.mblk b y C L V).keep (by simp[e]) (fun k o D=>D0 w _ (Zp S C L D)) (fun _ _ _ _ F=>F)
 ·intro b b' y y' k o o' C G L U hs D I
  rw[Ai] at C G
  by_cases e:b=d<;>by_cases e':b'=d
  ·rw[e,e']
  ·rw[if_neg e'] at G
   simp[e] at D;simp[e'] at I
   have:=Zp S G U I;omega
  ·rw[if_neg e] at C
   simp[e'] at I;simp[e] at D
   have:=Zp S C L D;omega
  ·rw[if_neg e] at C;rw[if_neg e'] at G
   simp[e] at D;simp[e'] at I
   exact S.sep b b' y y' k o o' C G L U hs D I
 ·rintro k ⟨b,y,o,C,L,hs,D⟩ M
  rw[Ai] at C
  by_cases e:b=d
  ·simp[e] at D;omega
  ·rw[if_neg e] at C;simp[e] at D
   exact⟨b,y,o,C,L,hs,D⟩
theorem Step.kill (S:SimH J β h w) {d:Nat} {x y:Blk} (hx:Au h d=some x) (G:y.dead=true) (T:y.mp=x.mp:=by rfl):Step J β h w J β (G2 h d y) w:=by
 have E:Ext J β h w J β (G2 h d y) w:=by
  refine⟨fun _ _ I=>I,fun o k I=>rfl,fun b z C=>?_,fun b k o L=>Nat.le_refl _⟩
  by_cases e:b=d
  ·subst e;rw[hx] at C;simp at C;subst C;exact⟨y,⟨by rw[Ai,if_pos rfl],T⟩,.inl G⟩
  ·refine⟨z,⟨by rw[Ai,if_neg e];exact C,rfl⟩,?_⟩
   cases F:z.dead
   ·exact .inr ⟨rfl,rfl,rfl,fun _=>rfl⟩
   ·exact .inl rfl
 refine⟨E,⟨S.jlt,S.jft,fun b z C F U=>?_,fun b z C F U=>by
   rw[Ai] at C
   by_cases e:b=d
   ·rw[if_pos e] at C;simp at C;subst C;simp[G] at F
   ·rw[if_neg e] at C
    exact(S.mblk b z C F U).keep rfl (fun k o L=>rfl) (fun _ _ _ _ I=>I),?_⟩,rfl,rfl,rfl,Nat.le_refl _,fun k hk _=>rfl,?_,fun _ _ I=>.inl I⟩
 ·rw[Ai] at C
  by_cases e:b=d
  ·rw[if_pos e] at C;simp at C;subst C;simp[G] at F
  ·rw[if_neg e] at C
   rcases S.blk b z C F U with V | ⟨k,o,Y,ty',fr',V,h2,h3,h4,h5,h6⟩
   ·exact .inl V
   ·exact .inr ⟨k,o,Y,ty',fr',V,h2,h3,h4,h5.ext E,h6⟩
 ·intro b b' z z' k o o' C D F M hs L hβ'
  rw[Ai] at C D
  by_cases e:b=d
  ·rw[if_pos e] at C;simp at C;subst C;simp[G] at F
  ·by_cases e':b'=d
   ·rw[if_pos e'] at D;simp at D;subst D;simp[G] at M
   ·rw[if_neg e] at C;rw[if_neg e'] at D
    exact S.sep b b' z z' k o o' C D F M hs L hβ'
 ·rintro k ⟨b,z,o,C,F,hs,L⟩ hk
  rw[Ai] at C
  by_cases e:b=d
  ·rw[if_pos e] at C;simp at C;subst C;simp[G] at F
  ·rw[if_neg e] at C
   exact⟨b,z,o,C,F,hs,L⟩
end
end Gx

namespace Gx
open Go
section
variable {J J' J'':Bool→Nat→Prop} {β β' β'':C1} {h h' h'':Am} {w w' w'':World}
theorem Step.shutB (S:SimH J β h w) {d:Nat} {x:Blk} (Y:Au h d=some x) (L:x.dead=false) (hxm:x.mp=false) :
  Step J β h w (fun o k=>J o k∨∃ o',β d=some (k,o')∧(x.taint=true→o=true)) β (G2 h d { x with sealed:=true }) w:=by
 have E:Ext J β h w (fun o k=>J o k∨∃ o',β d=some (k,o')∧(x.taint=true→o=true)) β (G2 h d { x with sealed:=true }) w:=by
  refine⟨fun _ _ F=>.inl F,fun o k F=>rfl,fun b z C=>?_,fun b k o D=>Nat.le_refl _⟩
  by_cases e:b=d
  ·subst e;rw[Y] at C;simp at C;subst C
   exact⟨{ x with sealed:=true },⟨by rw[Ai,if_pos rfl],rfl⟩,.inr ⟨L,rfl,rfl,fun _=>rfl⟩⟩
  ·refine⟨z,⟨by rw[Ai,if_neg e];exact C,rfl⟩,?_⟩
   cases L:z.dead
   ·exact .inr ⟨rfl,rfl,rfl,fun _=>rfl⟩
   ·exact .inl rfl
 refine⟨E,⟨?_,?_,fun b z C I hm=>?_,fun b z C I hm=>by
   rw[Ai] at C
   by_cases e:b=d
   ·rw[if_pos e] at C;simp at C;subst C;simp[hxm] at hm
   ·rw[if_neg e] at C
    have M:=S.mblk b z C I hm
    refine M.keep rfl (fun k o D=>rfl) (fun g k o D F=>?_)
    rcases F with F | ⟨o',hβ',_⟩
    ·exact F
    ·exact absurd (S.sep b d z x k o o' C Y I L M.2.1 D hβ') e,?_⟩,rfl,rfl,rfl,Nat.le_refl _,fun k hk _=>rfl,?_,?_⟩
 ·rintro o k (F | ⟨o',D,_⟩)
  ·exact S.jlt o k F
  ·exact Zp S Y L D
 ·rintro k (F | ⟨o',D,ht⟩)
  ·exact .inl (S.jft k F)
  ·exact .inr ⟨o',D,fun _=>rfl⟩
 ·rw[Ai] at C
  by_cases e:b=d
  ·rw[if_pos e] at C;simp at C;subst C;subst e
   rcases S.blk b x Y L hxm with G | ⟨k,o,T,U,V,G,h2,h3,h4,h5,h6,h7⟩
   ·exact .inl G
   ·exact .inr ⟨k,o,T,U,V,G,h2,h3,h4,h5.ext E,fun hs=>by simp at hs,fun _=>.inr ⟨o,G,id⟩⟩
  ·rw[if_neg e] at C
   rcases S.blk b z C I hm with G | ⟨k,o,T,U,V,G,h2,h3,h4,h5,h6,h7⟩
   ·exact .inl G
   ·refine .inr ⟨k,o,T,U,V,G,h2,h3,h4,h5.ext E,fun hs g F=>?_,fun hs=>.inl (h7 hs)⟩
    rcases F with F | ⟨o',D,_⟩
    ·exact h6 hs g F
    ·exact e (S.sep b d z x k o o' C Y I L hs G D)
 ·intro b b' z z' k o o' C hb' hd1 hd2 hs D hβ'
  have get:∀ {c y},Au (G2 h d { x with sealed:=true }) c=some y→y.dead=false→∃ y',Au h c=some y'∧y'.dead=false∧(y.sealed=false→y'.sealed=false):=by
   intro c y hc hyd
   rw[Ai] at hc
   by_cases e:c=d
   ·subst e;exact⟨x,Y,L,fun hs=>by simp at hc;subst hc;simp at hs⟩
   ·rw[if_neg e] at hc;exact⟨y,hc,hyd,id⟩
  obtain⟨y1,g1,g2,g3⟩:=get C hd1
  obtain⟨y2,g4,g5,g6⟩:=get hb' hd2
  exact S.sep b b' y1 y2 k o o' g1 g4 g2 g5 (g3 hs) D hβ'
 ·rintro k ⟨b,z,o,C,I,hs,D⟩ hk
  rw[Ai] at C
  by_cases e:b=d
  ·rw[if_pos e] at C;simp at C;subst C;simp at hs
  ·rw[if_neg e] at C
   exact⟨b,z,o,C,I,hs,D⟩
 ·rintro o k (F | ⟨o',D,ht⟩)
  ·exact .inl F
  ·cases hs:x.sealed with
   | false=>exact .inr (.inl ⟨d,x,o',Y,L,hs,D⟩)
   | true =>
    left
    rcases S.blk d x Y L hxm with⟨G,_⟩ | ⟨k',o1,T,U,V,G,h2,h3,h4,h5,h6,h7⟩
    ·rw[D] at G;simp at G
    ·rw[D] at G;simp at G;obtain⟨rfl,rfl⟩:=G
     have:=h7 hs
     cases htt:x.taint with
     | true=>rw[htt] at this;rw[ht htt];exact this
     | false =>
      rw[htt] at this
      cases o
      ·exact this
      ·exact S.jft _ this
structure OnlyBlk (w w':World) (k:Nat) (cs cs':Array Value) (ty:TypeId) (fr:Nat×Nat):Prop where
 old:w.heap[k]?=some (.cells cs ty fr)
 new:w'.heap[k]?=some (.cells cs' ty fr)
 sz:cs'.size=cs.size
 other:∀ j,j≠k→w'.heap[j]?=w.heap[j]?
 size:w'.heap.size=w.heap.size
 os:w'.os=w.os
 tape:w'.tape=w.tape
 output:w'.output=w.output
theorem OnlyBlk.setCell {k i:Nat} {cs:Array Value} {ty:TypeId} {fr:Nat×Nat} (C:w.heap[k]?=some (.cells cs ty fr)) (u:Value) :
  OnlyBlk w (w.setCell ⟨k,i,none⟩ u) k cs (cs.setIfInBounds i u) ty fr:=by
 refine⟨C,?_,by simp,fun j D=>?_,by simp[World.setCell],rfl,rfl,rfl⟩
 ·simp[World.setCell,Array.getElem?_modify,C]
 ·simp only[World.setCell,Array.getElem?_modify];rw[if_neg (fun e=>D e.symm)]
theorem OnlyBlk.setCells {k:Nat} {ty:TypeId} {fr:Nat×Nat}:∀ (us:List Value) (i:Nat) (w:World) (cs:Array Value),w.heap[k]?=some (.cells cs ty fr) →
  ∃ C,OnlyBlk w (w.setCells k i us) k cs C ty fr∧∀ j,C[j]?=if i≤j∧j<i+us.length∧j<cs.size then us[j - i]? else cs[j]?
 | [],i,w,cs,D=>⟨cs,⟨D,D,rfl,fun _ _=>rfl,rfl,rfl,rfl,rfl⟩,fun j=>by rw[if_neg (by simp;omega)]⟩
 | u::us,i,w,cs,D=>by
  have A:=OnlyBlk.setCell (i:=i) D u
  obtain⟨C,B,hB⟩:=OnlyBlk.setCells us (i+1) (w.setCell ⟨k,i,none⟩ u) _ A.new
  refine⟨C,⟨D,B.new,B.sz.trans A.sz,fun j F=>(B.other j F).trans (A.other j F),B.size.trans A.size,B.os.trans A.os,B.tape.trans A.tape,B.output.trans A.output⟩,fun j=>?_⟩
  rw[hB j]
  simp only[Array.size_setIfInBounds,List.length_cons]
  by_cases F:j=i
  ·subst F
   rw[if_neg (by omega)]
   by_cases hs:j<cs.size
   ·rw[if_pos (by omega)];simp[hs]
   ·rw[if_neg (by omega)];simp[hs]
  ·by_cases G:i+1≤j∧j<i+1+us.length∧j<cs.size
   ·rw[if_pos G,if_pos (by omega),show j - i=(j - (i+1))+1 by omega];simp
   ·rw[if_neg G,if_neg (by omega),Array.getElem?_setIfInBounds_ne (by omega)]
theorem Step.set (S:SimH J β h w) {d k o:Nat} {x x':Blk} {cs L:Array Value} {ty:TypeId} {fr:Nat×Nat} (M:Au h d=some x) (G:x.dead=false) (hs:x.sealed=false) (V:β d=some (k,o))
  (O:OnlyBlk w w' k cs L ty fr) (hd':x'.dead=false) (hs':x'.sealed=false) (hz:x'.sz=x.sz) (hl:x'.cells.length=x.cells.length) (hc:CellsRep J β h w x' (fun j=>L[o+j]?)) (hxm:x.mp=false) (I:x'.mp=x.mp:=by rfl) :
  Step J β h w J β (G2 h d x') w':=by
 obtain⟨k',o',cs0,ty0,fr0,T,h2,h3,h4,h5,h6,h7⟩:∃ k' o' cs0 ty0 fr0,β d=some (k',o')∧w.heap[k']?=some (.cells cs0 ty0 fr0) ∧
   FrOk cs0.size fr0∧o'+x.cells.length≤cs0.size∧CellsRep J β h w x (fun j=>cs0[o'+j]?)∧(x.sealed=false→∀ g,¬ J g k')∧(x.sealed=true→J x.taint k'):=by
  rcases S.blk d x M G hxm with⟨h1,_⟩ | h1
  ·rw[V] at h1;simp at h1
  ·exact h1
 rw[V] at T;simp at T;obtain⟨rfl,rfl⟩:=T
 rw[O.old] at h2;simp at h2;obtain⟨rfl,rfl,rfl⟩:=h2
 have nj:∀ g j,J g j→j≠k:=fun g j F e=>by subst e;exact h6 hs g F
 have E:Ext J β h w J β (G2 h d x') w':=by
  refine⟨fun _ _ F=>F,fun o j F=>O.other j (nj o j F),fun b z C=>?_,fun b j oo C=>?_⟩
  ·by_cases e:b=d
   ·subst e;rw[M] at C;simp at C;subst C
    exact⟨_,⟨by rw[Ai,if_pos rfl],I⟩,.inr ⟨G,rfl,hz,fun _=>hl⟩⟩
   ·refine⟨z,⟨by rw[Ai,if_neg e];exact C,rfl⟩,?_⟩
    cases G:z.dead
    ·exact .inr ⟨rfl,rfl,rfl,fun _=>rfl⟩
    ·exact .inl rfl
  ·by_cases e:j=k
   ·subst e;rw[Hn O.old,Hn O.new,O.sz];exact Nat.le_refl _
   ·simp[Bs,O.other j e]
 refine⟨E,⟨fun g j F=>by rw[O.size];exact S.jlt g j F,S.jft,fun b z C D Y=>?_,fun b z C D Y=>by
   rw[Ai] at C
   by_cases e:b=d
   ·rw[if_pos e] at C;simp at C;subst C;simp[I,hxm] at Y
   ·rw[if_neg e] at C
    exact(S.mblk b z C D Y).keep rfl (fun k2 o2 U=>O.other k2 (fun e2=>by subst e2;exact e (S.sep d b x z k2 o o2 M C G D hs V U).symm)) (fun _ _ _ _ F=>F),?_⟩,O.os,O.tape,O.output,by rw[O.size];exact Nat.le_refl _,fun j F Y=>?_,?_,fun _ _ F=>.inl F⟩
 ·rw[Ai] at C
  by_cases e:b=d
  ·rw[if_pos e] at C;simp at C;subst C;subst e
   refine .inr ⟨k,o,L,ty,fr,V,O.new,?_,by rw[hl,O.sz];exact h4,hc.ext E,fun _=>h6 hs,fun hh=>by simp[hs'] at hh⟩
   rw[O.sz];exact h3
  ·rw[if_neg e] at C
   rcases S.blk b z C D Y with g1 | ⟨k2,o2,cs2,ty2,fr2,g1,g2,g3,g4,g5,g6,g7⟩
   ·exact .inl g1
   ·have hne:k2≠k:=fun e2=>by
     subst e2;exact e (S.sep d b x z k2 o o2 M C G D hs V g1).symm
    exact .inr ⟨k2,o2,cs2,ty2,fr2,g1,by rw[O.other k2 hne];exact g2,g3,g4,g5.ext E,g6,g7⟩
 ·intro b b' z z' kk oo oo' C hb' hd1 hd2 hs1 hβ1 U
  have get:∀ {c y},Au (G2 h d x') c=some y→y.dead=false→∃ y',Au h c=some y'∧y'.dead=false∧(y.sealed=false→y'.sealed=false):=by
   intro c y hc hyd
   rw[Ai] at hc
   by_cases e:c=d
   ·subst e;exact⟨x,M,G,fun _=>hs⟩
   ·rw[if_neg e] at hc;exact⟨y,hc,hyd,id⟩
  obtain⟨y1,g1,g2,g3⟩:=get C hd1
  obtain⟨y2,g4,g5,g6⟩:=get hb' hd2
  exact S.sep b b' y1 y2 kk oo oo' g1 g4 g2 g5 (g3 hs1) hβ1 U
 ·exact O.other j (fun e=>Y (by subst e;exact⟨d,x,o,M,G,hs,V⟩))
 ·rintro j ⟨b,z,oo,C,D,hsz,hβz⟩ F
  rw[Ai] at C
  by_cases e:b=d
  ·subst e;exact⟨b,x,oo,M,G,hs,hβz⟩
  ·rw[if_neg e] at C
   exact⟨b,z,oo,C,D,hsz,hβz⟩
theorem Step.setMap (S:SimH J β h w) {d k:Nat} {x x':Blk} {es L:Array MapEntry} {clk clk':Nat} (V:Au h d=some x) (T:x.dead=false) (Y:x.mp=true) (hβ:β d=some (k,0))
  (old:w.heap[k]?=some (.map es clk)) (new:w'.heap[k]?=some (.map L clk')) (other:∀ j,j≠k→w'.heap[j]?=w.heap[j]?) (size:w'.heap.size=w.heap.size) (os:w'.os=w.os) (tape:w'.tape=w.tape) (output:w'.output=w.output)
  (hc:A9t x'.cells L) (hx'd:x'.dead=false) (hx's:x'.sealed=false) (hx'p:x'.pure=true) (hx'z:x'.sz=x.sz) (I:x'.mp=true):Step J β h w J β (G2 h d x') w':=by
 have M:=S.mblk d x V T Y
 have nJ:∀ g,¬ J g k:=by
  obtain⟨_,_,k',_,_,h1,_,_,h2⟩:=M
  rw[hβ] at h1;simp at h1;subst h1;exact h2
 have nj:∀ g j,J g j→j≠k:=fun g j D e=>by subst e;exact nJ g D
 have E:Ext J β h w J β (G2 h d x') w':=by
  refine⟨fun _ _ D=>D,fun o j D=>other j (nj o j D),fun b z C=>?_,fun b j oo C=>?_⟩
  ·by_cases e:b=d
   ·subst e;rw[V] at C;simp at C;subst C
    exact⟨_,⟨by rw[Ai,if_pos rfl],by rw[I,Y]⟩,.inr ⟨T,rfl,hx'z,fun h=>by simp[Y] at h⟩⟩
   ·refine⟨z,⟨by rw[Ai,if_neg e];exact C,rfl⟩,?_⟩
    cases T:z.dead
    ·exact .inr ⟨rfl,rfl,rfl,fun _=>rfl⟩
    ·exact .inl rfl
  ·by_cases e:j=k
   ·subst e;simp[Bs,old,new]
   ·simp[Bs,other j e]
 refine⟨E,⟨fun g j D=>by rw[size];exact S.jlt g j D,S.jft,fun b z C F G=>?_,fun b z C F G=>?_,?_⟩,os,tape,output,by rw[size];exact Nat.le_refl _,fun j D Y=>?_,?_,fun _ _ D=>.inl D⟩
 ·rw[Ai] at C
  by_cases e:b=d
  ·rw[if_pos e] at C;simp at C;subst C;simp[I] at G
  ·rw[if_neg e] at C
   rcases S.blk b z C F G with g1 | ⟨k2,o2,cs2,ty2,fr2,g1,g2,g3,g4,g5,g6,g7⟩
   ·exact .inl g1
   ·have hne:k2≠k:=fun e2=>by
     subst e2;rw[old] at g2;cases g2
    exact .inr ⟨k2,o2,cs2,ty2,fr2,g1,by rw[other k2 hne];exact g2,g3,g4,g5.ext E,g6,g7⟩
 ·rw[Ai] at C
  by_cases e:b=d
  ·rw[if_pos e] at C;simp at C;subst C;subst e
   exact⟨hx'p,hx's,k,L,clk',hβ,new,hc,nJ⟩
  ·rw[if_neg e] at C
   exact(S.mblk b z C F G).keep rfl (fun k2 o2 U=>other k2 (fun e2=>by subst e2;exact e (S.sep d b x z k2 0 o2 V C T F M.2.1 hβ U).symm)) (fun _ _ _ _ D=>D)
 ·intro b b' z z' kk oo oo' C hb' hd1 hd2 hs1 hβ1 U
  have get:∀ {c y},Au (G2 h d x') c=some y→y.dead=false→∃ y',Au h c=some y'∧y'.dead=false∧(y.sealed=false→y'.sealed=false):=by
   intro c y hc hyd
   rw[Ai] at hc
   by_cases e:c=d
   ·subst e;exact⟨x,V,T,fun _=>M.2.1⟩
   ·rw[if_neg e] at hc;exact⟨y,hc,hyd,id⟩
  obtain⟨y1,g1,g2,g3⟩:=get C hd1
  obtain⟨y2,g4,g5,g6⟩:=get hb' hd2
  exact S.sep b b' y1 y2 kk oo oo' g1 g4 g2 g5 (g3 hs1) hβ1 U
 ·exact other j (fun e=>Y (by subst e;exact⟨d,x,0,V,T,M.2.1,hβ⟩))
 ·rintro j ⟨b,z,oo,C,F,hsz,hβz⟩ D
  rw[Ai] at C
  by_cases e:b=d
  ·subst e;exact⟨b,x,oo,V,T,M.2.1,hβz⟩
  ·rw[if_neg e] at C
   exact⟨b,z,oo,C,F,hsz,hβz⟩
theorem Step.mark (S:SimH J β h w) {d k o:Nat} {x:Blk} {cs:Array Value} {ty:TypeId} {fr I:Nat×Nat} (T:Au h d=some x) (U:x.dead=false) (hs:x.sealed=false) (V:β d=some (k,o))
  (old:w.heap[k]?=some (.cells cs ty fr)) (new:w'.heap[k]?=some (.cells cs ty I)) (hf:FrOk cs.size I) (other:∀ j,j≠k→w'.heap[j]?=w.heap[j]?) (size:w'.heap.size=w.heap.size) (os:w'.os=w.os) (tape:w'.tape=w.tape) (output:w'.output=w.output) (M:x.mp=false) :
  Step J β h w J β h w':=by
 have nj:∀ g j,J g j→j≠k:=fun g j C e=>by
  subst e
  rcases S.blk d x T U M with⟨h1,_⟩ | ⟨k',o',cs0,ty0,fr0,L,h2,h3,h4,h5,h6,h7⟩
  ·rw[V] at h1;simp at h1
  ·rw[V] at L;simp at L;obtain⟨rfl,rfl⟩:=L
   exact h6 hs g C
 have E:Ext J β h w J β h w':=by
  refine⟨fun _ _ C=>C,fun o j C=>other j (nj o j C),fun b z D=>⟨z,⟨D,rfl⟩,?_⟩,fun b j oo D=>?_⟩
  ·cases U:z.dead
   ·exact .inr ⟨rfl,rfl,rfl,fun _=>rfl⟩
   ·exact .inl rfl
  ·by_cases e:j=k
   ·subst e;rw[Hn old,Hn new];exact Nat.le_refl _
   ·simp[Bs,other j e]
 refine⟨E,⟨fun g j C=>by rw[size];exact S.jlt g j C,S.jft,fun b z D F G=>?_,fun b z D F G=>by
   refine(S.mblk b z D F G).keep rfl (fun k2 o2 hβ2=>other k2 (fun e2=>?_)) (fun _ _ _ _ C=>C)
   subst e2
   have:=(S.sep d b x z k2 o o2 T D U F hs V hβ2)
   subst this
   rw[T] at D;simp at D;subst D;simp[M] at G,S.sep⟩,os,tape,output,by rw[size];exact Nat.le_refl _,fun j C G=>?_,fun _ G _=>G,fun _ _ C=>.inl C⟩
 ·rcases S.blk b z D F G with Y | ⟨k2,o2,cs2,ty2,fr2,Y,g2,g3,g4,g5,g6,g7⟩
  ·exact .inl Y
  ·by_cases e:k2=k
   ·subst e
    rw[old] at g2;simp at g2;obtain⟨rfl,rfl,rfl⟩:=g2
    exact .inr ⟨k2,o2,cs,ty,I,Y,new,hf,g4,g5.ext E,g6,g7⟩
   ·exact .inr ⟨k2,o2,cs2,ty2,fr2,Y,by rw[other k2 e];exact g2,g3,g4,g5.ext E,g6,g7⟩
 ·exact other j (fun e=>G (by subst e;exact⟨d,x,o,T,U,hs,V⟩))
theorem Step.move (S:SimH J β h w) {d d' k o o':Nat} {x x' y:Blk} {cs cs':Array Value} {ty:TypeId} {fr:Nat×Nat} (L:Au h d=some x) (U:x.dead=false) (hs:x.sealed=false) (V:β d=some (k,o))
  (hn:Au h d'=none) (hy:y.dead=true)
  (O:OnlyBlk w w' k cs cs' ty fr) (hd':x'.dead=false) (hs':x'.sealed=false) (hl:o'+x'.cells.length≤cs.size) (hc:CellsRep J β h w x' (fun j=>cs'[o'+j]?)) (hxm:x.mp=false) (hym:y.mp=x.mp:=by rfl) (hxm':x'.mp=false:=by rfl) :
  Step J β h w J (fun b=>if b=d' then some (k,o') else β b) (G2 (G2 h d y) d' x') w':=by
 obtain⟨k',o1,cs0,ty0,fr0,hβ',h2,h3,h4,h5,h6,h7⟩:∃ k' o' cs0 ty0 fr0,β d=some (k',o')∧w.heap[k']?=some (.cells cs0 ty0 fr0) ∧
   FrOk cs0.size fr0∧o'+x.cells.length≤cs0.size∧CellsRep J β h w x (fun j=>cs0[o'+j]?)∧(x.sealed=false→∀ g,¬ J g k')∧(x.sealed=true→J x.taint k'):=by
  rcases S.blk d x L U hxm with⟨h1,_⟩ | h1
  ·rw[V] at h1;simp at h1
  ·exact h1
 rw[V] at hβ';simp at hβ';obtain⟨rfl,rfl⟩:=hβ'
 rw[O.old] at h2;simp at h2;obtain⟨rfl,rfl,rfl⟩:=h2
 have nj:∀ g j,J g j→j≠k:=fun g j G e=>by subst e;exact h6 hs g G
 have ndd:d≠d':=fun e=>by subst e;rw[hn] at L;cases L
 have ne:∀ {b z},Au h b=some z→b≠d':=fun C e=>by subst e;rw[hn] at C;cases C
 have get:∀ b,Au (G2 (G2 h d y) d' x') b=if b=d' then some x' else if b=d then some y else Au h b:=fun b=>by rw[Ai,Ai]
 have E:Ext J β h w J (fun b=>if b=d' then some (k,o') else β b) (G2 (G2 h d y) d' x') w':=by
  refine⟨fun _ _ G=>G,fun o j G=>O.other j (nj o j G),fun b z C=>?_,fun b j oo C=>?_⟩
  ·by_cases e:b=d
   ·have hb0:=C;subst e;rw[L] at C;simp at C;subst C;exact⟨y,⟨by rw[get,if_neg (ne hb0),if_pos rfl],hym⟩,.inl hy⟩
   ·refine⟨z,⟨by rw[get,if_neg (ne C),if_neg e];exact C,rfl⟩,?_⟩
    cases U:z.dead
    ·exact .inr ⟨rfl,by simp[ne C],rfl,fun _=>rfl⟩
    ·exact .inl rfl
  ·by_cases e:j=k
   ·subst e;rw[Hn O.old,Hn O.new,O.sz];exact Nat.le_refl _
   ·simp[Bs,O.other j e]
 have live:∀ {b z},Au (G2 (G2 h d y) d' x') b=some z→z.dead=false→(b=d'∧z=x')∨(b≠d'∧b≠d∧Au h b=some z):=by
  intro b z C hz
  rw[get] at C
  by_cases e:b=d'
  ·rw[if_pos e] at C;simp at C;exact .inl ⟨e,C.symm⟩
  ·rw[if_neg e] at C
   by_cases M:b=d
   ·rw[if_pos M] at C;simp at C;subst C;simp[hy] at hz
   ·rw[if_neg M] at C;exact .inr ⟨e,M,C⟩
 refine⟨E,⟨fun g j G=>by rw[O.size];exact S.jlt g j G,S.jft,fun b z C D hm=>?_,fun b z C D hm=>by
   rcases live C D with⟨rfl,rfl⟩ | ⟨e1,M,C⟩
   ·simp[hxm'] at hm
   ·exact(S.mblk b z C D hm).keep (by simp[e1]) (fun k2 o2 F=>O.other k2 (fun e=>by subst e;exact M (S.sep d b x z k2 o o2 L C U D hs V F).symm)) (fun _ _ _ _ G=>G),?_⟩,O.os,O.tape,O.output,by rw[O.size];exact Nat.le_refl _,fun j G hm=>?_,?_,fun _ _ G=>.inl G⟩
 ·rcases live C D with⟨rfl,rfl⟩ | ⟨e1,M,C⟩
  ·refine .inr ⟨k,o',cs',ty,fr,by simp,O.new,?_,by rw[O.sz];exact hl,hc.ext E,fun _=>h6 hs,fun hh=>by simp[hs'] at hh⟩
   rw[O.sz];exact h3
  ·rcases S.blk b z C D hm with g1 | ⟨k2,o2,cs2,ty2,fr2,g1,g2,g3,g4,g5,g6,g7⟩
   ·exact .inl ⟨by simp[e1,g1.1],g1.2⟩
   ·have hne:k2≠k:=fun e=>by
     subst e;exact M (S.sep d b x z k2 o o2 L C U D hs V g1).symm
    exact .inr ⟨k2,o2,cs2,ty2,fr2,by simp[e1,g1],by rw[O.other k2 hne];exact g2,g3,g4,g5.ext E,g6,g7⟩
 ·intro b b' z z' kk oo oo' C hb' hd1 hd2 hs1 I F
  rcases live C hd1 with⟨e0,_⟩ | ⟨e1,M,hbb⟩<;>rcases live hb' hd2 with⟨e0',_⟩ | ⟨e3,e4,Y⟩
  ·rw[e0,e0']
  ·simp[e0] at I;simp[e3] at F
   obtain⟨rfl,rfl⟩:=I
   exact absurd (S.sep d b' x z' k o oo' L Y U hd2 hs V F).symm e4
  ·simp[e0'] at F;simp[e1] at I
   obtain⟨rfl,rfl⟩:=F
   exact absurd (S.sep d b x z k o oo L hbb U hd1 hs V I).symm M
  ·simp[e1] at I;simp[e3] at F
   exact S.sep b b' z z' kk oo oo' hbb Y hd1 hd2 hs1 I F
 ·exact O.other j (fun e=>hm (by subst e;exact⟨d,x,o,L,U,hs,V⟩))
 ·rintro j ⟨b,z,oo,C,D,hsz,T⟩ G
  rcases live C D with⟨rfl,rfl⟩ | ⟨e1,M,C⟩
  ·simp at T;obtain⟨rfl,rfl⟩:=T
   exact⟨d,x,o,L,U,hs,V⟩
  ·simp[e1] at T;exact⟨b,z,oo,C,D,hsz,T⟩
end
end Gx

namespace Gx
open Go
theorem Cv:∀ (a b:H8) (h:Am),As (a++b) h=As b (As a h)
 | [],_,_=>rfl
 | (_,some _)::r,b,h=>by simp only[List.cons_append,As];exact Cv r b _
 | (_,none)::r,b,h=>by simp only[List.cons_append,As];exact Cv r b _
def LooksS (g:B5) (h:Am):Prop:=∀ b x,g b=some x→∃ y,Au h b=some y∧{ y with sealed:=true }={ x with sealed:=true }
theorem Looks.s {g:B5} {h:Am} (k:Looks g h):LooksS g h:=fun b x C=>⟨x,k b x C,rfl⟩
section
variable {R:Type} {r:R} {P:Program} {J J':Bool→Nat→Prop} {β:C1} {h:Am} {w:World} {g:B5}
theorem LooksS.shutB (C:LooksS g h) {b:Nat} {x:Blk} (D:g b=some x):LooksS g (G2 h b { x with sealed:=true }):=by
 intro c y k
 rw[Ai]
 by_cases e:c=b
 ·subst e;rw[D] at k;simp at k;subst k
  exact⟨{ x with sealed:=true },by simp,rfl⟩
 ·rw[if_neg e];exact C c y k
theorem A2g (S:SimH J β h w) {b off n:Nat} {y:Blk} {v:Value} (V:Au h b=some y) (Y:y.dead=false) (hp:y.pure=true) (hr:Rep J β h w (.own b off n) v)
  (hJ:∀ k o,β b=some (k,o)→J' y.taint k) (G:∀ o k,J o k→J' o k) (t o:Bool):RepC (J' y.taint) w (.imm ((y.cells.drop off).take (n*y.sz)) n y.sz t o) v↔(t=true→∃ A cap,v=.slice A n cap∧cap=n):=by
 rw[Rep] at hr
 obtain⟨x,A,cap,⟨D,L⟩,rfl,C,hr⟩:=hr
 rw[V] at D;simp at D;subst D
 rw[RepC]
 constructor
 ·rintro⟨_,A',cap',M,_,T,_⟩ U
  exact⟨A',cap',M,T U⟩
 ·intro T
  have I:t=true→cap=n:=fun U=>by
   obtain⟨A',cap',M,hc⟩:=T U
   simp at M;omega
  rcases hr with hr | ⟨kk,oo,rfl,hr⟩
  ·have:n=0:=by omega
   subst this
   exact⟨by simp,A,cap,rfl,C,I,.inl rfl⟩
  ·rcases hr with hr | ⟨r1,r2,r3⟩
   ·simp[Y] at hr
   ·rcases S.blk b y V Y L with⟨hn,_⟩ | ⟨k',o',cs,ty,fr,F,g1,g2,g3,g4,g5,g6⟩
    ·rw[r1] at hn;simp at hn
    ·rw[r1] at F;simp at F;obtain⟨rfl,rfl⟩:=F
     refine⟨by simp;omega,_,cap,rfl,C,I,.inr ⟨_,rfl,hJ _ _ r1,?_⟩⟩
     have:=((g4.1 hp).drop off).take (n*y.sz)
     refine RepCs.keep (fun k hk=>G _ k hk) (fun _ _=>rfl) (fun j=>?_) this
     rw[Addr.add_mid,Ya g1,Nat.add_assoc]
theorem A7e {b off n:Nat} {y:Blk} {v:Value} (D:Au h b=some y) (hr:Rep J β h w (.own b off n) v):y.mp=false:=by
 rw[Rep] at hr
 obtain⟨x,A,cap,⟨k,C⟩,_⟩:=hr
 rw[D] at k;simp at k;subst k;exact C
theorem A9v {b off:Nat} {y:Blk} {v:Value} (F:Au h b=some y) (hr:Rep J β h w (.optr b off) v):y.mp=false:=by
 rw[Rep] at hr
 obtain⟨x,k,o,⟨C,D⟩,_⟩:=hr
 rw[F] at C;simp at C;subst C;exact D
theorem aK {v v':AV} {ups:H8} {org:Bool} {vc:Value} (S:SimH J β h w) (L:LooksS g h) (F:iB g v=some (v',ups,org)) (G:Rep J β h w v vc) :
    ∃ J',Step J β h w J' β (As ups h) w∧RepC (J' org) w v' vc∧LooksS g (As ups h):=by
  unfold iB at F
  split at F
  · rename_i b off n
    obtain⟨x,D,V⟩:=ub F
    obtain⟨Y,T⟩:=uc V
    simp at T
    obtain⟨rfl,rfl,rfl⟩:=T
    unfold Kt at D
    obtain⟨x0,I,D⟩:=ub D
    obtain⟨U,D⟩:=A2f D
    simp at D;subst D
    obtain⟨y,M,C⟩:=L b _ I
    have e1:y.cells=x0.cells:=by have:=congrArg Blk.cells C;simpa using this
    have e2:y.sz=x0.sz:=by have:=congrArg Blk.sz C;simpa using this
    have e3:y.taint=x0.taint:=by have:=congrArg Blk.taint C;simpa using this
    have e4:y.dead=x0.dead:=by have:=congrArg Blk.dead C;simpa using this
    have e5:y.pure=x0.pure:=by have:=congrArg Blk.pure C;simpa using this
    have A:=Step.shutB S M (by rw[e4];exact U) (A7e M G)
    refine⟨_,by simp only[As];rw[←C];exact A,?_,by simp only[As];exact L.shutB I⟩
    have:=(A2g (J':=fun o k=>J o k∨∃ o',β b=some (k,o')∧(y.taint=true→o=true)) S M (by rw[e4];exact U) (by rw[e5];exact Y) G (fun k o hβ=>.inr ⟨o,hβ,id⟩) (fun o k hj=>.inl hj) false x0.taint).2 (by simp)
    rw[e1,e2,e3] at this
    rw[e3]
    exact this
  all_goals first
    | (simp at F;done)
    | (simp at F; obtain ⟨rfl, rfl, rfl⟩ := F
       refine⟨J,Step.refl S,?_,L⟩
       first
         | (rw[Rep] at G;exact G)
         | skip)
  · cases v
    case imm=>rename_i hi _ _;exact absurd rfl (hi _ _ _ _ _)
    case iptr=>rename_i hi _;exact absurd rfl (hi _ _)
    case pagg=>rename_i hi;exact absurd rfl (hi _ _)
    all_goals first | (rw[Rep] at G;rw[RepC];exact G) | simp_all
theorem T3:∀ {c c':LA} {ups:H8} {org:Bool} {cs:List Value} {J:Bool→Nat→Prop} {h:Am},SimH J β h w→LooksS g h→DQ g c=some (c',ups,org)→Reps J β h w c cs →
  ∃ J',Step J β h w J' β (As ups h) w∧RepCs (J' org) w c' (fun j=>cs[j]?) 0∧c'.length=cs.length∧LooksS g (As ups h)
 | [],c',ups,org,cs,J,h,S,I,D,F=>by
  simp[DQ] at D;obtain⟨rfl,rfl,rfl⟩:=D
  rw[Reps] at F;subst F
  exact⟨J,Step.refl S,by simp[RepCs],rfl,I⟩
 | v::r,c',ups,org,cs,J,h,S,I,D,F=>by
  rw[DQ] at D
  obtain⟨⟨v1,u1,o1⟩,hp,h1⟩:=ub D
  obtain⟨⟨r2,u2,o2⟩,hq,V⟩:=ub h1
  simp at V
  obtain⟨rfl,rfl,rfl⟩:=V
  rw[Reps] at F
  obtain⟨u,us,rfl,L,M⟩:=F
  obtain⟨J1,A,hA,T⟩:=aK S I hp L
  obtain⟨J2,B,hB,G,U⟩:=T3 A.sim T hq (Reps.ext A.ext M)
  refine⟨J2,by rw[Cv];exact A.trans B (fun _ _ _ _=>Nat.le_refl _),?_,by simp[G],by rw[Cv];exact U⟩
  have mono:∀ {a b:Bool} (k:Nat),J2 a k→J2 (a||b) k:=fun {a b} k C=>by
   cases a
   ·cases b
    ·exact C
    ·exact B.sim.jft k C
   ·exact C
  have mono':∀ {a b:Bool} (k:Nat),J2 b k→J2 (a||b) k:=fun {a b} k C=>by rw[Bool.or_comm];exact mono k C
  rw[RepCs]
  refine⟨⟨u,by simp,?_⟩,?_⟩
  ·exact RepC.keep (J:=J1 o1) (fun k C=>mono k (B.ext.jsub _ k C)) (fun _ _=>rfl) hA
  ·have:=RepCs.keep (J':=J2 (o1||o2)) (w':=w) (fun k C=>mono' k C) (fun _ _=>rfl) (rd':=fun j=>us[j]?) (fun _=>rfl) hB
   rw[Dl] at this ⊢
   intro j x hj
   have Y:=this j x hj
   simp only[Nat.zero_add] at Y
   rw[show 1+j=j+1 by omega]
   simpa using Y
theorem VM {v:AV} {c':LA} {ups:H8} {org:Bool} {vc:Value} (S:SimH J β h w) (G:LooksS g h) (C:CY g v=some (c',ups,org)) (D:Rep J β h w v vc) :
  ∃ J',Step J β h w J' β (As ups h) w∧RepCs (J' org) w c' (fun j=>vc.cells.toList[j]?) 0∧c'.length=vc.cells.toList.length∧LooksS g (As ups h):=by
 unfold CY at C
 split at C
 ·rename_i c org'
  simp at C;obtain⟨rfl,rfl,rfl⟩:=C
  rw[Rep] at D
  obtain⟨cs,rfl,M,F⟩:=D
  exact⟨J,Step.refl S,F,by simp[Value.cells,M],G⟩
 ·rename_i c
  rw[Rep] at D
  obtain⟨cs,rfl,F⟩:=D
  exact T3 S G C F
 ·rename_i v M F
  obtain⟨J',A,hA,k,I⟩:=T3 (cs:=[vc]) S G C (by rw[Reps];exact⟨vc,[],rfl,D,by rw[Reps]⟩)
  have Y:vc.oneCell'=true:=by
   have L:c'.length=1:=k
   cases T:c' with
   | nil=>simp[T] at L
   | cons x r =>
    obtain⟨u,U,hr⟩:=hA.at (j:=0) (x:=x) (by simp[T])
    simp at U;subst U
    exact Aad hr
  have V:vc.cells=#[vc]:=by cases vc<;>simp_all[Value.cells,Value.oneCell']
  rw[V]
  exact⟨J',A,hA,k,I⟩
end
end Gx

namespace Gx
open Go
theorem Da:∀ (ups:H8) (h:Am) (b:Nat),Bf ups b=false→Au (As ups h) b=Au h b
 | [],_,_,_=>rfl
 | (i,some x)::r,h,b,hi=>by
  rw[Bf] at hi
  cases k:Nat.beq i b with
  | true=>rw[k] at hi;simp at hi
  | false =>
   rw[k] at hi
   rw[As,Da r _ b hi,Ai,if_neg (fun e=>Z8 k e.symm)]
 | (i,none)::r,h,b,hi=>by
  rw[Bf] at hi
  cases k:Nat.beq i b with
  | true=>rw[k] at hi;simp at hi
  | false =>
   rw[k] at hi
   rw[As,Da r _ b hi]
   split
   ·rw[Ai,if_neg (fun e=>Z8 k e.symm)]
   ·rfl
theorem kp {c vs:LA} {off:Nat} (D:off+vs.length≤c.length) (j:Nat):(Cu c off vs)[j]?=if off≤j∧j<off+vs.length then vs[j - off]? else c[j]?:=by
 unfold Cu
 rw[List.append_assoc,List.getElem?_append]
 simp only[List.length_take,Nat.min_eq_left (show off≤c.length by omega)]
 by_cases k:j<off
 ·rw[if_pos k,if_neg (by omega),List.getElem?_take,if_pos k]
 ·rw[if_neg k,List.getElem?_append]
  by_cases C:j - off<vs.length
  ·rw[if_pos C,if_pos (by omega)]
  ·rw[if_neg C,if_neg (by omega),List.getElem?_drop];congr 1;omega
theorem LO {c vs:LA} {off:Nat} (k:off+vs.length≤c.length):(Cu c off vs).length=c.length:=by
 unfold Cu;simp;omega
theorem RW {c vs:LA} {off:Nat} (k:off+vs.length≤c.length) (j:Nat):(setCells c off vs)[j]?=if off≤j∧j<off+vs.length then vs[j - off]? else c[j]?:=by
 unfold setCells
 split
 ·rename_i y
  simp at k
  rw[List.getElem?_set]
  by_cases e:off=j
  ·subst e;simp;omega
  ·rw[if_neg e,if_neg (by simp;omega)]
 ·exact kp k j
theorem Zq {c vs:LA} {off:Nat} (k:off+vs.length≤c.length):(setCells c off vs).length=c.length:=by
 unfold setCells
 split
 ·simp
 ·exact LO k
section
variable {R:Type} {r:R} {P:Program} {J J':Bool→Nat→Prop} {β:C1} {h:Am} {w w':World} {g:B5}
theorem BT {v:AV} {vc:Value} (hs:MQ g v=true) (C:Rep J β h w v vc):vc.oneCell'=true:=by
 cases v<;>simp[MQ] at hs
 case own=>rw[Rep] at C;obtain⟨x,A,cap,_,rfl,_⟩:=C;rfl
 case optr=>rw[Rep] at C;obtain⟨x,k,o,_,rfl,_⟩:=C;rfl
 case fn=>rw[Rep] at C;obtain⟨cs,rfl,_⟩:=C;rfl
 case imm=>rw[Rep,RepC] at C;obtain⟨_,A,cap,rfl,_⟩:=C;rfl
 case iptr=>rw[Rep,RepC] at C;obtain⟨a,rfl,_⟩:=C;rfl
 all_goals (rw[Rep] at C;subst C;rfl)
theorem RX:∀ {c:LA},MR g c=true→∀ (j:Nat) (x:AV),c[j]?=some x→MQ g x=true
 | [],_,j,x,k=>by simp at k
 | v::r,hs,j,x,k=>by
  rw[MR] at hs;simp at hs
  cases j with
  | zero=>simp at k;subst k;exact hs.1
  | succ j=>exact RX hs.2 j x (by simpa using k)
theorem Ayb {k:Nat} {cs C:Array Value} {ty:TypeId} {fr:Nat×Nat} (O:OnlyBlk w w' k cs C ty fr):∀ j,Bs w j≤Bs w' j:=fun j=>by
 by_cases e:j=k
 ·subst e;rw[Hn O.old,Hn O.new,O.sz];exact Nat.le_refl _
 ·simp[Bs,O.other j e]
theorem aL {t:TypeId} {k o:Nat} {vc:Value} {cs:Array Value} {ty:TypeId} {fr:Nat×Nat} (F:w.heap[k]?=some (.cells cs ty fr)) (G:FrOk cs.size fr)
  (hs:Di P t=some vc.cells.toList.length) (I:o+vc.cells.toList.length≤cs.size) (L:∀ u ∈ vc.cells.toList,u.oneCell'=true) :
  (Instr.storeAt t (.pointer (some ⟨k,o,none⟩)) vc).run P w=.ok () (w.setCells k o vc.cells.toList):=by
 have C:=run_storeCells_cells (P:=P) k o vc.cells.toList 0 w (fun j M=>by
   rw[Nat.add_zero,Ya F];simp;omega)
  (fun j M=>by
   rw[Nat.add_zero];simp only[World.frozen?,F]
   have:=G.at (o+j) (by omega)
   cases fr;simp at this ⊢;omega) L
 simp only[Nat.add_zero] at C
 have D:=E1 hs w
 simp only[Array.length_toList] at D
 simp[Instr.storeAt,Instr.sureAddr,storeVar,D,C]
theorem Apj {t:TypeId} {p v:AV} {vp vv:Value} {k:AV→H8→O R} (S:SimH J β h w) (hl:Looks g h) (hh:r9 P g t p v k=some r) (hp:Rep J β h w p vp) (hv:Rep J β h w v vv) :
  ∃ val ups,k val ups=some r∧∃ J' β' w',(Instr.storeAt t vp vv).run P w=.ok () w'∧Step J β h w J' β' (As ups h) w'∧val=.undef:=by
 unfold r9 at hh
 split at hh
 ·rename_i b off
  obtain⟨x,hx,h1⟩:=ub hh
  obtain⟨n,hn,h2⟩:=ub h1
  obtain⟨hs,h3⟩:=A2f h2
  obtain⟨hb,hd⟩:=Pj hl hx
  have M:=A9v hb hp
  cases hpu:x.pure with
  | true =>
   rw[hpu] at h3
   obtain⟨⟨c',u1,org⟩,hq,h4⟩:=ub h3
   obtain⟨G,h5⟩:=uc h4
   simp at G
   obtain⟨T,U,hc3⟩:=G
   obtain⟨J1,A,hA,I,_⟩:=VM S hl.s hq hv
   have hb1:Au (As u1 h) b=some x:=by rw[Da _ _ _ hc3];exact hb
   obtain⟨kk,o,cs,ty,fr,hβ,rfl,F,hf,hle,hcr,_,_⟩:=Apf A.sim hb1 hd (Rep.ext A.ext hp)
   obtain⟨V,O,hO⟩:=OnlyBlk.setCells (k:=kk) vv.cells.toList (o+off) w cs F
   have Y:off+c'.length≤x.cells.length:=by omega
   have hone:=RepCs.one hA I.symm
   have B:=Step.set (x':={ x with pure:=true,cells:=setCells x.cells off c',taint:=x.taint||org }) A.sim hb1 hd hs hβ O hd hs rfl (Zq Y) (by
    refine⟨fun _=>?_,fun hh=>by simp at hh⟩
    have hold:=hcr.1 hpu
    rw[Dl]
    intro j y C
    simp only[RW Y] at C
    simp only[Nat.zero_add]
    have mono:∀ {a b:Bool} (k:Nat),J1 a k→J1 (a||b) k:=fun {a b} k F=>by
     cases a
     ·cases b
      ·exact F
      ·exact A.sim.jft k F
     ·exact F
    split at C
    ·rename_i hj'
     obtain⟨u,hu,hr⟩:=hA.at C
     refine⟨u,?_,RepC.keep (J:=J1 org) (fun k F=>by rw[Bool.or_comm];exact mono k F) (fun _ _=>rfl) hr⟩
     rw[hO,if_pos (by omega),←hu];congr 1;omega
    ·rename_i hj'
     obtain⟨u,hu,hr⟩:=hold.at C
     refine⟨u,?_,RepC.keep (J:=J1 x.taint) (fun k F=>mono k F) (fun _ _=>rfl) hr⟩
     rw[hO,if_neg (by omega)];exact hu)
   refine⟨_,_,h5,J1,β,_,aL F hf (by rw[←I,T];exact hn) (by omega) hone,?_,rfl⟩
   rw[Cv]
   exact A.trans (B M) (fun _ k _ _=>Ayb O k)
  | false =>
   rw[hpu] at h3
   obtain⟨kk,o,cs,ty,fr,hβ,rfl,F,hf,hle,hcr,_,_⟩:=Apf S hb hd hp
   have go:∀ (c:LA) (cells':LA),(∀ (j:Nat) (y:AV),c[j]?=some y→∃ u,vv.cells.toList[j]?=some u∧Rep J β h w y u∧u.oneCell'=true)→c.length=vv.cells.toList.length→c.length=n→off+c.length≤x.cells.length →
     cells'.length=x.cells.length→(∀ j:Nat,cells'[j]?=if off≤j∧j<off+c.length then c[j - off]? else x.cells[j]?) →
     ∃ J' β' w',(Instr.storeAt t (.pointer (some ⟨kk,o+off,none⟩)) vv).run P w=.ok () w'∧Step J β h w J' β' (As [(b,some { x with pure:=false,cells:=cells' })] h) w':=by
    intro c cells' G I hcn hoff hcl hget'
    obtain⟨V,O,hO⟩:=OnlyBlk.setCells (k:=kk) vv.cells.toList (o+off) w cs F
    have B:=Step.set (x':={ x with pure:=false,cells:=cells' }) S hb hd hs hβ O hd hs rfl hcl (by
     refine⟨fun hh=>by simp at hh,fun _ j y C=>?_⟩
     simp only[hget'] at C
     split at C
     ·rename_i hj'
      obtain⟨u,hu,hr,ho⟩:=G _ _ C
      refine⟨u,?_,hr,ho⟩
      show V[o+j]?=some u
      rw[hO,if_pos (by omega),←hu];congr 1;omega
     ·rename_i hj'
      obtain⟨u,hu,hr⟩:=hcr.2 hpu j y C
      refine⟨u,?_,hr⟩
      show V[o+j]?=some u
      rw[hO,if_neg (by omega)];exact hu)
    refine⟨J,β,_,aL F hf (by rw[hn,←hcn,I]) (by omega) (fun u hu=>?_),B M⟩
    obtain⟨j,C,rfl⟩:=List.getElem_of_mem hu
    obtain⟨u',hu',_,ho⟩:=G j c[j] (List.getElem?_eq_getElem (by omega))
    rw[List.getElem?_eq_getElem C] at hu';simp only[Option.some.injEq] at hu';rw[hu'];exact ho
   simp only[cond_false] at h3
   split at h3
   ·rename_i c
    obtain⟨G,h5⟩:=uc h3
    simp at G
    obtain⟨T,U,hc3⟩:=G
    rw[Rep] at hv
    obtain⟨us,rfl,D⟩:=hv
    rw[C3] at D
    obtain⟨J',β',w',g1,g2⟩:=go c (Cu x.cells off c) (fun j y C=>by
      have hlt:j<us.length:=by rw[D.1];exact(List.getElem?_eq_some_iff.1 C).1
      refine⟨us[j],by simp[Value.cells,List.getElem?_eq_getElem hlt],D.2 j y _ C (List.getElem?_eq_getElem hlt),BT (RX T j y C) (D.2 j y _ C (List.getElem?_eq_getElem hlt))⟩)
     (by simp[Value.cells,D.1]) U (by omega) (LO (by omega)) (kp (by omega))
    exact⟨_,_,h5,J',β',w',g1,g2,rfl⟩
   ·rename_i c org
    obtain⟨G,h5⟩:=uc h3
    simp at G
    obtain⟨rfl,U,hc3⟩:=G
    rw[Rep] at hv
    obtain⟨us,rfl,D,hrc⟩:=hv
    obtain⟨V,O,hO⟩:=OnlyBlk.setCells (k:=kk) us (o+0) w cs F
    have B:=Step.set (x':={ x with pure:=true,taint:=org,cells:=c }) S hb hd hs hβ O hd hs rfl (by simp;omega) (by
     refine⟨fun _=>?_,fun hh=>by simp at hh⟩
     rw[Dl]
     intro j y C
     obtain⟨u,hu,hr⟩:=hrc.at C
     have hlt:j<us.length:=by rw[D];exact(List.getElem?_eq_some_iff.1 C).1
     refine⟨u,?_,hr⟩
     show V[o+(0+j)]?=some u
     rw[hO,if_pos (by omega),←hu];congr 1;omega)
    exact⟨_,_,h5,J,β,_,aL (vc:=.agg ⟨us⟩) F hf (by simp[Value.cells];rw[D,U];exact hn) (by simp[Value.cells];omega) (by simpa[Value.cells] using RepCs.one hrc D),B M,rfl⟩
   ·rename_i hna
    obtain⟨G,h5⟩:=uc h3
    simp at G
    obtain⟨T,U,hc3⟩:=G
    have ho:=BT T hv
    have L:vv.cells=#[vv]:=by cases vv<;>simp_all[Value.cells,Value.oneCell']
    obtain⟨J',β',w',g1,g2⟩:=go [v] (x.cells.set off v) (fun j y C=>by
      cases j with
      | zero=>simp at C;subst C;exact⟨vv,by simp[L],hv,ho⟩
      | succ j=>simp at C) (by simp[L]) (by simp;omega) (by simp;omega) (by simp) (fun j=>by
      have:=RW (c:=x.cells) (vs:=[v]) (off:=off) (by simp;omega) j
      simpa[setCells] using this)
    exact⟨_,_,h5,J',β',w',g1,g2,rfl⟩
 ·simp at hh
end
end Gx

namespace Gx
open Go
section
variable {R:Type} {r:R} {P:Program} {J J':Bool→Nat→Prop} {β:C1} {h:Am} {w w':World} {g:B5}
theorem Alz {v v':AV} {ups:H8} {org:Bool} (k:iB g v=some (v',ups,org)) (b:Nat) (F:Bf ups b=true):∃ x,g b=some x:=by
 unfold iB at k
 split at k
 ·rename_i G off n
  obtain⟨x,C,L⟩:=ub k
  obtain⟨M,I⟩:=uc L
  simp at I
  obtain⟨rfl,rfl,rfl⟩:=I
  unfold Kt at C
  obtain⟨x0,D,C⟩:=ub C
  have:G=b:=by
   cases e:Nat.beq G b with
   | true=>exact Nat.eq_of_beq_eq_true e
   | false=>simp[Bf,e] at F
  subst this;exact⟨x0,D⟩
 all_goals first
  | (simp at k;done)
  | (simp at k;obtain⟨rfl,rfl,rfl⟩:=k;simp[Bf] at F)
theorem Pl:∀ (a b:H8) (c:Nat),Bf (a++b) c=(Bf a c||Bf b c)
 | [],_,_=>by simp[Bf]
 | (i,_)::r,b,c=>by
  rw[List.cons_append,Bf,Bf,Pl r b c]
  cases Nat.beq i c<;>simp
theorem DW:∀ {c c':LA} {ups:H8} {org:Bool},DQ g c=some (c',ups,org)→∀ b,Bf ups b=true→∃ x,g b=some x
 | [],c',ups,org,k,b,C=>by simp[DQ] at k;obtain⟨rfl,rfl,rfl⟩:=k;simp[Bf] at C
 | v::r,c',ups,org,k,b,C=>by
  rw[DQ] at k
  obtain⟨⟨v1,u1,o1⟩,G,I⟩:=ub k
  obtain⟨⟨L,u2,o2⟩,hq,D⟩:=ub I
  simp at D
  obtain⟨rfl,rfl,rfl⟩:=D
  rw[Pl] at C
  cases F:Bf u1 b with
  | true=>exact Alz G b F
  | false=>rw[F] at C;exact DW hq b (by simpa using C)
theorem Air {v:AV} {c':LA} {ups:H8} {org:Bool} (k:CY g v=some (c',ups,org)) (b:Nat) (C:Bf ups b=true):∃ x,g b=some x:=by
 unfold CY at k
 split at k
 ·simp at k;obtain⟨rfl,rfl,rfl⟩:=k;simp[Bf] at C
 ·exact DW k b C
 ·exact DW k b C
theorem A2h {ups:H8} {d:Nat} (k:Looks g h) (C:∀ b,Bf ups b=true→∃ x,g b=some x) (hn:Au h (nid d)=none):Au (As ups h) (nid d)=none:=by
 rw[Da]
 ·exact hn
 ·cases D:Bf ups (nid d) with
  | false=>rfl
  | true =>
   obtain⟨x,F⟩:=C _ D
   rw[k _ _ F] at hn;cases hn
def OpDone (J:Bool→Nat→Prop) (β:C1) (h:Am) (w:World) (ups:H8) (val:AV) (vc:Value) (w':World):Prop :=
 ∃ J' β',Step J β h w J' β' (As ups h) w'∧Rep J' β' (As ups h) w' val vc
def UpsFree (d:Nat) (h:Am) (ups:H8):Prop:=∀ b,Bf ups b=true→VK d b=true→Au h b=none
theorem UpsFree.nid {d:Nat} {h:Am} {ups:H8} (k:UpsFree d h ups) (hi:Bf ups (nid d)=true):Au h (nid d)=none:=k _ hi (by
 have C:Nat.ble (Gx.nid d) (Gx.nid d)=true:=by simp
 have D:Nat.blt (Gx.nid d) (Gx.nid d+16)=true:=by simp
 rw[VK,C,D];rfl)
theorem nA {d:Nat} {x:Blk} {cs:Array Value} {ty:TypeId} (S:SimH J β h w) (hn:Au h (nid d)=none) (D:x.dead=false) (hs:x.sealed=false) (k:x.cells.length≤cs.size) (F:CellsRep J β h w x (fun j=>cs[j]?)) (C:x.mp=false:=by rfl) :
  OpDone J β h w [(nid d,some x)] (.optr (nid d) 0) (.pointer (some ⟨w.heap.size,0,none⟩)) (w.alloc (.cells cs ty)):=by
 have A:=Step.new (ty:=ty) (fr:=(0,0)) S hn D hs (.inl rfl) k F C
 refine⟨_,_,A,?_⟩
 rw[Rep]
 exact⟨x,w.heap.size,0,⟨by simp[As,Ai],C⟩,rfl,.inr (by simp)⟩
theorem OpDone.after {ups ups':H8} {val:AV} {vc:Value} {J1:Bool→Nat→Prop} {β1:C1} {C:World} (A:Step J β h w J1 β1 (As ups h) C) (B:OpDone J1 β1 (As ups h) C ups' val vc w')
  (hs:∀ k,Bs w k≤Bs w' k):OpDone J β h w (ups++ups') val vc w':=by
 obtain⟨J2,β2,B1,B2⟩:=B
 exact⟨J2,β2,by rw[Cv];exact A.trans B1 (fun _ k _ _=>hs k),by rw[Cv];exact B2⟩
theorem DX (w:World) (o:Obj):∀ k,Bs w k≤Bs (w.alloc o) k:=fun k=>by
 by_cases C:k<w.heap.size
 ·simp[Bs,D0 w _ C]
 ·simp[Bs,Array.getElem?_eq_none (Nat.le_of_not_lt C)]
theorem f9 {t:TypeId} {vc:Value}:(Instr.box t vc).run P w=.ok (.pointer (some ⟨w.heap.size,0,none⟩)) (w.alloc (.cells vc.cells t)):=by
 simp[Instr.box,newVar,newRow]
theorem uS {c:LA} {org:Bool} {cs:List Value} (T:RepCs (J org) w c (fun j=>cs[j]?) 0):∀ {L:List (Nat×TypeId)} {C:LA} {k:LA→O R},mj P c org L C k=some r →
  (∀ (j:Nat) x,C[j]?=some x→∃ u,cs[j]?=some u∧Rep J β h w x u)→∃ l:LA,k l=some r∧∀ (j:Nat) x,l[j]?=some x→∃ u,cs[j]?=some u∧Rep J β h w x u
 | [],C,k,F,G=>⟨C,F,G⟩
 | (off,t)::L,C,k,F,G=>by
  rw[mj] at F
  obtain⟨I,Y⟩:=uc F
  simp at I
  obtain⟨v,h2,h3⟩:=X9 (β:=β) (h:=h) Y (T.drop off)
  refine uS T h2 (fun j x D=>?_)
  rw[List.getElem?_append] at D
  split at D
  ·exact G j x D
  ·have M:j=C.length:=by
    have:=(List.getElem?_eq_some_iff.1 D).1
    simp at this;omega
   subst M
   simp at D;subst D
   rcases h3 with⟨d,U,hd,u,V,h5⟩ | ⟨d,U,hd,_⟩
   ·refine⟨u,?_,h5⟩
    rw[I.1] at V;simpa using V
   ·exfalso
    have S:=I.2
    unfold A7a at S
    rw[U] at S
    split at S<;>simp_all[TypeDesc.isRow]
theorem Apk {co:Bool} {t:TypeId} {v:AV} {vv:Value} {k:AV→O R} (D:ra P co t v k=some r) (F:Rep J β h w v vv):∃ v',k v'=some r∧Rep J β h w v' vv:=by
 unfold ra at D
 split at D
 ·rename_i c org
  rw[Rep] at F
  obtain⟨cs,rfl,Y,G⟩:=F
  obtain⟨l,I,L⟩:=uS (β:=β) (h:=h) G D (fun j x M=>by simp at M)
  obtain⟨S,T⟩:=uc I
  simp at S
  refine⟨_,T,?_⟩
  rw[Rep]
  refine⟨cs,rfl,C3.2 ⟨by omega,fun j x u U V=>?_⟩⟩
  obtain⟨u',C,hr⟩:=L j x U
  rw[V] at C;simp at C;subst C;exact hr
 ·exact⟨_,D,F⟩
theorem Aae {d:Nat} {t:TypeId} {v:AV} {vv:Value} {k:AV→H8→O R} (S:SimH J β h w) (Y:Looks g h) (D:Atc P g d t v k=some r) (I:Rep J β h w v vv) :
  ∃ val ups,k val ups=some r∧(UpsFree d h ups→∃ vc w',(Instr.box t vv).run P w=.ok vc w'∧OpDone J β h w ups val vc w'):=by
 unfold Atc at D
 split at D
 ·rename_i c org
  refine⟨_,_,D,fun hn=>⟨_,_,f9,?_⟩⟩
  replace hn:=hn.nid (by simp[Vm,Bf])
  rw[Rep] at I
  obtain⟨cs,rfl,V,F⟩:=I
  exact nA S hn rfl rfl (by simp[Value.cells,V]) ⟨fun _=>by simpa[Value.cells] using F,fun G=>by simp at G⟩
 ·rename_i c
  cases G:A15 P t with
  | true =>
   rw[G] at D
   obtain⟨M,D⟩:=uc D
   refine⟨_,_,D,fun hn=>⟨_,_,f9,?_⟩⟩
   replace hn:=hn.nid (by simp[Vm,Bf])
   rw[Rep] at I
   obtain⟨cs,rfl,F⟩:=I
   rw[C3] at F
   refine nA S hn rfl rfl (by simp[Value.cells,F.1]) ⟨fun G=>by simp at G,fun _ j y L=>?_⟩
   have T:j<cs.length:=by rw[F.1];exact(List.getElem?_eq_some_iff.1 L).1
   exact⟨cs[j],by simp[Value.cells,T],F.2 j y _ L (List.getElem?_eq_getElem T),BT (RX M j y L) (F.2 j y _ L (List.getElem?_eq_getElem T))⟩
  | false =>
   rw[G] at D
   obtain⟨⟨c',u1,o1⟩,hq,V⟩:=ub D
   refine⟨_,_,V,fun hn=>⟨_,_,f9,?_⟩⟩
   replace hn:=hn.nid (by simp[Pl,Vm,Bf])
   rw[Rep] at I
   obtain⟨cs,rfl,F⟩:=I
   obtain⟨J1,A,hA,U,_⟩:=T3 S Y.s hq F
   refine OpDone.after A (nA A.sim (A2h Y (DW hq) hn) rfl rfl (by simp[Value.cells,U]) ⟨fun _=>?_,fun G=>by simp at G⟩) (DX _ _)
   simpa[Value.cells] using hA
 ·rename_i v V F
  obtain⟨M,D⟩:=uc D
  refine⟨_,_,D,fun hn=>⟨_,_,f9,?_⟩⟩
  replace hn:=hn.nid (by simp[Vm,Bf])
  have ho:=BT M I
  have C:vv.cells=#[vv]:=by cases vv<;>simp_all[Value.cells,Value.oneCell']
  refine nA S hn rfl rfl (by simp[C]) ⟨fun G=>by simp at G,fun _ j y L=>?_⟩
  cases j with
  | zero=>simp at L;subst L;exact⟨vv,by simp[C],I,ho⟩
  | succ j=>simp at L
end
end Gx

namespace Gx
open Go
theorem Apl (z:LA):∀ (l j:Nat),j<l*z.length→(Qq l z)[j]?=z[j%z.length]?:=by
 have flat:∀ (l j:Nat),j<l*z.length→((List.replicate l z).flatten)[j]?=z[j%z.length]?:=by
  intro l
  induction l with
  | zero=>intro j k;simp at k
  | succ l D =>
   intro j k
   rw[List.replicate_succ,List.flatten_cons,List.getElem?_append]
   by_cases C:j<z.length
   ·rw[if_pos C,Nat.mod_eq_of_lt C]
   ·rw[if_neg C,D _ (by rw[Nat.succ_mul] at k;omega)]
    rw[Nat.mod_eq_sub_mod (a:=j) (by omega)]
 intro l j k
 unfold Qq
 split
 ·rename_i v
  simp at k
  simp[k,Nat.mod_one]
 ·exact flat l j k
theorem Rq (l:Nat) (z:LA):(Qq l z).length=l*z.length:=by
 unfold Qq
 split
 ·simp
 ·simp
section
variable {R:Type} {r:R} {P:Program} {J J':Bool→Nat→Prop} {β:C1} {h:Am} {w w':World} {g:B5}
theorem kq {J:Nat→Prop}:∀ {cs:List Value},Bb (T1 cs)=true→∀ (j:Nat) (u:Value),cs[j]?=some u→∃ x,(T1 cs)[j]?=some x∧RepC J w x u
 | [],_,j,u,k=>by simp at k
 | v::r,C,j,u,k=>by
  have key:∃ x,uH v=x∧Bb (T1 r)=true∧RepC J w x v:=by
   rw[T1] at C
   have hr:=f4 (J:=fun _=>J) (β:=fun _=>none) (h:=[]) (w:=w) v
   cases D:uH v<;>rw[D] at C hr<;>simp[Bb] at C<;>refine⟨_,rfl,C,?_⟩<;>(rw[Rep] at hr;rw[RepC];exact hr)
  obtain⟨x,D,F,hr⟩:=key
  cases j with
  | zero=>simp at k;subst k;exact⟨x,by simp[T1,D],hr⟩
  | succ j =>
   obtain⟨y,G,I⟩:=kq (J:=J) (cs:=r) F j u (by simpa using k)
   exact⟨y,by simpa[T1] using G,I⟩
theorem HM:∀ cs:List Value,(T1 cs).length=cs.length
 | []=>rfl
 | v::r=>by simp[T1,HM r]
theorem RY {t:TypeId} {z:LA} (C:zs P t=some z):∃ i v,P.info? t=some i∧i.zero=some v∧z=T1 v.cells.toList∧Bb z=true∧v.cells.size=i.size∧z.length=i.size:=by
 unfold zs at C
 obtain⟨i,hi,F⟩:=ub C
 obtain⟨v,G,I⟩:=ub F
 obtain⟨k,D⟩:=uc I
 simp at D k
 subst D
 exact⟨i,v,hi,G,rfl,k.1,by simpa using k.2,by rw[HM];simpa using k.2⟩
theorem Aaf {J:Nat→Prop} {v:Value} (M:Bb (T1 v.cells.toList)=true) (l n:Nat) (T:l*v.cells.size≤n) :
  RepCs J w (Qq l (T1 v.cells.toList)) (fun j=>(madeCells v.cells n)[j]?) 0:=by
 rw[Dl]
 intro j x F
 have C:(T1 v.cells.toList).length=v.cells.size:=by rw[HM];simp
 have k:j<l*(T1 v.cells.toList).length:=by
  have:=(List.getElem?_eq_some_iff.1 F).1
  rwa [Rq] at this
 rw[Apl _ _ _ k] at F
 rw[C] at F k
 have D:0<v.cells.size:=by
  rcases Nat.eq_zero_or_pos v.cells.size with G | G
  ·rw[G] at k;simp at k
  ·exact G
 have L:j%v.cells.size<v.cells.size:=Nat.mod_lt _ D
 obtain⟨y,I,S⟩:=kq (w:=w) (J:=J) M (j%v.cells.size) v.cells[j%v.cells.size] (by simp[L])
 rw[F] at I;simp at I;subst I
 refine⟨_,?_,S⟩
 have:j<n:=by omega
 simp[madeCells,this,getElem!_pos,L]
theorem Apm {d n cap sz:Nat} {x:Blk} {cs:Array Value} {ty:TypeId} {fr:Nat×Nat} (S:SimH J β h w) (hn:Au h (nid d)=none) (M:x.dead=false) (hs:x.sealed=false) (I:x.sz=sz)
  (G:FrOk cs.size fr) (k:x.cells.length=n*sz) (L:cap*sz≤cs.size) (C:n≤cap) (T:CellsRep J β h w x (fun j=>cs[j]?)) (D:x.mp=false:=by rfl) :
  OpDone J β h w [(nid d,some x)] (.own (nid d) 0 n) (.slice (some ⟨w.heap.size,0,none⟩) n cap) (w.alloc (.cells cs ty fr)):=by
 have U:n*sz≤cap*sz:=Nat.mul_le_mul_right _ C
 have A:=Step.new (ty:=ty) (fr:=fr) S hn M hs G (by omega) T D
 refine⟨_,_,A,?_⟩
 rw[Rep]
 refine⟨x,_,cap,⟨by simp[As,Ai],D⟩,rfl,C,.inr ⟨w.heap.size,0,rfl,.inr ⟨by simp,?_,by rw[I,k];omega⟩⟩⟩
 have F:(w.alloc (.cells cs ty fr)).heap[w.heap.size]?=some (.cells cs ty fr):=by show(w.heap.push _)[_]?=_;simp
 rw[Hn F,I];omega
theorem Atj {d:Nat} {t:TypeId} {l c:AV} {vl vc:Value} {k:AV→H8→O R} (S:SimH J β h w) (D:Alq P d t l c k=some r) (L:Rep J β h w l vl) (M:Rep J β h w c vc) :
  ∃ val ups,k val ups=some r∧(UpsFree d h ups→∃ u w',(Instr.makeSlice t vl vc).run P w=.ok u w'∧OpDone J β h w ups val u w'):=by
 unfold Alq at D
 split at D
 ·rename_i U l c V
  obtain⟨sz,hs,Y⟩:=ub D
  obtain⟨by_,T,h2⟩:=ub Y
  obtain⟨z,hz,h3⟩:=ub h2
  obtain⟨hq,h4⟩:=uc h3
  simp at hq
  obtain⟨q1,q2,q3,q4⟩:=hq
  rw[Rep] at L M;subst L M
  obtain⟨i,v,hi,hv,rfl,F,e1,e2⟩:=RY hz
  have C:i.size=sz:=by simp[Di,hi] at hs;exact hs
  have G:i.bytes=by_:=by simp[Ao3,hi] at T;exact T
  have I:Bf (Vm d true false sz (Qq l.toNat (T1 v.cells.toList))) (nid d)=true:=by simp[Vm,Bf]
  refine⟨_,_,h4,fun hn=>⟨_,_,run_make w t U i v V hi hv _ _ l c q1 q2 (by rw[G,Int.mul_comm];omega) (by omega),?_⟩⟩
  refine Apm (sz:=sz) S (hn.nid I) rfl rfl rfl (.inl rfl) ?_ (by rw[size_madeCells,C];exact Nat.le_refl _) (by omega) ⟨fun _=>?_,fun F=>by simp at F⟩
  ·show(Qq l.toNat (T1 v.cells.toList)).length=_
   rw[Rq,e2,C]
  ·exact Aaf F _ _ (by rw[e1];exact Nat.mul_le_mul_right _ (by omega))
 ·simp at D
theorem Yield.src {sz n:Nat} {tx:TypeId} {vx:Value} {us:List Value} (Y:Yield P w sz vx n us) (k:Ao9 P tx=true) (D:∀ u ∈ us,u.oneCell'=true):Src P sz tx vx n us w:=by
 refine⟨?_,Y.len,?_,?_,Y.length,D⟩
 ·unfold Ao9 at k
  split at k
  ·rename_i e C;exact .inl ⟨e,C⟩
  ·rename_i C;exact .inr C
  ·simp at k
 ·have:=Y.cells w n (fun _=>rfl) (Nat.le_refl _)
  rwa [←Y.length,List.take_length] at this
 ·have:=Y.cells w.drew n (fun _=>rfl) (Nat.le_refl _)
  rwa [←Y.length,List.take_length] at this
theorem Apn {J:Nat→Prop} {a b:LA} {us vs:List Value} (F:RepCs J w a (fun j=>us[j]?) 0) (G:RepCs J w b (fun j=>vs[j]?) 0) (I:a.length=us.length) (tail:List Value) :
  RepCs J w (a++b) (fun j=>(us++vs++tail)[j]?) 0:=by
 rw[Dl]
 intro j x k
 rw[List.getElem?_append] at k
 simp only[Nat.zero_add]
 by_cases D:j<a.length
 ·rw[if_pos D] at k
  obtain⟨u,C,hr⟩:=F.at k
  refine⟨u,?_,hr⟩
  rw[List.append_assoc,List.getElem?_append,if_pos (by omega)];exact C
 ·rw[if_neg D] at k
  obtain⟨u,C,hr⟩:=G.at k
  refine⟨u,?_,hr⟩
  have L:j - a.length<vs.length:=(List.getElem?_eq_some_iff.1 C).1
  rw[List.append_assoc,List.getElem?_append,if_neg (by omega),List.getElem?_append,if_pos (by omega),←I];exact C
theorem nB (w:World) (k:Nat):Bs w.drew k=Bs w k:=rfl
theorem Aag {d sz n1 n2 cap0:Nat} {t tx ty C:TypeId} {i:TypeInfo} {z vx:Value} {A:Option Addr} {olds news:List Value} {c1 D:LA} {o:Bool} (S:SimH J β h w) (hn:Au h (nid d)=none)
  (hu:P.underlying t=some (.slice C)) (hi:P.info? C=some i) (hz:i.zero=some z) (M:i.size=sz) (T:z.cells.size=sz)
  (F:∀ w':World,(∀ a,w'.cell? a=w.cell? a)→(Builtin.firstCells sz n1 (.slice A n1 cap0)).run P w'=.ok olds.toArray w') (G:olds.length=n1*sz)
  (Y:Yield P w sz vx n2 news) (ht:Ao9 P tx=true) (ho:∀ u ∈ news,u.oneCell'=true)
  (h1:RepCs (J o) w c1 (fun j=>olds[j]?) 0) (I:c1.length=olds.length) (h2:RepCs (J o) w D (fun j=>news[j]?) 0) (U:D.length=news.length)
  (hg:cap0<n1+n2) (hb1:n1+n2≤140737488355328) (V:(n1+n2)*i.bytes≤140737488355328) :
  ∃ u w',(Builtin.append_ #[t,tx] ty #[.slice A n1 cap0,vx]).run P w=.ok u w' ∧
   OpDone J β h w [(nid d,some { dead:=false,sealed:=false,pure:=true,taint:=o,sz:=sz,cells:=c1++D })] (.own (nid d) 0 (n1+n2)) u w'∧(∀ k,Bs w k≤Bs w' k):=by
 subst M
 have run:=run_append_grow_src (P:=P) w t tx ty C i z hu hi hz A n1 cap0 olds (F w.drew (fun _=>rfl)) vx n2 news (Y.src ht ho) hg (by omega) (growslice_fits hg V)
 have L:n1+n2≤grownCap w (n1+n2) cap0 C:=by
  unfold grownCap;simp[Question.cut]
 refine⟨_,_,run,?_,?_⟩
 ·obtain⟨J',β',B1,B2⟩:=Apm (d:=d) (n:=n1+n2) (cap:=grownCap w (n1+n2) cap0 C) (sz:=i.size) (ty:=C) (fr:=(0,0)) (x:={ dead:=false,sealed:=false,pure:=true,taint:=o,sz:=i.size,cells:=c1++D })
   (cs:=(olds++news).toArray++Builtin.zeroCells z.cells (grownCap w (n1+n2) cap0 C - (n1+n2))) (Step.drew S).sim hn rfl rfl rfl (.inl rfl)
   (by simp[I,U,G,Y.length,Nat.add_mul]) (by
    simp[Builtin.zeroCells,G,Y.length,T]
    rw[←Nat.add_mul,←Nat.add_mul];exact Nat.mul_le_mul_right _ (by omega)) L
   ⟨fun _=>by
    have:=Apn h1 h2 I (Builtin.zeroCells z.cells (grownCap w (n1+n2) cap0 C - (n1+n2))).toList
    show RepCs (J o) w.drew (c1++D) _ 0
    refine RepCs.keep (J:=J o) (w:=w) (w':=w.drew) (fun _ hj=>hj) (fun _ _=>rfl) (fun j=>?_) this
    rw[←Array.getElem?_toList]
    simp,fun hp=>by simp at hp⟩
  exact⟨J',β',(Step.drew S).trans B1 (fun _ k _ _=>by rw[←nB];exact DX _ _ k),B2⟩
 ·intro k;rw[←nB];exact DX _ _ k
theorem f_ {J:Bool→Nat→Prop} (D:∀ k,J false k→J true k) (a b:Bool) (k:Nat) (C:J a k):J (a||b) k:=by
 cases a
 ·cases b
  ·exact C
  ·exact D k C
 ·exact C
theorem Aah {J:Bool→Nat→Prop} (C:∀ k,J false k→J true k) (a b:Bool) (k:Nat) (D:J b k):J (a||b) k:=by rw[Bool.or_comm];exact f_ C b a k D
theorem Atk {d sz:Nat} {x:Blk} {A:Option Addr} (S:SimH J β h w) (hn:Au h (nid d)=none) (C:x.cells=[]) (k:x.mp=false:=by rfl) :
  OpDone J β h w [(nid d,some x)] (.own (nid d) 0 0) (.slice A 0 0) w:=by
 refine⟨_,_,Step.newNone S hn C k,?_⟩
 rw[Rep]
 exact⟨x,A,0,⟨by simp[As,Ai],k⟩,rfl,Nat.le_refl _,.inl rfl⟩
theorem Ais {d:Nat} {t tx ty:TypeId} {s x:AV} {vs vx:Value} {k:AV→H8→O R} (S:SimH J β h w) (hl:Looks g h) (hh:fW P g d t tx s x k=some r) (hs:Rep J β h w s vs) (hx:Rep J β h w x vx) :
  ∃ val ups,k val ups=some r∧(UpsFree d h ups→∃ u w',(Builtin.append_ #[t,tx] ty #[vs,vx]).run P w=.ok u w'∧OpDone J β h w ups val u w'):=by
 unfold fW at hh
 split at hh
 ·rename_i el hu
  obtain⟨ht,V⟩:=uc hh
  obtain⟨sz,hsz,h1⟩:=ub V
  obtain⟨by_,hby,h2⟩:=ub h1
  obtain⟨zz,hz,h3⟩:=ub h2
  obtain⟨old,D,h4⟩:=ub h3
  obtain⟨new,us,h5,Y,G,hur⟩:=RV (P:=P) S hl h4 hx
  obtain⟨hq,h6⟩:=uc h5
  simp at hq
  obtain⟨q1,q2⟩:=hq
  obtain⟨i,z,hi,hiz,rfl,hp,e1,e2⟩:=RY hz
  have C:i.size=sz:=by simp[Di,hi] at hsz;exact hsz
  have hb':i.bytes=by_:=by simp[Ao3,hi] at hby;exact hby
  have F:=RepCs.one hur G.symm
  have T:RepCs (J (old.2.2.1||new.2.2)) w new.1 (fun j=>us[j]?) 0:=RepCs.keep (J:=J new.2.2) (w:=w) (Aah S.jft _ _) (fun _ _=>rfl) (fun _=>rfl) hur
  refine⟨_,_,h6,fun hn=>?_⟩
  replace hn:=hn.nid (by simp[Pl,Vm,Bf])
  have empty:∀ (A:Option Addr),vs=.slice A 0 0→old.1=[]→old.2.1=0→old.2.2.2=[] →
    ∃ u w',(Builtin.append_ #[t,tx] ty #[vs,vx]).run P w=.ok u w'∧OpDone J β h w (old.2.2.2++Vm d true (old.2.2.1||new.2.2) sz (old.1++new.1)) (.own (nid d) 0 (old.2.1+new.2.1)) u w':=by
   intro A hA o1 o2 o3
   subst hA
   rw[o1,o2,o3]
   rcases Nat.eq_zero_or_pos new.2.1 with V | V
   ·have hus:us=[]:=by have:=Y.length;rw[V] at this;simpa using this
    subst hus
    have I:=Y.src ht F
    rw[V] at I
    refine⟨_,_,run_append_nothing (P:=P) w t tx ty el i hu hi A 0 0 (Nat.le_refl _) vx (by rw[C];exact I),?_⟩
    rw[V]
    have hnc:new.1=[]:=by simpa using G
    exact Atk (sz:=sz) S hn (by simp[hnc])
   ·obtain⟨u,w',g1,g2,_⟩:=Aag (ty:=ty) (c1:=[]) (olds:=[]) (n1:=0) (cap0:=0) (A:=A) S hn hu hi hiz C (by rw[e1,C]) (fun w' _=>by
      cases A with
      | none=>exact run_firstCells_none (P:=P) w' sz 0 0 0
      | some a=>exact run_firstCells_some (P:=P) w' sz 0 a 0 0 [] (by simp) (fun j v U=>by simp at U)) (by simp) Y ht F (by simp[RepCs]) rfl T G (by omega) (by rw[o2] at q1;omega) (by rw[o2,←hb'] at q2;exact q2)
    exact⟨u,w',g1,g2⟩
  unfold A19 at D
  split at D
  ·simp at D;subst D
   rw[Rep] at hs
   exact empty none hs rfl rfl rfl
  ·rename_i c n sz' org
   obtain⟨hz0,h7⟩:=uc D
   simp at hz0 h7;subst hz0;subst h7
   rw[Rep,RepC] at hs
   obtain⟨_,A,cap,U,_,hcap,_⟩:=hs
   have:=hcap rfl;subst this
   exact empty A U rfl rfl rfl
  ·rename_i b off n
   obtain⟨y,hy,h7⟩:=ub D
   obtain⟨hc,h8⟩:=uc h7
   simp at hc h8
   obtain⟨c1,c2,c3⟩:=hc
   subst h8;subst c3
   obtain⟨hb,hd⟩:=Pj hl hy
   simp only at *
   rw[Rep] at hs
   obtain⟨y',A,cap,⟨hy1,hmp⟩,rfl,hcap,hr⟩:=hs
   rw[hb] at hy1;simp at hy1;subst hy1
   have kill:=Step.kill (y:={ y with dead:=true,pure:=true,cells:=[] }) S hb rfl
   have hkn:Au (G2 h b { y with dead:=true,pure:=true,cells:=[] }) (nid d)=none:=by
    rw[Ai,if_neg (fun e=>by rw[←e,hn] at hb;cases hb)];exact hn
   have L:As [(b,none)] h=G2 h b { y with dead:=true,pure:=true,cells:=[] }:=by simp[As,hb]
   by_cases hc0:cap=0
   ·have hn0:n=0:=by omega
    subst hc0;subst hn0
    have S':=kill.sim
    rcases Nat.eq_zero_or_pos new.2.1 with V | V
    ·have hus:us=[]:=by have:=Y.length;rw[V] at this;simpa using this
     subst hus
     have I:=Y.src ht F
     rw[V] at I
     refine⟨_,_,run_append_nothing (P:=P) w t tx ty el i hu hi A 0 0 (Nat.le_refl _) vx (by rw[C];exact I),?_⟩
     rw[V]
     have hnc:new.1=[]:=by simpa using G
     refine OpDone.after (ups:=[(b,none)]) (by rw[L];exact kill) ?_ (fun _=>Nat.le_refl _)
     rw[L]
     exact Atk (sz:=y.sz) S' hkn (by simp[hnc])
    ·obtain⟨u,w',g1,g2,g3⟩:=Aag (ty:=ty) (c1:=[]) (olds:=[]) (n1:=0) (cap0:=0) (A:=A) S' hkn hu hi hiz C (by rw[e1,C]) (fun w' _=>by
       cases A with
       | none=>exact run_firstCells_none (P:=P) w' y.sz 0 0 0
       | some a=>exact run_firstCells_some (P:=P) w' y.sz 0 a 0 0 [] (by simp) (fun j v U=>by simp at U)) (by simp) Y ht F (by simp[RepCs]) rfl T G (by omega) (by omega) (by rw[←hb'] at q2;exact q2)
     refine⟨u,w',g1,OpDone.after (ups:=[(b,none)]) (by rw[L];exact kill) ?_ g3⟩
     rw[L];simpa[Vm] using g2
   ·rcases hr with hr | ⟨kk,o,rfl,hr⟩
    ·exact absurd hr hc0
    ·rcases hr with hr | ⟨r1,r2,r3⟩
     ·simp[hd] at hr
     ·rcases S.blk b y hb hd hmp with⟨hn',_⟩ | ⟨k',o',cs,ty',fr,hβ',g1,g2,g3,g4,g5,g6⟩
      ·rw[r1] at hn';simp at hn'
      ·rw[r1] at hβ';simp at hβ';obtain⟨rfl,rfl⟩:=hβ'
       have hbs:=Hn g1
       have hpure:=((g4.1 c1).drop off).take (n*y.sz)
       have hpl:((y.cells.drop off).take (n*y.sz)).length=n*y.sz:=by simp;omega
       by_cases M:n+new.2.1≤cap
       ·
        have hle:(n+new.2.1)*y.sz≤cap*y.sz:=Nat.mul_le_mul_right _ M
        rw[Nat.add_mul] at hle
        have run:=run_append_room_src (P:=P) w t tx ty el i hu hi kk (o+off) n cap vx new.2.1 us (by rw[C];exact Y.src ht F) M (fun j hj=>by
          rw[C,Ya g1];have:=Y.length;simp;omega) (fun j hj=>by
          rw[C];simp only[World.frozen?,g1]
          have h9:=Y.length
          have:=g2.at (o+off+n*y.sz+j) (by omega)
          cases fr;simp at this ⊢;omega)
        rw[C] at run
        obtain⟨cs',O,hO⟩:=OnlyBlk.setCells (k:=kk) us (o+off+n*y.sz) w cs g1
        have h9:=Y.length
        have B:=Step.move (y:={ y with dead:=true,pure:=true,cells:=[] }) (o':=o+off) (x':={ dead:=false,sealed:=false,pure:=true,taint:=y.taint||new.2.2,sz:=y.sz,cells:=(y.cells.drop off).take (n*y.sz)++new.1 }) S hb hd c2 r1 hn rfl O rfl rfl
         (by rw[List.length_append,hpl,G];omega) ⟨fun _=>by
          show RepCs (J (y.taint||new.2.2)) w ((y.cells.drop off).take (n*y.sz)++new.1) _ 0
          rw[Dl]
          intro j q hj
          rw[List.getElem?_append,hpl] at hj
          simp only[Nat.zero_add]
          by_cases hjn:j<n*y.sz
          ·rw[if_pos hjn] at hj
           obtain⟨v,U,hvr⟩:=hpure.at hj
           refine⟨v,?_,RepC.keep (J:=J y.taint) (w:=w) (f_ S.jft _ _) (fun _ _=>rfl) hvr⟩
           rw[hO,if_neg (by omega),Nat.add_assoc];exact U
          ·rw[if_neg hjn] at hj
           obtain⟨v,U,hvr⟩:=T.at hj
           refine⟨v,?_,hvr⟩
           have:j - n*y.sz<us.length:=(List.getElem?_eq_some_iff.1 U).1
           rw[hO,if_pos (by omega),←U];congr 1;omega,fun hp=>by simp at hp⟩ hmp
        refine⟨_,_,run,J,(fun b=>if b=nid d then some (kk,o+off) else β b),?_,?_⟩
        ·rw[Cv,L];exact B
        ·rw[Cv,L,Rep]
         refine⟨_,_,cap,⟨by simp[Vm,As,Ai];rfl,rfl⟩,rfl,M,.inr ⟨kk,o+off,rfl,.inr ⟨by simp,?_,?_⟩⟩⟩
         ·rw[Hn O.new,O.sz];simp;omega
         ·simp only[List.length_append,hpl,G,h9,Nat.zero_add];rw[Nat.add_mul];exact Nat.le_refl _
       ·
        obtain⟨olds,l1,l2,l3⟩:=hpure.list
        obtain⟨u,w',g1',g2',g3'⟩:=Aag (ty:=ty) (c1:=(y.cells.drop off).take (n*y.sz)) (olds:=olds) (n1:=n) (cap0:=cap) (A:=some ⟨kk,o+off,none⟩) kill.sim hkn hu hi hiz C (by rw[e1,C]) (fun w' he =>
          run_firstCells_some (P:=P) w' y.sz n _ n cap olds (by rw[l1,hpl]) (fun j v U=>by
           rw[he,Addr.add_mid,Ya g1,Nat.add_assoc];exact l2 j v U)) (by rw[l1,hpl]) Y ht F
          (RepCs.keep (J:=J y.taint) (w:=w) (f_ S.jft _ _) (fun _ _=>rfl) (fun _=>rfl) l3) l1.symm T G (by omega) (by omega) (by rw[←hb'] at q2;exact q2)
        refine⟨u,w',g1',OpDone.after (ups:=[(b,none)]) (by rw[L];exact kill) ?_ g3'⟩
        rw[L];exact g2'
  ·simp at D
 ·simp at hh
end
end Gx

namespace Gx
open Go
section
variable {R:Type} {r:R} {P:Program} {J J':Bool→Nat→Prop} {β:C1} {h:Am} {w w':World} {g:B5}
theorem Step.retaint (S:SimH J β h w) {d:Nat} {x:Blk} (hx:Au h d=some x) (V:x.dead=false) (hs:x.sealed=false) (hp:x.pure=true) (Y:x.mp=false) (o:Bool) :
  Step J β h w J β (G2 h d { x with taint:=x.taint||o }) w:=by
 have E:Ext J β h w J β (G2 h d { x with taint:=x.taint||o }) w:=by
  refine⟨fun _ _ T=>T,fun o k T=>rfl,fun b z C=>?_,fun b k o U=>Nat.le_refl _⟩
  by_cases e:b=d
  ·subst e;rw[hx] at C;simp at C;subst C
   exact⟨{ x with taint:=x.taint||o },⟨by rw[Ai,if_pos rfl],rfl⟩,.inr ⟨V,rfl,rfl,fun _=>rfl⟩⟩
  ·refine⟨z,⟨by rw[Ai,if_neg e];exact C,rfl⟩,?_⟩
   cases V:z.dead
   ·exact .inr ⟨rfl,rfl,rfl,fun _=>rfl⟩
   ·exact .inl rfl
 refine⟨E,⟨S.jlt,S.jft,fun b z C D hm=>?_,fun b z C D hm=>by
   rw[Ai] at C
   by_cases e:b=d
   ·rw[if_pos e] at C;simp at C;subst C;simp[Y] at hm
   ·rw[if_neg e] at C
    exact(S.mblk b z C D hm).keep rfl (fun k o U=>rfl) (fun _ _ _ _ T=>T),?_⟩,rfl,rfl,rfl,Nat.le_refl _,fun k hk _=>rfl,?_,fun _ _ T=>.inl T⟩
 ·rw[Ai] at C
  by_cases e:b=d
  ·rw[if_pos e] at C;simp at C;subst C;subst e
   rcases S.blk b x hx V Y with F | ⟨k,o',G,I,L,F,h2,h3,h4,h5,h6,h7⟩
   ·exact .inl F
   ·refine .inr ⟨k,o',G,I,L,F,h2,h3,h4,CellsRep.ext E ⟨fun _=>?_,fun hh=>?_⟩,fun _=>h6 hs,fun hh=>by simp[hs] at hh⟩
    ·exact RepCs.keep (J:=J x.taint) (w:=w) (f_ S.jft _ _) (fun _ _=>rfl) (fun _=>rfl) (h5.1 hp)
    ·simp[hp] at hh
  ·rw[if_neg e] at C
   rcases S.blk b z C D hm with F | ⟨k,o,G,I,L,F,h2,h3,h4,h5,h6,h7⟩
   ·exact .inl F
   ·exact .inr ⟨k,o,G,I,L,F,h2,h3,h4,h5.ext E,h6,h7⟩
 ·intro b b' z z' k oo oo' C hb' hd1 hd2 M U hβ'
  have get:∀ {c y},Au (G2 h d { x with taint:=x.taint||o }) c=some y→y.dead=false→∃ y',Au h c=some y'∧y'.dead=false∧(y.sealed=false→y'.sealed=false):=by
   intro c y hc hyd
   rw[Ai] at hc
   by_cases e:c=d
   ·subst e;exact⟨x,hx,V,fun _=>hs⟩
   ·rw[if_neg e] at hc;exact⟨y,hc,hyd,id⟩
  obtain⟨y1,g1,g2,g3⟩:=get C hd1
  obtain⟨y2,g4,g5,g6⟩:=get hb' hd2
  exact S.sep b b' y1 y2 k oo oo' g1 g4 g2 g5 (g3 M) U hβ'
 ·rintro k ⟨b,z,o,C,D,M,U⟩ hk
  rw[Ai] at C
  by_cases e:b=d
  ·subst e;exact⟨b,x,o,hx,V,hs,U⟩
  ·rw[if_neg e] at C
   exact⟨b,z,o,C,D,M,U⟩
theorem Ayc (c:LA) (off:Nat):Cu c off []=c:=by simp[Cu]
theorem Atl {t tx ty:TypeId} {s x:AV} {vs vx:Value} {k:AV→H8→O R} (S:SimH J β h w) (hl:Looks g h) (hh:Alr P g t s x k=some r) (hs:Rep J β h w s vs) (hx:Rep J β h w x vx) :
  ∃ val ups,k val ups=some r∧∃ u w',(Builtin.copy_ #[t,tx] ty #[vs,vx]).run P w=.ok u w'∧OpDone J β h w ups val u w':=by
 unfold Alr at hh
 split at hh
 ·rename_i el b off n G
  obtain⟨sz,F,h1⟩:=ub hh
  obtain⟨y,hy,h2⟩:=ub h1
  obtain⟨new,us,h3,Y,hul,I⟩:=RV (P:=P) S hl h2 hx
  obtain⟨hc,h4⟩:=uc h3
  simp at hc
  obtain⟨c1,c2,c3⟩:=hc
  subst c3
  obtain⟨hb,hd⟩:=Pj hl hy
  have hone:=RepCs.one I hul.symm
  refine⟨_,_,h4,?_⟩
  rw[Rep] at hs
  obtain⟨y',A,cap,⟨L,M⟩,rfl,hcap,hr⟩:=hs
  rw[hb] at L;simp at L;subst L
  have hm:Nat.min new.2.1 n≤new.2.1:=Nat.min_le_left _ _
  have C:=Y.cells w (Nat.min new.2.1 n) (fun _=>rfl) hm
  have D:=Y.len w
  by_cases U:Nat.min new.2.1 n*y.sz=0
  ·
   refine⟨.int .i64 (Nat.min new.2.1 n:Nat),w,?_,J,β,?_,by rw[Rep]⟩
   ·have e:us.take (Nat.min new.2.1 n*y.sz)=[]:=by rw[U];rfl
    rw[e] at C
    cases A with
    | none=>simp[Builtin.copy_,run_underlying G,D,E1 F,C,goInt]
    | some a=>simp[Builtin.copy_,run_underlying G,D,E1 F,C,goInt,storeCells]
   ·have e:(new.1.take (min new.2.1 n*y.sz))=[]:=by
     have:min new.2.1 n*y.sz=0:=U
     rw[this];rfl
    have T:=Step.retaint S hb hd c2 c1 M new.2.2
    simp only[As]
    rw[e,Ayc]
    exact T
  ·rcases hr with hr | ⟨kk,o,rfl,hr⟩
   ·have:n=0:=by omega
    subst this;simp at U
   ·rcases hr with hr | ⟨r1,r2,r3⟩
    ·simp[hd] at hr
    ·rcases S.blk b y hb hd M with⟨hn',_⟩ | ⟨k',o',cs,ty',fr,V,g1,g2,g3,g4,g5,g6⟩
     ·rw[r1] at hn';simp at hn'
     ·rw[r1] at V;simp at V;obtain⟨rfl,rfl⟩:=V
      have hle1:Nat.min new.2.1 n*y.sz≤new.2.1*y.sz:=Nat.mul_le_mul_right _ hm
      have hle2:Nat.min new.2.1 n*y.sz≤n*y.sz:=Nat.mul_le_mul_right _ (Nat.min_le_right _ _)
      have hul':=Y.length
      have htl:(us.take (Nat.min new.2.1 n*y.sz)).length=Nat.min new.2.1 n*y.sz:=by rw[List.length_take];omega
      have htl':(new.1.take (Nat.min new.2.1 n*y.sz)).length=Nat.min new.2.1 n*y.sz:=by rw[List.length_take];omega
      obtain⟨cs',O,hO⟩:=OnlyBlk.setCells (k:=kk) (us.take (Nat.min new.2.1 n*y.sz)) (o+off) w cs g1
      have hst:=run_storeCells_cells (P:=P) kk (o+off) (us.take (Nat.min new.2.1 n*y.sz)) 0 w (fun j hj=>by
        rw[Nat.add_zero,Ya g1];simp;omega)
       (fun j hj=>by
        rw[Nat.add_zero];simp only[World.frozen?,g1]
        have:=g2.at (o+off+j) (by omega)
        cases fr;simp at this ⊢;omega) (fun u G=>hone u (List.mem_of_mem_take G))
      simp only[Nat.add_zero] at hst
      have B:=Step.set (x':={ y with cells:=Cu y.cells off (new.1.take (Nat.min new.2.1 n*y.sz)),taint:=y.taint||new.2.2 }) S hb hd c2 r1 O hd c2 rfl (LO (by omega)) ⟨fun _=>by
       show RepCs (J (y.taint||new.2.2)) w (Cu y.cells off (new.1.take (Nat.min new.2.1 n*y.sz))) _ 0
       rw[Dl]
       intro j q hj
       rw[kp (by omega),htl'] at hj
       simp only[Nat.zero_add]
       split at hj
       ·obtain⟨u,hu',hr⟩:=(I.take _).at hj
        refine⟨u,?_,RepC.keep (J:=J new.2.2) (w:=w) (Aah S.jft _ _) (fun _ _=>rfl) hr⟩
        rw[hO,if_pos (by omega),List.getElem?_take,if_pos (by omega),←hu'];congr 1;omega
       ·obtain⟨u,hu',hr⟩:=(g4.1 c1).at hj
        refine⟨u,?_,RepC.keep (J:=J y.taint) (w:=w) (f_ S.jft _ _) (fun _ _=>rfl) hr⟩
        rw[hO,if_neg (by omega)];exact hu',fun hp=>by simp[c1] at hp⟩ M
      refine⟨.int .i64 (Nat.min new.2.1 n:Nat),_,?_,J,β,B,by rw[Rep]⟩
      simp[Builtin.copy_,run_underlying G,D,E1 F,C,goInt,hst]
 ·rename_i el G
  obtain⟨sz,F,h1⟩:=ub hh
  obtain⟨new,us,h2,Y,hul,I⟩:=RV (P:=P) S hl h1 hx
  rw[Rep] at hs;subst hs
  have D:=Y.len w
  have C:=Y.cells w 0 (fun _=>rfl) (Nat.zero_le _)
  simp at C
  refine⟨_,_,h2,.int .i64 0,w,?_,J,β,Step.refl S,by rw[Rep]⟩
  have hm:∀ m:Nat,Nat.min m 0=0:=fun m=>Nat.min_eq_right (Nat.zero_le _)
  simp[Builtin.copy_,run_underlying G,D,E1 F,hm,C,goInt]
 ·simp at hh
theorem Ait:∀ {c:LA} {s:List UInt8} {us:List Value} {J:Nat→Prop},zg c=some s→RepCs J w c (fun j=>us[j]?) 0→c.length=us.length →
  ∃ ns:List Int,us=ns.map (Value.int .u8)∧s=ns.map (fun n=>UInt8.ofNat n.toNat)
 | [],s,us,J,F,I,L=>by
  simp[zg] at F;subst F
  have:us=[]:=by cases us<;>simp_all
  exact⟨[],by simp[this],rfl⟩
 | x::r,s,us,J,F,I,L=>by
  rw[zg] at F
  obtain⟨b,k,V⟩:=ub F
  obtain⟨l,M,T⟩:=ub V
  simp at T;subst T
  cases us with
  | nil=>simp at L
  | cons u us =>
   rw[RepCs] at I
   obtain⟨⟨u',G,hr⟩,C⟩:=I
   simp at G;subst G
   unfold A66 at k
   split at k
   ·rename_i n
    simp at k;subst k
    rw[RepC] at hr;subst hr
    have D:RepCs J w r (fun j=>us[j]?) 0:=by
     rw[Dl] at C ⊢
     intro j y Y
     obtain⟨v,U,S⟩:=C j y Y
     refine⟨v,?_,S⟩
     rw[show 0+1+j=j+1 by omega] at U
     simpa using U
    obtain⟨ns,h3,h4⟩:=Ait M D (by simpa using L)
    exact⟨n::ns,by simp[h3],by simp[h4]⟩
   ·simp at k
theorem Bb5:∀ (ns:List Int) (s:List UInt8),(ns.foldl (fun r n=>r.push (UInt8.ofNat n.toNat)) (⟨⟨s⟩⟩:ByteArray))=⟨⟨s++ns.map fun n=>UInt8.ofNat n.toNat⟩⟩
 | [],s=>by simp
 | n::r,s=>by
  rw[List.foldl_cons]
  have:(⟨⟨s⟩⟩:ByteArray).push (UInt8.ofNat n.toNat)=⟨⟨s++[UInt8.ofNat n.toNat]⟩⟩:=by
   simp[ByteArray.push]
  rw[this,Bb5 r];simp
theorem Atm {d:Nat} {src dst:TypeId} {x:AV} {vx:Value} {k:AV→H8→O R} (S:SimH J β h w) (T:Looks g h) (D:Als P g d src dst x k=some r) (F:Rep J β h w x vx) :
  ∃ val ups,k val ups=some r∧(UpsFree d h ups→∃ u w',(convert src dst vx).run P w=.ok u w'∧OpDone J β h w ups val u w'):=by
 unfold Als at D
 split at D
 ·rename_i G I
  split at D
  ·rename_i L n
   rw[Rep] at F;subst F
   obtain⟨C,M⟩:=uc D
   obtain⟨s,hs⟩:=Option.isSome_iff_exists.1 C
   refine⟨_,_,M,fun _=>⟨.int G (G.wrap n),w,?_,J,β,Step.refl S,by rw[Rep]⟩⟩
   cases s<;>simp[convert,run_underlying hs,run_underlying I,Conv.intToInt]
  ·simp at D
 ·simp at D
end
end Gx

namespace Gx
open Go
def aM (CR:AV→Value→Prop) (c:LA) (cs:List Value):Prop:=c.length=cs.length∧∀ (j:Nat) (x:AV) (u:Value),c[j]?=some x→cs[j]?=some u→CR x u
def PartsRel (CR:AV→Value→Prop):List (Nat×LA)→List (Nat×Value)→Prop
 | [],vs=>vs=[]
 | (i,c)::r,vs=>∃ v vs',vs=(i,v)::vs'∧aM CR c v.cells.toList∧PartsRel CR r vs'
theorem A2i:∀ (vs:List Value) (n off:Nat) (cells:Array Value) (j:Nat),
  ((vs.zipIdx n).foldl (fun (cs:Array Value) (p:Value×Nat)=>cs.setIfInBounds (off+p.2) p.1) cells)[j]?=if off+n≤j∧j<off+n+vs.length∧j<cells.size then vs[j - (off+n)]? else cells[j]?
 | [],n,off,cells,j=>by simp;omega
 | v::r,n,off,cells,j=>by
  rw[List.zipIdx_cons,List.foldl_cons,A2i r (n+1) off]
  simp only[Array.size_setIfInBounds,List.length_cons]
  by_cases C:j=off+n
  ·subst C
   rw[if_neg (by omega)]
   by_cases k:off+n<cells.size
   ·rw[if_pos (by omega)];simp[k]
   ·rw[if_neg (by omega)];simp[k]
  ·by_cases k:off+(n+1)≤j∧j<off+(n+1)+r.length∧j<cells.size
   ·rw[if_pos k,if_pos (by omega),show j - (off+n)=(j - (off+(n+1)))+1 by omega];simp
   ·rw[if_neg k,if_neg (by omega),Array.getElem?_setIfInBounds_ne (by omega)]
theorem nC:∀ (vs:List Value) (n off:Nat) (cells:Array Value),((vs.zipIdx n).foldl (fun (cs:Array Value) (p:Value×Nat)=>cs.setIfInBounds (off+p.2) p.1) cells).size=cells.size
 | [],_,_,_=>rfl
 | v::r,n,off,cells=>by rw[List.zipIdx_cons,List.foldl_cons,nC r];simp
theorem aN {CR:AV→Value→Prop} {place:Nat→Option (Nat×Nat)}:∀ {parts:List (Nat×LA)} {vparts:List (Nat×Value)} {c c':LA} {cs:Array Value},PartsRel CR parts vparts→aM CR c cs.toList →
  Vn place parts c=some c'→∃ k,Instr.fill place cs vparts=some k∧aM CR c' k.toList
 | [],vparts,c,c',cs,F,L,G=>by
  rw[PartsRel] at F;subst F
  simp[Vn] at G;subst G
  exact⟨cs,rfl,L⟩
 | (i,vs)::r,vparts,c,c',cs,F,L,G=>by
  rw[PartsRel] at F
  obtain⟨v,V,rfl,T,hr⟩:=F
  rw[Vn] at G
  obtain⟨p,S,Y⟩:=ub G
  obtain⟨U,h2⟩:=uc Y
  simp at U
  obtain⟨b1,b2⟩:=U
  have e1:vs.length=v.cells.size:=by have:=T.1;simpa using this
  have e2:c.length=cs.size:=by have:=L.1;simpa using this
  have I:p.1+vs.length≤c.length:=by omega
  have key:aM CR (setCells c p.1 vs) (v.cells.zipIdx.foldl (fun (cs:Array Value) (q:Value×Nat)=>cs.setIfInBounds (p.1+q.2) q.1) cs).toList:=by
   have C:v.cells.zipIdx.foldl (fun (cs:Array Value) (q:Value×Nat)=>cs.setIfInBounds (p.1+q.2) q.1) cs=(v.cells.toList.zipIdx 0).foldl (fun (cs:Array Value) (q:Value×Nat)=>cs.setIfInBounds (p.1+q.2) q.1) cs:=by
    rw[←Array.foldl_toList];simp
   rw[C]
   refine⟨by rw[Zq I,e2];exact(nC _ 0 _ _).symm,fun j x u M D=>?_⟩
   rw[RW I] at M
   rw[Array.getElem?_toList,A2i] at D
   simp only[Nat.add_zero,Array.length_toList] at D
   split at M
   ·rename_i hj
    rw[if_pos (by omega)] at D
    exact T.2 _ x u M D
   ·rename_i hj
    rw[if_neg (by omega)] at D
    exact L.2 j x u M (by simpa using D)
  obtain⟨k,g1,g2⟩:=aN hr key h2
  refine⟨k,?_,g2⟩
  rw[Instr.fill,S]
  have:¬ (v.cells.size≠p.2||p.1+v.cells.size>cs.size)=true:=by simp;omega
  simp only[this]
  exact g1
section
variable {R:Type} {r:R} {P:Program} {J J':Bool→Nat→Prop} {β:C1} {h:Am} {w w':World} {g:B5}
def RepParts (J:Bool→Nat→Prop) (β:C1) (h:Am) (w:World):List (Nat×AV)→List (Nat×Value)→Prop
 | [],vs=>vs=[]
 | (i,x)::r,vs=>∃ v vs',vs=(i,v)::vs'∧Rep J β h w x v∧RepParts J β h w r vs'
theorem RepParts.ext {β':C1} {h':Am} (E:Ext J β h w J' β' h' w'):∀ {ps:List (Nat×AV)} {vs:List (Nat×Value)},RepParts J β h w ps vs→RepParts J' β' h' w' ps vs
 | [],_,hr=>hr
 | (i,x)::r,vs,hr=>by
  rw[RepParts] at hr ⊢
  obtain⟨v,k,e,C,D⟩:=hr
  exact⟨v,k,e,Rep.ext E C,RepParts.ext E D⟩
theorem PartsRel.mono {CR CR':AV→Value→Prop} (C:∀ x u,CR x u→CR' x u):∀ {ps:List (Nat×LA)} {vs:List (Nat×Value)},PartsRel CR ps vs→PartsRel CR' ps vs
 | [],_,hr=>hr
 | (i,c)::r,vs,hr=>by
  rw[PartsRel] at hr ⊢
  obtain⟨v,k,e,D,F⟩:=hr
  exact⟨v,k,e,⟨D.1,fun j x u G I=>C _ _ (D.2 j x u G I)⟩,PartsRel.mono C F⟩
theorem LP {J:Nat→Prop} {c:LA} {us:List Value} (C:RepCs J w c (fun j=>us[j]?) 0) (D:c.length=us.length):aM (RepC J w) c us :=
 ⟨D,fun j x u F G=>by
  obtain⟨I,k,hr⟩:=C.at F
  rw[G] at k;simp at k;subst k;exact hr⟩
theorem iH {J:Nat→Prop} {c:LA} {us:List Value} (k:aM (RepC J w) c us):RepCs J w c (fun j=>us[j]?) 0:=by
 rw[Dl]
 intro j x C
 have:j<us.length:=by rw[←k.1];exact(List.getElem?_eq_some_iff.1 C).1
 exact⟨us[j],by simp[this],k.2 j x _ C (List.getElem?_eq_getElem this)⟩
theorem VN:∀ {ps:List (Nat×AV)} {vs:List (Nat×Value)} {q:List (Nat×LA)} {ups:H8} {org:Bool} {J:Bool→Nat→Prop} {h:Am},SimH J β h w→LooksS g h→MS g ps=some (q,ups,org)→RepParts J β h w ps vs →
  ∃ J',Step J β h w J' β (As ups h) w∧PartsRel (RepC (J' org) w) q vs∧LooksS g (As ups h)∧∀ b,Bf ups b=true→∃ x,g b=some x
 | [],vs,q,ups,org,J,h,S,I,C,D=>by
  simp[MS] at C;obtain⟨rfl,rfl,rfl⟩:=C
  rw[RepParts] at D
  exact⟨J,Step.refl S,by rw[PartsRel];exact D,I,fun b F=>by simp[Bf] at F⟩
 | (i,x)::r,vs,q,ups,org,J,h,S,I,C,D=>by
  rw[MS] at C
  obtain⟨⟨c1,u1,o1⟩,hp,h1⟩:=ub C
  obtain⟨⟨q2,u2,o2⟩,hq,h2⟩:=ub h1
  simp at h2
  obtain⟨rfl,rfl,rfl⟩:=h2
  rw[RepParts] at D
  obtain⟨v,L,rfl,M,T⟩:=D
  obtain⟨J1,A,hA,G,U⟩:=VM S I hp M
  obtain⟨J2,B,hB,V,Y⟩:=VN A.sim U hq (RepParts.ext A.ext T)
  refine⟨J2,by rw[Cv];exact A.trans B (fun _ _ _ _=>Nat.le_refl _),?_,by rw[Cv];exact V,fun b F=>?_⟩
  ·rw[PartsRel]
   refine⟨v,L,rfl,LP (RepCs.keep (J:=J1 o1) (w:=w) (fun k hk=>f_ B.sim.jft _ _ k (B.ext.jsub _ k hk)) (fun _ _=>rfl) (fun _=>rfl) hA) G,?_⟩
   exact PartsRel.mono (fun x u hx=>RepC.keep (J:=J2 o2) (w:=w) (fun k hk=>Aah B.sim.jft _ _ k hk) (fun _ _=>rfl) hx) hB
  ·rw[Pl] at F
   cases h3:Bf u1 b with
   | true=>exact Air hp b h3
   | false=>rw[h3] at F;exact Y b (by simpa using F)
theorem MX {place:Nat→Option (Nat×Nat)} {k:LA→O R}:∀ (ps:List (Nat×LA)) (c:LA),zu place ps c k=(Vn place ps c).bind k
 | [],c=>rfl
 | (i,vs)::r,c=>by
  rw[zu,Vn,Option.bind_assoc]
  congr 1;funext p
  rw[MX r]
  cases (Nat.beq vs.length p.2&&Nat.ble (p.1+p.2) c.length)<;>rfl
theorem nD {d len:Nat} {t:TypeId} {ps:List (Nat×AV)} {vs:List (Nat×Value)} {k:AV→H8→O R} (S:SimH J β h w) (hl:Looks g h) (T:S9 P g d t len ps k=some r) (hv:RepParts J β h w ps vs) :
  ∃ val ups,k val ups=some r∧(UpsFree d h ups→∃ u w',(Instr.buildSlice t len vs.toArray).run P w=.ok u w'∧OpDone J β h w ups val u w'):=by
 unfold S9 at T
 split at T
 ·rename_i el hu
  obtain⟨sz,C,h1⟩:=ub T
  obtain⟨zz,hz,h2⟩:=ub h1
  obtain⟨⟨q,u1,o1⟩,hq,h3⟩:=ub h2
  obtain⟨hb,h4⟩:=uc h3
  rw[MX] at h4
  obtain⟨cells,hc,h5⟩:=ub h4
  simp at hb
  obtain⟨i,z,hi,U,rfl,V,e1,e2⟩:=RY hz
  have D:i.size=sz:=by simp[Di,hi] at C;exact C
  refine⟨_,_,h5,fun hn=>?_⟩
  replace hn:=hn.nid (by simp[Pl,Vm,Bf])
  obtain⟨J1,A,hA,_,I⟩:=VN S hl.s hq hv
  have Y:=Aaf (w:=w) (J:=J1 o1) V len (len*sz) (by rw[e1,D];exact Nat.le_refl _)
  have hz1:aM (RepC (J1 o1) w) (Qq len (T1 z.cells.toList)) (madeCells z.cells (len*sz)).toList:=by
   refine LP (RepCs.keep (J:=J1 o1) (w:=w) (fun _ hk=>hk) (fun _ _=>rfl) (fun j=>by simp) Y) ?_
   rw[Rq,e2,D,Array.length_toList,size_madeCells]
  obtain⟨F,f1,f2⟩:=aN hA hz1 hc
  have L:cells.length=len*sz:=by
   have:∀ {ps:List (Nat×LA)} {c c':LA},Vn (fun i=>some (i*sz,sz)) ps c=some c'→c'.length=c.length:=by
    intro ps
    induction ps with
    | nil=>intro c c' M;simp[Vn] at M;rw[M]
    | cons p r ih =>
     intro c c' M
     obtain⟨i,vs⟩:=p
     rw[Vn] at M
     obtain⟨p,hpl,g1⟩:=ub M
     obtain⟨gb,g2⟩:=uc g1
     simp at gb
     rw[ih g2,Zq (by omega)]
   rw[this hc,Rq,e2,D]
  have hcs:F.size=len*sz:=by have:=f2.1;simp at this;omega
  refine⟨.slice (some ⟨w.heap.size,0,none⟩) len len,w.alloc (.cells F el),?_,?_⟩
  ·have G:Instr.fill (fun i=>some (i*sz,sz)) ((Array.range (len*sz)).map (z.cells[·%z.cells.size]!)) vs=some F:=f1
   have hnb:¬ (16777216<len*sz):=by omega
   by_cases h0:len*sz=0
   ·have hme:∀ (a:Array Value),(Array.range (len*sz)).map (a[·%a.size]!)=#[]:=fun a=>by rw[h0];simp[Array.range_zero']
    rw[hme] at G
    simp[Instr.buildSlice,run_underlying hu,E1 C,h0,Array.range_zero',G,newRow]
   ·simp[Instr.buildSlice,run_underlying hu,E1 C,hnb,h0,zeroValue,typeInfo,hi,U,G,newRow]
  ·refine OpDone.after A (Apm (sz:=sz) (fr:=(0,0)) A.sim (A2h hl I hn) rfl rfl rfl (.inl rfl) L (by omega) (Nat.le_refl _) ⟨fun _=>?_,fun V=>by simp at V⟩) (DX _ _)
   have:=iH f2
   exact RepCs.keep (J:=J1 o1) (w:=w) (fun _ hk=>hk) (fun _ _=>rfl) (fun j=>by simp) this
 ·simp at T
theorem ku {t:TypeId} {ps:List (Nat×AV)} {k:AV→O R}:Ao8 P t ps k=(Ao7 P t ps).bind k:=by
 unfold Ao8 Ao7
 rw[Option.bind_assoc]
 congr 1;funext place
 cases (ps.all fun p=>aC p.2) with
 | false=>rfl
 | true =>
  simp only[cond_true]
  cases (ps.any fun p=>RQ p.2) with
  | true =>
   simp only[cond_true]
   cases (ps.any fun p=>zw p.2) with
   | true =>
    simp only[cond_true]
    rw[Option.bind_assoc]
    congr 1;funext z
    rw[MX]
    cases Vn place (Lc ps) z<;>rfl
   | false =>
    simp only[cond_false]
    rw[Option.bind_assoc]
    congr 1;funext z
    rw[MX]
    cases Vn place (Gf ps) z<;>rfl
  | false =>
   simp only[cond_false]
   rw[Option.bind_assoc]
   congr 1;funext z
   rw[MX]
   cases Vn place (Gf ps) z<;>rfl
theorem Bdh {x:AV} {u:Value} (hr:RepC (fun _=>False) w x u):Rep J β h w x u:=by
 have k:∀ o:Bool,RepC (J o) w x u:=fun o=>RepC.keep (J:=fun _=>False) (w:=w) (fun _ C=>C.elim) (fun _ _=>rfl) hr
 cases x
 case imm c n sz t org=>rw[Rep];exact k org
 case iptr c org=>rw[Rep];exact k org
 case fn f c =>
  cases c with
  | nil=>rw[RepC] at hr;subst hr;rw[Rep];exact⟨[],by simp,by rw[Reps]⟩
  | cons a l=>simp[RepC] at hr
 all_goals first | (rw[RepC] at hr;rw[Rep];exact hr) | simp[RepC] at hr
theorem rk {d len:Nat} {t:TypeId} {ps:List (Nat×AV)} {vs:List (Nat×Value)} {k:AV→H8→O R} (S:SimH J β h w) (C:V9 P g d t len ps k=some r) (D:RepParts J β h w ps vs) :
  ∃ val ups,k val ups=some r∧(UpsFree d h ups→∃ u w',(Instr.buildSlice t len vs.toArray).run P w=.ok u w'∧OpDone J β h w ups val u w'):=by
 unfold V9 at C;cases C
theorem LQ {d:Nat}:∀ {l:List (Nat×Nat)} {j:Nat} {c:LA} {cs:List Value} {β:C1} {h:Am},SimH J β h w→1≤j→j+l.length≤16→(∀ i,j≤i→i<16→Bf (Ph d l j c).2 (nid d+i)=true→Au h (nid d+i)=none)→Reps J β h w c cs →
  ∃ β',Step J β h w J β' (As (Ph d l j c).2 h) w∧Reps J β' (As (Ph d l j c).2 h) w (Ph d l j c).1 cs
 | [],j,c,cs,β,h,S,_,_,_,hr=>⟨β,Step.refl S,hr⟩
 | (o,sz)::l,j,c,cs,β,h,S,hj,U,F,hr=>by
  rw[Ph] at F ⊢
  split
  ·rename_i G
   simp only[G] at F
   simp at U
   have h1:Au h (nid d+j)=none:=F j (Nat.le_refl _) (by omega) (by simp[Bf])
   have A:=Step.newNone S (d:=nid d+j) (x:=Gw sz) h1 rfl
   have k:=Reps.ext A.ext hr
   rw[C3] at k
   have L:Reps J (fun b=>if b=nid d+j then none else β b) (G2 h (nid d+j) (Gw sz)) w (c.set o (.own (nid d+j) 0 0)) cs:=by
    rw[C3]
    refine⟨by rw[k.1];simp,fun i y u I V=>?_⟩
    by_cases hi:i=o
    ·subst hi
     have M:i<c.length:=(List.getElem?_eq_some_iff.1 G).1
     rw[List.getElem?_set_self M] at I;simp at I;subst I
     have Y:=k.2 i _ u G V
     rw[Rep] at Y;subst Y
     rw[Rep]
     exact⟨Gw sz,none,0,⟨by simp[Ai],rfl⟩,rfl,Nat.le_refl _,.inl rfl⟩
    ·rw[List.getElem?_set_ne (by omega)] at I
     exact k.2 i y u I V
   obtain⟨β',B,hB⟩:=LQ (d:=d) (l:=l) (j:=j+1) A.sim (by omega) (by omega) (fun i hi C D=>by
    have:=F i (by omega) C (by
     rw[Bf]
     have:Nat.beq (nid d+j) (nid d+i)=false:=gV (by omega)
     rw[this];exact D)
    rw[Ai,if_neg (by omega)];exact this) L
   exact⟨β',by simp only[As];exact A.trans B (fun _ _ _ _=>Nat.le_refl _),by simp only[As];exact hB⟩
  ·rename_i G
   have e:Ph d ((o,sz)::l) j c=Ph d l (j+1) c:=by
    rw[Ph]
    split
    ·rename_i T;exact absurd T (G ·)
    ·rfl
   simp at U
   split at F
   ·rename_i T;exact absurd T (G ·)
   ·exact LQ S (by omega) (by omega) (fun i hi C D=>F i (by omega) C D) hr
theorem Ayd {t:TypeId} {co:Bool} {d:Nat} {v:AV} {vc:Value} {k:AV→H8→O R} (S:SimH J β h w) (C:A3w P t co d v k=some r) (D:Rep J β h w v vc) :
  ∃ val ups,k val ups=some r∧(UpsFree d h ups→OpDone J β h w ups val vc w):=by
 unfold A3w at C
 split at C
 ·rename_i c
  obtain⟨G,I⟩:=uc C
  refine⟨_,_,I,fun L=>?_⟩
  rw[Rep] at D
  obtain⟨cs,rfl,hr⟩:=D
  obtain⟨β',A,hA⟩:=LQ (d:=d) (l:=mh P t) (j:=1) S (Nat.le_refl _) (by simp at G;omega) (fun i hi M F=>L _ F (by unfold VK;simp;omega)) hr
  exact⟨J,β',A,by rw[Rep];exact⟨cs,rfl,hA⟩⟩
 ·exact⟨_,_,C,fun _=>⟨J,β,Step.refl S,D⟩⟩
theorem uT {x:AV} {v:Value} (k:Rep J β h w x v) (I:RQ x=false) (D:aC x=true):aM (Rep J β h w) (cellsOf x) v.cells.toList:=by
 have one:v.cells=#[v]→cellsOf x=[x]→aM (Rep J β h w) (cellsOf x) v.cells.toList:=fun L C=>by
  rw[L,C]
  refine⟨rfl,fun j y u F G=>?_⟩
  cases j with
  | zero=>simp at F G;subst F G;exact k
  | succ j=>simp at F
 cases x
 case pagg=>simp[RQ] at I
 case agg c =>
  rw[Rep] at k
  obtain⟨cs,rfl,C⟩:=k
  rw[C3] at C
  exact⟨C.1.symm,C.2⟩
 case tup c=>simp[aC] at D
 case undef=>simp[aC] at D
 case omap=>simp[aC] at D
 case own=>rw[Rep] at k;obtain⟨_,A,cap,_,rfl,_⟩:=k;exact one rfl rfl
 case optr=>rw[Rep] at k;obtain⟨_,kk,o,_,rfl,_⟩:=k;exact one rfl rfl
 case fn=>rw[Rep] at k;obtain⟨cs,rfl,_⟩:=k;exact one rfl rfl
 case imm=>rw[Rep,RepC] at k;obtain⟨_,A,cap,rfl,_⟩:=k;exact one rfl rfl
 case iptr=>rw[Rep,RepC] at k;obtain⟨a,rfl,_⟩:=k;exact one rfl rfl
 all_goals (rw[Rep] at k;subst k;exact one rfl rfl)
theorem Al0 {x:AV} {v:Value} (F:∀ k,J false k→J true k) (D:Rep J β h w x v) (hr:kj x=false) {o:Bool} (G:Ao6 x=true→o=true):RepC (J o) w x v:=by
 cases x<;>simp[kj] at hr
 case imm c n sz t org =>
  rw[Rep] at D
  refine RepC.keep (J:=J org) (w:=w) (fun k C=>?_) (fun _ _=>rfl) D
  cases org
  ·cases o
   ·exact C
   ·exact F k C
  ·rw[G rfl];exact C
 case iptr c org =>
  rw[Rep] at D
  refine RepC.keep (J:=J org) (w:=w) (fun k C=>?_) (fun _ _=>rfl) D
  cases org
  ·cases o
   ·exact C
   ·exact F k C
  ·rw[G rfl];exact C
 all_goals (rw[Rep] at D;rw[RepC];exact D)
theorem Apo {x:AV} {v:Value} (I:∀ k,J false k→J true k) (F:Rep J β h w x v) (hr:zw x=false) {o:Bool} (L:uL x=true→o=true):aM (RepC (J o) w) (cellsOf x) v.cells.toList:=by
 have one:kj x=false→cellsOf x=[x]→uL x=Ao6 x→aM (RepC (J o) w) (cellsOf x) v.cells.toList:=fun h0 C M=>by
  have V:=Al0 (o:=o) I F h0 (by rw[←M];exact L)
  have S:v.cells=#[v]:=by have:=Aad V;cases v<;>simp_all[Value.cells,Value.oneCell']
  rw[S,C]
  refine⟨rfl,fun j y u D G=>?_⟩
  cases j with
  | zero=>simp at D G;subst D G;exact V
  | succ j=>simp at D
 cases x
 case pagg c org =>
  rw[Rep] at F
  obtain⟨cs,rfl,S,C⟩:=F
  refine LP (RepCs.keep (J:=J org) (w:=w) (fun k T=>?_) (fun _ _=>rfl) (fun j=>by simp[Value.cells]) C) (by simp[Value.cells,cellsOf,S])
  cases org
  ·cases o
   ·exact T
   ·exact I k T
  ·rw[L rfl];exact T
 case agg c =>
  rw[Rep] at F
  obtain⟨cs,rfl,C⟩:=F
  rw[C3] at C
  refine⟨C.1.symm,fun j y u D G=>?_⟩
  simp only[zw,List.any_eq_false] at hr
  have Y:y ∈ c:=List.mem_of_getElem? D
  have U:kj y=false:=by simpa using hr y Y
  refine Al0 I (C.2 j y u D G) U (fun M=>L ?_)
  rw[uL,List.any_eq_true];exact⟨y,Y,M⟩
 all_goals first | exact one hr rfl rfl | simp[zw,kj] at hr
theorem A31 {o:Bool} {x:AV} {v:Value} (hr:RepC (J o) w x v):Rep J β h w (Atd o x) v:=by
 cases x
 case imm=>rw[Atd,Rep];rw[RepC] at hr ⊢;exact hr
 case iptr=>rw[Atd,Rep];rw[RepC] at hr ⊢;exact hr
 case fn f c =>
  cases c with
  | nil=>rw[RepC] at hr;subst hr;show Rep J β h w (.fn f []) _;rw[Rep];exact⟨[],by simp,by rw[Reps]⟩
  | cons a b=>simp[RepC] at hr
 all_goals first | (rw[RepC] at hr;unfold Atd;rw[Rep];exact hr) | (simp[RepC] at hr)
theorem Aye {x:AV} {v:Value} (D:Rep J β h w x v) (L:aC x=true):aM (Rep J β h w) (zx x) v.cells.toList:=by
 cases F:RQ x with
 | false =>
  have:=uT D F L
  cases x<;>first | exact this | simp[RQ] at F
 | true =>
  cases x<;>simp[RQ] at F
  rename_i c o
  rw[Rep] at D
  obtain⟨cs,rfl,M,S⟩:=D
  refine⟨by simp[zx,Value.cells,M],fun j y u C I=>?_⟩
  simp only[zx,List.getElem?_map] at C
  cases G:c[j]? with
  | none=>rw[G] at C;simp at C
  | some x0 =>
   rw[G] at C;simp at C;subst C
   obtain⟨T,k,hr⟩:=S.at G
   simp[Value.cells] at I
   rw[I] at k;simp at k;subst k
   exact A31 hr
theorem aO {CR:AV→Value→Prop}:∀ {ps:List (Nat×AV)} {vs:List (Nat×Value)},RepParts J β h w ps vs→(∀ p ∈ ps,∀ v,Rep J β h w p.2 v→aM CR (zx p.2) v.cells.toList)→PartsRel CR (Lc ps) vs
 | [],vs,hr,_=>by rw[RepParts] at hr;rw[Lc,PartsRel];exact hr
 | (i,x)::r,vs,hr,C=>by
  rw[RepParts] at hr
  obtain⟨v,k,rfl,D,F⟩:=hr
  rw[Lc,PartsRel]
  exact⟨v,k,rfl,C (i,x) (by simp) v D,aO F (fun p G=>C p (by simp[G]))⟩
theorem LR {CR:AV→Value→Prop}:∀ {ps:List (Nat×AV)} {vs:List (Nat×Value)},RepParts J β h w ps vs→(∀ p ∈ ps,∀ v,Rep J β h w p.2 v→aM CR (cellsOf p.2) v.cells.toList)→PartsRel CR (Gf ps) vs
 | [],vs,hr,_=>by rw[RepParts] at hr;rw[Gf,PartsRel];exact hr
 | (i,x)::r,vs,hr,C=>by
  rw[RepParts] at hr
  obtain⟨v,k,rfl,D,F⟩:=hr
  rw[Gf,PartsRel]
  exact⟨v,k,rfl,C (i,x) (by simp) v D,LR F (fun p G=>C p (by simp[G]))⟩
theorem Aai {t:TypeId} {place:Nat→Option (Nat×Nat)} {i:TypeInfo} {z:Value} {vs:List (Nat×Value)} {cs:Array Value} (k:mg P t=some place) (hi:P.info? t=some i) (F:i.zero=some z)
  (G:Instr.fill place z.cells vs=some cs):P.built t vs=some cs:=by
 unfold mg at k
 unfold Program.built
 split at k
 ·rename_i n e D
  cases C:P.info? e with
  | none=>simp[C] at k
  | some ie=>simp[C] at k;subst k;simp only[hi,D,F,C];exact G
 ·rename_i fs D
  cases C:fs.toList.mapM fun f=>(P.info? f.type).map fun i=>(f.offset,i.size) with
  | none=>rw[C] at k;simp at k
  | some pl =>
   rw[C] at k;simp at k;subst k
   simp only[hi,D,F,C]
   simpa using G
 ·simp at k
theorem App {t:TypeId} {ps:List (Nat×AV)} {vs:List (Nat×Value)} {v:AV} (S:SimH J β h w) (hh:Ao7 P t ps=some v) (hv:RepParts J β h w ps vs) :
  ∃ u,(Instr.build t vs.toArray).run P w=.ok u w∧Rep J β h w v u:=by
 unfold Ao7 at hh
 obtain⟨place,M,h1⟩:=ub hh
 obtain⟨hok,T⟩:=uc h1
 cases U:ps.any (fun p=>RQ p.2) with
 | true =>
  rw[U] at T
  cases V:ps.any (fun p=>zw p.2) with
  | true =>
   rw[V] at T
   obtain⟨zz,C,F⟩:=ub T
   unfold Alp at C
   obtain⟨i,hi,C⟩:=ub C
   cases D:i.zero with
   | none=>rw[D] at C;simp at C
   | some z =>
    rw[D] at C;simp at C;subst C
    cases G:Vn place (Lc ps) (T1 z.cells.toList) with
    | none=>rw[G] at F;simp at F
    | some c =>
     rw[G] at F;simp at F;subst F
     have k:PartsRel (Rep J β h w) (Lc ps) vs:=aO hv (fun p Y u hu=>Aye hu (List.all_eq_true.1 hok p Y))
     have I:aM (Rep J β h w) (T1 z.cells.toList) z.cells.toList:=by
      have:=f5 (J:=J) (β:=β) (h:=h) (w:=w) z.cells.toList
      rw[C3] at this
      exact⟨this.1.symm,this.2⟩
     obtain⟨cs,f1,L⟩:=aN k I G
     refine⟨.agg cs,run_build w t vs.toArray cs (Aai M hi D (by simpa using f1)),?_⟩
     rw[Rep]
     exact⟨cs.toList,rfl,C3.2 ⟨L.1.symm,L.2⟩⟩
  | false =>
  rw[V] at T
  have h3:=T
  obtain⟨zz,C,F⟩:=ub h3
  obtain⟨i,z,hi,D,rfl,hp,e1,e2⟩:=RY C
  cases G:Vn place (Gf ps) (T1 z.cells.toList) with
  | none=>rw[G] at F;simp at F
  | some c =>
   rw[G] at F;simp at F;subst F
   have k:PartsRel (RepC (J (ps.any fun p=>uL p.2)) w) (Gf ps) vs:=LR hv (fun p Y u hu=>Apo S.jft hu (by
     have:=List.any_eq_false.1 V p Y;simpa using this) (fun ho=>by rw[List.any_eq_true];exact⟨p,Y,ho⟩))
   have I:aM (RepC (J (ps.any fun p=>uL p.2)) w) (T1 z.cells.toList) z.cells.toList:=by
    refine⟨HM _,fun j x u hx hu=>?_⟩
    obtain⟨y,g1,g2⟩:=kq (w:=w) (J:=J (ps.any fun p=>uL p.2)) hp j u hu
    rw[hx] at g1;simp at g1;subst g1;exact g2
   obtain⟨cs,f1,L⟩:=aN k I G
   refine⟨.agg cs,run_build w t vs.toArray cs (Aai M hi D (by simpa using f1)),?_⟩
   rw[Rep]
   exact⟨cs.toList,rfl,L.1.symm,iH L⟩
 | false =>
  rw[U] at T
  obtain⟨zz,C,F⟩:=ub T
  unfold Alp at C
  obtain⟨i,hi,C⟩:=ub C
  cases D:i.zero with
  | none=>rw[D] at C;simp at C
  | some z =>
   rw[D] at C;simp at C;subst C
   cases G:Vn place (Gf ps) (T1 z.cells.toList) with
   | none=>rw[G] at F;simp at F
   | some c =>
    rw[G] at F;simp at F;subst F
    have k:PartsRel (Rep J β h w) (Gf ps) vs:=LR hv (fun p Y u hu=>uT hu (by
      have:=List.any_eq_false.1 U p Y;simpa using this) (List.all_eq_true.1 hok p Y))
    have I:aM (Rep J β h w) (T1 z.cells.toList) z.cells.toList:=by
     have:=f5 (J:=J) (β:=β) (h:=h) (w:=w) z.cells.toList
     rw[C3] at this
     exact⟨this.1.symm,this.2⟩
    obtain⟨cs,f1,L⟩:=aN k I G
    refine⟨.agg cs,run_build w t vs.toArray cs (Aai M hi D (by simpa using f1)),?_⟩
    rw[Rep]
    exact⟨cs.toList,rfl,C3.2 ⟨L.1.symm,L.2⟩⟩
end
end Gx

namespace Gx
open Go
section
variable {R:Type} {r:R} {P:Program} {J:Bool→Nat→Prop} {β:C1} {h:Am} {w:World}
def PRd (n:Nat) (x:LA) (rd:Nat→Option Value):Prop:=∀ j q,j<n→x[j]?=some q →
 (∀ k m,q=.int k m→rd j=some (.int k m))∧(∀ b,q=.bool b→rd j=some (.bool b))∧(∀ s,q=.str s→rd j=some (.string ⟨⟨s⟩⟩))
theorem PRd.drop {n m o:Nat} {x:LA} {xs:Array Value} {ox sz:Nat} (F:PRd sz x (fun j=>xs[ox+j]?)) (M:o+m≤sz) (hn:n=m):PRd n (x.drop o) (fun j=>(xs.extract ox (ox+sz))[o+j]?):=by
 subst hn
 intro j q S hq
 rw[List.getElem?_drop] at hq
 have C:=F (o+j) q (by omega) hq
 have e:∀ v,xs[ox+(o+j)]?=some v→(xs.extract ox (ox+sz))[o+j]?=some v:=by
  intro v D
  have G:=(Array.getElem?_eq_some_iff.1 D).1
  rw[Array.getElem?_extract,if_pos (by omega)];exact D
 exact⟨fun k m I=>e _ (C.1 k m I),fun b L=>e _ (C.2.1 b L),fun s hs=>e _ (C.2.2 s hs)⟩
theorem C_ {t:TypeId} {d:TypeDesc} {xs:Array Value} {ox:Nat} {v:Value} (k:P.underlying t=some d) (C:d.isRow=false) (D:xs[ox]?=some v):(part t xs ox).run P w=.ok v w:=by
 unfold part isAgg
 simp only[Sem.run_bind,run_underlying k,Result.andThen_ok]
 cases d<;>simp_all[TypeDesc.isRow]
theorem MY {t:TypeId} {d:TypeDesc} {xs:Array Value} {ox s:Nat} (k:P.underlying t=some d) (C:d.isRow=true) (hs:Di P t=some s):(part t xs ox).run P w=.ok (.agg (xs.extract ox (ox+s))) w:=by
 unfold part isAgg
 have:=E1 hs w
 simp only[Sem.run_bind,run_underlying k,Result.andThen_ok]
 cases d<;>simp_all[TypeDesc.isRow]
def Ayf (P:Program) (w:World) (D:Nat) (step:TypeId→LA→LA→(Bool→O R)→O R):Prop :=
 ∀ (r:R) (t:TypeId) (s:Nat) (x y:LA) (k:Bool→O R) (xs ys:Array Value) (ox oy:Nat),Di P t=some s→0<s→step t x y k=some r→PRd s x (fun j=>xs[ox+j]?)→PRd s y (fun j=>ys[oy+j]?) →
  ∃ b a a',k b=some r∧(part t xs ox).run P w=.ok a w∧(part t ys oy).run P w=.ok a' w∧(Op.equalIn D t a a').run P w=.ok b w
theorem VO {D:Nat} {step:TypeId→LA→LA→(Bool→O R)→O R} (hs:Ayf P w D step) {x y:LA} {xs ys:Array Value} {ox oy sz:Nat} (M:PRd sz x (fun j=>xs[ox+j]?)) (S:PRd sz y (fun j=>ys[oy+j]?)) :
  ∀ (fs:List Field) {k:Bool→O R},fs.all (Ao4 P sz)=true→MP step x y (fs.map fun f=>(f.offset,f.type)) k=some r →
  ∃ b,k b=some r∧(Op.eqFields D (xs.extract ox (ox+sz)) (ys.extract oy (oy+sz)) fs).run P w=.ok b w
 | [],k,_,I=>⟨true,by simpa[MP] using I,by simp[Op.eqFields]⟩
 | f::fs,k,L,I=>by
  rw[List.all_cons,Bool.and_eq_true] at L
  obtain⟨G,L⟩:=L
  unfold Ao4 at G
  cases C:Di P f.type with
  | none=>rw[C] at G;simp at G
  | some s =>
   rw[C] at G
   simp only[Bool.and_eq_true,Nat.ble_eq] at G
   obtain⟨h1,T,U⟩:=G
   have F : f.name ≠ "_" := by simpa using U
   rw[List.map_cons,MP] at I
   obtain⟨b,a,a',V,Y,g3,g4⟩:=hs r f.type s _ _ _ (xs.extract ox (ox+sz)) (ys.extract oy (oy+sz)) f.offset f.offset C (by omega) I (M.drop T rfl) (S.drop T rfl)
   obtain⟨c,e1,e2⟩:=VO hs M S fs L V
   refine⟨b&&c,e1,?_⟩
   rw[Op.eqFields,if_pos F]
   simp only[Sem.run_bind,Y,g3,g4,Result.andThen_ok]
   cases b with
   | false=>simp
   | true=>simpa using e2
theorem aP {D:Nat} {step:TypeId→LA→LA→(Bool→O R)→O R} (hs:Ayf P w D step) {x y:LA} {xs ys:Array Value} {ox oy sz:Nat} {e:TypeId} {s:Nat} (C:Di P e=some s) (F:0<s) (I:PRd sz x (fun j=>xs[ox+j]?)) (L:PRd sz y (fun j=>ys[oy+j]?)) :
  ∀ (is:List Nat) {k:Bool→O R},(∀ i ∈ is,i*s+s≤sz)→MP step x y (is.map fun i=>(i*s,e)) k=some r →
  ∃ b,k b=some r∧(Op.eqItems D e s (xs.extract ox (ox+sz)) (ys.extract oy (oy+sz)) is).run P w=.ok b w
 | [],k,_,G=>⟨true,by simpa[MP] using G,by simp[Op.eqItems]⟩
 | i::is,k,M,G=>by
  have S:=M i (by simp)
  rw[List.map_cons,MP] at G
  obtain⟨b,a,a',T,U,V,Y⟩:=hs r e s _ _ _ (xs.extract ox (ox+sz)) (ys.extract oy (oy+sz)) (i*s) (i*s) C F G (I.drop S rfl) (L.drop S rfl)
  obtain⟨c,e1,e2⟩:=aP hs C F I L is (fun j hj=>M j (by simp[hj])) T
  refine⟨b&&c,e1,?_⟩
  rw[Op.eqItems]
  simp only[Sem.run_bind,U,V,Y,Result.andThen_ok]
  cases b with
  | false=>simp
  | true=>simpa using e2
theorem kv:∀ (d D:Nat),d≤D→Ayf P w D (yV (R:=R) P d)
 | 0,D,_=>fun r t s x y k xs ys ox oy hs G C=>by simp[yV] at C
 | d+1,D,hD=>fun r t s x y k xs ys ox oy hs G C hx hy=>by
  obtain⟨D,rfl⟩:∃ D',D=D'+1:=⟨D - 1,by omega⟩
  rw[yV] at C
  split at C
  ·rename_i kd F
   obtain⟨u,L,C⟩:=ub C
   obtain⟨a,S,C⟩:=ub C
   obtain⟨v,M,C⟩:=ub C
   obtain⟨b,T,C⟩:=ub C
   have ea:u=.int kd a:=by
    unfold uI at S;split at S
    ·obtain⟨hk,ha'⟩:=uc S;simp[T2] at hk ha';subst hk ha';rfl
    ·simp at S
   have eb:v=.int kd b:=by
    unfold uI at T;split at T
    ·obtain⟨hk,hb'⟩:=uc T;simp[T2] at hk hb';subst hk hb';rfl
    ·simp at T
   have px:=(hx 0 u G (by rw[←List.head?_eq_getElem?];exact L)).1 kd a ea
   have py:=(hy 0 v G (by rw[←List.head?_eq_getElem?];exact M)).1 kd b eb
   exact⟨_,_,_,C,C_ F rfl (by simpa using px),C_ F rfl (by simpa using py),run_equalIn_int w D t kd kd a b F⟩
  ·rename_i F
   obtain⟨u,L,C⟩:=ub C
   obtain⟨a,S,C⟩:=ub C
   obtain⟨v,M,C⟩:=ub C
   obtain⟨b,T,C⟩:=ub C
   have ea:u=.bool a:=by unfold asBool at S;split at S<;>simp_all
   have eb:v=.bool b:=by unfold asBool at T;split at T<;>simp_all
   have px:=(hx 0 u G (by rw[←List.head?_eq_getElem?];exact L)).2.1 a ea
   have py:=(hy 0 v G (by rw[←List.head?_eq_getElem?];exact M)).2.1 b eb
   exact⟨_,_,_,C,C_ F rfl (by simpa using px),C_ F rfl (by simpa using py),run_equalIn_bool' w D t a b F⟩
  ·rename_i F
   obtain⟨u,L,C⟩:=ub C
   obtain⟨a,S,C⟩:=ub C
   obtain⟨v,M,C⟩:=ub C
   obtain⟨b,T,C⟩:=ub C
   have ea:u=.str a:=by unfold uJ at S;split at S<;>simp_all
   have eb:v=.str b:=by unfold uJ at T;split at T<;>simp_all
   have px:=(hx 0 u G (by rw[←List.head?_eq_getElem?];exact L)).2.2 a ea
   have py:=(hy 0 v G (by rw[←List.head?_eq_getElem?];exact M)).2.2 b eb
   refine⟨_,_,_,C,C_ F rfl (by simpa using px),C_ F rfl (by simpa using py),?_⟩
   have:=run_equalIn_string w D t ⟨⟨a⟩⟩ ⟨⟨b⟩⟩ F
   rw[this]
   simp[ByteArray.toList_eq]
  ·rename_i fs F
   obtain⟨sz,I,C⟩:=ub C
   obtain⟨hc,V⟩:=A2f C
   simp only[Bool.or_eq_false_iff,Bool.not_eq_false'] at hc
   rw[hs] at I;simp at I;subst I
   obtain⟨b,h1,h2⟩:=VO (kv d D (by omega)) hx hy fs.toList hc.2 V
   refine⟨b,_,_,h1,MY F rfl hs,MY F rfl hs,?_⟩
   have hfo:P.fieldsOf t=fs:=by simp[Program.fieldsOf,F]
   rw[run_equalIn_struct w D t _ _ (by rw[hfo];exact F) hc.1,hfo]
   exact h2
  ·rename_i n e F
   obtain⟨s',U,C⟩:=ub C
   obtain⟨sz,I,C⟩:=ub C
   obtain⟨hc,V⟩:=uc C
   simp only[Bool.and_eq_true,Nat.ble_eq] at hc
   rw[hs] at I;simp at I;subst I
   obtain⟨b,h1,h2⟩:=aP (kv d D (by omega)) U (by omega) hx hy (List.range n) (fun i hi=>by
    have:=List.mem_range.1 hi
    have h3:(i+1)*s'≤n*s':=Nat.mul_le_mul_right _ this
    rw[Nat.succ_mul] at h3;omega) V
   refine⟨b,_,_,h1,MY F rfl hs,MY F rfl hs,?_⟩
   cases hi:P.info? e with
   | none=>simp[Di,hi] at U
   | some i =>
    have Y:P.cellsOf e=s':=by simp[Di,hi] at U;simp[Program.cellsOf,hi,U]
    rw[run_equalIn_array w D _ _ F hi,Y]
    exact h2
  ·simp at C
theorem Atn {c:LA} {org:Bool} {v:Value} {a:LA} {x:AV} (F:Ao5 x=some a) (hr:Rep J β h w x v):∃ cs:List Value,v=.agg ⟨cs⟩∧cs.length=a.length∧∀ n,PRd n a (fun j=>(⟨cs⟩:Array Value)[0+j]?):=by
 unfold Ao5 at F
 split at F
 ·simp at F;subst F
  rw[Rep] at hr
  obtain⟨cs,L,G,T⟩:=hr
  refine⟨cs,L,G,fun n j q _ hq=>?_⟩
  rw[Dl] at T
  obtain⟨u,I,C⟩:=T j q hq
  simp only[Nat.zero_add] at I ⊢
  refine⟨fun k m M=>?_,fun b S=>?_,fun s hs=>?_⟩
  ·subst M;rw[RepC] at C;subst C;simpa using I
  ·subst S;rw[RepC] at C;subst C;simpa using I
  ·subst hs;rw[RepC] at C;subst C;simpa using I
 ·simp at F;subst F
  rw[Rep] at hr
  obtain⟨cs,L,G⟩:=hr
  rw[C3] at G
  refine⟨cs,L,G.1,fun n j q _ hq=>?_⟩
  have D:j<cs.length:=by rw[G.1];exact(List.getElem?_eq_some_iff.1 hq).1
  have C:=G.2 j q cs[j] hq (List.getElem?_eq_getElem D)
  simp only[Nat.zero_add]
  refine⟨fun k m M=>?_,fun b S=>?_,fun s hs=>?_⟩
  ·subst M;rw[Rep] at C;simp[D,C]
  ·subst S;rw[Rep] at C;simp[D,C]
  ·subst hs;rw[Rep] at C;simp[D,C]
 ·simp at F
theorem Ato {op:BinOp} {t:TypeId} {x y:AV} {k:AV→O R} {vx vy:Value} (C:Alo P t op x y k=some r) (M:Rep J β h w x vx) (S:Rep J β h w y vy) (ox oy:Operand) :
  ∃ v vc,k v=some r∧(do eqGuard op t ox oy vx vy;binOp op t vx vy:Sem Value).run P w=.ok vc w∧Rep J β h w v vc:=by
 unfold Alo at C
 split at C
 ·rename_i a b ha hb
  obtain⟨s,hs,C⟩:=ub C
  obtain⟨T,C⟩:=uc C
  simp only[Bool.and_eq_true,Nat.ble_eq,Bool.not_eq_true'] at T
  obtain⟨h1,U,V,F,h4⟩:=T
  have U:=Nat.eq_of_beq_eq_true U
  have V:=Nat.eq_of_beq_eq_true V
  obtain⟨cs,rfl,Y,px⟩:=Atn (c:=[]) (org:=false) ha M
  obtain⟨D,rfl,hl',py⟩:=Atn (c:=[]) (org:=false) hb S
  have hg:=run_eqGuard_agg w op t ox oy ⟨cs⟩ ⟨D⟩ h4
  have whole:∀ (l:List Value),l.length=s→(⟨l⟩:Array Value).extract 0 (0+s)=⟨l⟩:=by
   intro l Y;subst Y;simp
  have key:∀ {kk:Bool→O R},yV P 8 t a b kk=some r→∃ c,kk c=some r∧(Op.equal t (.agg ⟨cs⟩) (.agg ⟨D⟩)).run P w=.ok c w:=by
   intro kk hk
   obtain⟨c,u,u',e1,G,e3,e4⟩:=kv 8 10000 (by omega) r t s a b kk ⟨cs⟩ ⟨D⟩ 0 0 hs (by omega) hk (px s) (py s)
   refine⟨c,e1,?_⟩
   have L:∃ d,P.underlying t=some d∧d.isRow=true:=by
    unfold A67 at F
    split at F
    ·rename_i fs I;exact⟨_,I,rfl⟩
    ·rename_i n e I;exact⟨_,I,rfl⟩
    ·simp at F
   obtain⟨d,I,hd⟩:=L
   rw[MY I hd hs,whole cs (by omega)] at G
   rw[MY I hd hs,whole D (by omega)] at e3
   simp only[Result.ok.injEq,and_true] at G e3
   subst G e3
   exact e4
  split at C
  ·obtain⟨c,e1,G⟩:=key C
   refine⟨_,.bool c,e1,?_,by rw[Rep]⟩
   simp only[Sem.run_bind,hg,Result.andThen_ok,binOp,G,Sem.run_pure]
  ·obtain⟨c,e1,G⟩:=key C
   refine⟨_,.bool (!c),e1,?_,by rw[Rep]⟩
   simp only[Sem.run_bind,hg,Result.andThen_ok,binOp,G,Sem.run_pure]
  ·simp at C
 ·exact Ax9 C M S ox oy
end
end Gx

namespace Gx
open Go Go.MapKept
section
variable {R:Type} {r:R} {P:Program} {J:Bool→Nat→Prop} {β:C1} {h:Am} {w:World} {g:B5}
theorem MZ:∀ (l:List Int) (n:Int),mm (l.map fun m=>.int .i64 m) n=true↔n ∈ l
 | [],n=>by simp[mm]
 | m::r,n=>by
  rw[List.map_cons,mm]
  by_cases e:n=m
  ·simp[e]
  ·simp[e,MZ r n]
theorem Atp {c:LA} {es:Array MapEntry} {l:List Int} (C:es.toList.map (fun e=>(e.key,e.val))=l.map (fun n=>((.int .i64 n:Value),(.bool true:Value)))) {x:MapEntry} (D:x ∈ es.toList):∃ n,n ∈ l∧x.key=.int .i64 n∧x.val=.bool true:=by
 have:=List.mem_map_of_mem (f:=fun e:MapEntry=>(e.key,e.val)) D
 rw[C] at this
 obtain⟨n,hn,k⟩:=List.mem_map.1 this
 simp at k
 exact⟨n,hn,k.1.symm,k.2.symm⟩
theorem A7f {es:Array MapEntry} {l:List Int} (C:es.toList.map (fun e=>(e.key,e.val))=l.map (fun n=>((.int .i64 n:Value),(.bool true:Value)))) {n:Int} (hn:n ∈ l):∃ x ∈ es.toList,x.key=.int .i64 n:=by
 have:=List.mem_map_of_mem (f:=fun n:Int=>((.int .i64 n:Value),(.bool true:Value))) hn
 rw[←C] at this
 obtain⟨x,D,k⟩:=List.mem_map.1 this
 simp at k
 exact⟨x,D,k.1⟩
theorem Atq {c:LA} {es:Array MapEntry} (V:A9t c es) (n:Int) :
  (mm c n=false∧Instr.findNow (.int .i64) (.int .i64 n) es.toList 0=some none) ∨
  (mm c n=true∧∃ j e,Instr.findNow (.int .i64) (.int .i64 n) es.toList 0=some (some (j,.bool true))∧es[j]?=some e∧e.key=.int .i64 n∧e.val=.bool true):=by
 obtain⟨l,rfl,L⟩:=V
 have M:∀ x ∈ es.toList,IsKey (.int .i64) x.key:=fun x S=>by
  obtain⟨m,_,D,_⟩:=Atp (c:=[]) L S
  rw[D];simp[IsKey]
 rcases findNow_spec (d:=.int .i64) (k:=.int .i64 n) (by simp[IsKey]) es.toList 0 M with⟨D,I⟩ | ⟨j,e,D,I,U⟩
 ·left
  refine⟨?_,D⟩
  cases Y:mm (l.map fun m=>.int .i64 m) n with
  | false=>rfl
  | true =>
   obtain⟨x,S,hk⟩:=A7f L ((MZ l n).1 Y)
   exact absurd hk (I x S)
 ·right
  have F:e ∈ es.toList:=List.mem_of_getElem? I
  obtain⟨m,T,C,G⟩:=Atp (c:=[]) L F
  rw[U] at C;simp at C;subst C
  refine⟨(MZ l n).2 T,j,e,?_,by simpa using I,U,G⟩
  rw[D,G,Nat.zero_add]
theorem Aaj {t:TypeId} (hs:Apa P t=true):∃ kt et,P.underlying t=some (.map kt et)∧P.underlying kt=some (.int .i64)∧∀ w,(zeroValue et).run P w=.ok (.bool false) w:=by
 unfold Apa at hs
 split at hs
 ·rename_i kt et I
  simp only[Bool.and_eq_true] at hs
  obtain⟨D,F⟩:=hs
  refine⟨kt,et,I,?_,fun w=>?_⟩
  ·split at D
   ·assumption
   ·cases D
  ·split at F
   ·rename_i k
    unfold Atb at k
    cases hi:P.info? et with
    | none=>rw[hi] at k;simp at k
    | some i =>
     rw[hi] at k
     cases C:i.zero with
     | none=>simp[C] at k
     | some z =>
      simp[C] at k
      have:z=.bool false:=by
       have G:=f4 (J:=fun _ _=>False) (β:=fun _=>none) (h:=[]) (w:=w) z
       rw[k,Rep] at G;exact G
      subst this
      simp[zeroValue,typeInfo,hi,C]
   ·cases F
 ·cases hs
theorem A2j {b:Nat} {x:Blk} {v:Value} (S:SimH J β h w) (F:Au h b=some x) (G:x.dead=false) (hr:Rep J β h w (.omap b) v) :
  ∃ k es clk,x.mp=true∧β b=some (k,0)∧v=.map (some k)∧w.heap[k]?=some (.map es clk)∧A9t x.cells es∧x.sealed=false∧x.pure=true:=by
 rw[Rep] at hr
 obtain⟨y,k,⟨C,I⟩,M,hr⟩:=hr
 rw[F] at C;simp at C;subst C
 rcases hr with hr | L
 ·simp[G] at hr
 ·obtain⟨T,U,k',es,clk,D,V,Y,_⟩:=S.mblk b x F G I
  rw[L] at D;simp at D;subst D
  exact⟨k,es,clk,I,L,M,V,Y,U,T⟩
theorem Aak {d:Nat} {t:TypeId} {k:AV→H8→O R} (S:SimH J β h w) (C:DR d none k=some r) :
  ∃ val ups,k val ups=some r∧(UpsFree d h ups→∃ vc w',(Instr.makeMap t none).run P w=.ok vc w'∧OpDone J β h w ups val vc w'):=by
 unfold DR at C
 refine⟨_,_,C,fun D=>⟨.map (some w.heap.size),w.alloc (.map #[] 0),rfl,?_⟩⟩
 have A:=Step.newMap (x:={ dead:=false,sealed:=false,pure:=true,taint:=false,sz:=0,cells:=[],mp:=true }) S (D.nid (by simp[Bf])) rfl rfl rfl rfl rfl
 refine⟨_,_,A,?_⟩
 rw[Rep]
 exact⟨{ dead:=false,sealed:=false,pure:=true,taint:=false,sz:=0,cells:=[],mp:=true },w.heap.size,⟨by simp[As,Ai],rfl⟩,rfl,.inr (by simp)⟩
theorem Atr {t:TypeId} {m key:AV} {c:Bool} {vm vk:Value} {k:AV→O R} (S:SimH J β h w) (L:Looks g h) (F:Alt P g t m key c k=some r) (M:Rep J β h w m vm) (C:Rep J β h w key vk) :
  ∃ v vc,k v=some r∧(Instr.lookup t vm vk c).run P w=.ok vc w∧Rep J β h w v vc:=by
 unfold Alt at F
 split at F
 ·rename_i b n
  obtain⟨hs,T⟩:=uc F
  obtain⟨x,U,V⟩:=ub T
  obtain⟨Y,h3⟩:=uc V
  obtain⟨hb,hd⟩:=Pj L U
  rw[Rep] at C;subst C
  obtain⟨kk,es,clk,_,hβ,rfl,C,hr,_,_⟩:=A2j S hb hd M
  obtain⟨kt,et,u1,u2,u3⟩:=Aaj hs
  refine⟨_,.bool (mm x.cells n),h3,?_,by rw[Rep]⟩
  have D:IsKey (.int .i64) (.int .i64 n):=by simp[IsKey]
  rcases Atq hr n with⟨G,I⟩ | ⟨G,j,e,I,_,_,_⟩
  ·rw[G]
   simp[Instr.lookup,run_underlying u1,run_getObj_map C,run_checkKey u2 D,run_findKey u2 I,u3,Result.andThen]
  ·rw[G]
   simp[Instr.lookup,run_underlying u1,run_getObj_map C,run_checkKey u2 D,run_findKey u2 I,Result.andThen]
 ·simp at F
theorem Apq {t:TypeId} {m key val:AV} {vm vk vv:Value} {k:AV→H8→O R} (S:SimH J β h w) (hl:Looks g h) (U:rc P g t m key val k=some r) (hm:Rep J β h w m vm) (C:Rep J β h w key vk) (hv:Rep J β h w val vv) :
  ∃ ups,k .undef ups=some r∧∃ J' β' w',(Instr.mapUpdate t vm vk vv).run P w=.ok () w'∧Step J β h w J' β' (As ups h) w':=by
 unfold rc at U
 split at U
 ·rename_i b n
  obtain⟨hs,h1⟩:=uc U
  obtain⟨x,hx,h2⟩:=ub h1
  obtain⟨D,h3⟩:=uc h2
  obtain⟨V,L⟩:=Pj hl hx
  simp only[Rep] at C hv;subst C hv
  obtain⟨kk,es,clk,_,hβ,rfl,C,hr,M,T⟩:=A2j S V L hm
  obtain⟨kt,et,u1,u2,u3⟩:=Aaj hs
  have F:IsKey (.int .i64) (.int .i64 n):=by simp[IsKey]
  have hlt:=f8 C
  refine⟨_,h3,J,β,?_⟩
  rcases Atq hr n with⟨Y,g2⟩ | ⟨Y,j,e,g2,g3,g4,g5⟩
  ·refine⟨{ w with heap:=w.heap.setIfInBounds kk (.map (es.push { key:=.int .i64 n,val:=.bool true,born:=clk }) (clk+1)) },?_,?_⟩
   ·simp[Instr.mapUpdate,run_underlying u1,run_getObj_map C,run_checkKey u2 F,run_findKey u2 g2,run_setObj_map _ C,Result.andThen]
   ·refine Step.setMap S V L D hβ C (heap_set C).1 (fun j hj=>(heap_set C).2 j hj) (by simp) rfl rfl rfl ?_ L M T rfl D
    obtain⟨l,G,I⟩:=hr
    refine⟨l++[n],?_,?_⟩
    ·show Ax7 x.cells n=_
     unfold Ax7;rw[Y,G];simp
    ·simp[I]
  ·refine⟨{ w with heap:=w.heap.setIfInBounds kk (.map (es.modify j fun e=>{ e with key:=.int .i64 n,val:=.bool true }) clk) },?_,?_⟩
   ·simp[Instr.mapUpdate,run_underlying u1,run_getObj_map C,run_checkKey u2 F,run_findKey u2 g2,g3,g4,run_keyThatStays F,run_setObj_map _ C,Result.andThen]
   ·refine Step.setMap S V L D hβ C (heap_set C).1 (fun j hj=>(heap_set C).2 j hj) (by simp) rfl rfl rfl ?_ L M T rfl D
    obtain⟨l,G,I⟩:=hr
    refine⟨l,?_,?_⟩
    ·show Ax7 x.cells n=_
     unfold Ax7;rw[Y,G];rfl
    ·have:es.modify j (fun e=>{ e with key:=.int .i64 n,val:=.bool true })=es:=by
      apply Array.ext_getElem?
      intro i
      rw[Array.getElem?_modify]
      split
      ·rename_i hij;subst hij
       rw[g3];simp;rw[←g4,←g5]
      ·rfl
     rw[this];exact I
 ·simp at U
end
end Gx

namespace Gx
open Go
def kw (E:Env):Prop:=∀ (R:Type) (r:R) (k:AV→H8→O R) (J:Bool→Nat→Prop) (β:C1) (h:Am) (w:World) (g:B5) (d f:Nat) (args:LA) (vs:List Value),
 SimH J β h w→Looks g h→Alu E g d f args k=some r→Reps J β h w args vs →
 ∃ val ups,k val ups=some r∧(UpsFree d h ups→Calls E.P f vs.toArray w fun e w'=>∃ vc,e=.returned vc∧OpDone J β h w ups val vc w')
section
variable {R:Type} {r:R} {P:Program} {J J':Bool→Nat→Prop} {β:C1} {h:Am} {w w':World} {g:B5} {o:Oper} {a:Act} {next:Act→World→Prop} {Q:Exit→Act→World→Prop}
theorem N5 {vc:Value} (k:(execOp a.eval o).run P w=.ok (.value vc) w') (hn:next (a.put o.dst vc) w'):o.wp P a w next Q:=by
 unfold Oper.wp;rw[k];exact hn
theorem Ats (k:(execOp a.eval o).run P w=.ok .skip w') (hn:next (a.put o.dst undef) w'):o.wp P a w next Q:=by
 unfold Oper.wp;rw[k];exact hn
theorem OpDone.same (S:SimH J β h w) {v:AV} {vc:Value} (k:Rep J β h w v vc):OpDone J β h w [] v vc w:=⟨J,β,Step.refl S,k⟩
theorem Aal {s:Hl} (SS:SimS J β h w s a.tmps):∀ (xs:List Operand),Reps J β h w (xs.map (ev s)) (xs.map a.eval)
 | []=>by simp[Reps]
 | x::r=>by rw[List.map_cons,List.map_cons,Reps];exact⟨_,_,rfl,Bn SS x,Aal SS r⟩
theorem BU {s:Hl} (SS:SimS J β h w s a.tmps):∀ (ps:List (Nat×Operand)),RepParts J β h w (ps.map fun p=>(p.1,ev s p.2)) (ps.map fun p=>(p.1,a.eval p.2))
 | []=>by simp[RepParts]
 | p::r=>by rw[List.map_cons,List.map_cons,RepParts];exact⟨_,_,rfl,Bn SS p.2,BU SS r⟩
theorem Aam {s:Hl} (SS:SimS J β h w s a.tmps) (x:Option Operand):HI J β h w (x.map (ev s)) (x.map a.eval):=by
 cases x with
 | none=>simp[HI]
 | some x=>simp[HI];exact Bn SS x
theorem Reps.append:∀ {c c':LA} {cs k:List Value},Reps J β h w c cs→Reps J β h w c' k→Reps J β h w (c++c') (cs++k)
 | [],c',cs,k,C,D=>by rw[Reps] at C;subst C;exact D
 | x::r,c',cs,k,C,D=>by
  rw[Reps] at C
  obtain⟨u,us,rfl,F,G⟩:=C
  rw[List.cons_append,List.cons_append,Reps]
  exact⟨u,us++k,rfl,F,Reps.append G D⟩
theorem Att {J:Nat→Prop}:∀ {c:LA} {cs:List Value},Bb c=true→Reps (fun _ _=>False) (fun _=>none) [] w c cs→RepCs J w c (fun j=>cs[j]?) 0∧cs.length=c.length:=by
 intro c cs G hr
 rw[C3] at hr
 refine⟨?_,hr.1⟩
 rw[Dl]
 intro j x C
 have k:j<cs.length:=by rw[hr.1];exact(List.getElem?_eq_some_iff.1 C).1
 refine⟨cs[j],by simp[k],?_⟩
 have D:=hr.2 j x cs[j] C (List.getElem?_eq_getElem k)
 have I:Bb [x]=true:=by
  clear hr D k
  induction c generalizing j with
  | nil=>simp at C
  | cons y r L =>
   have F:Bb r=true:=by unfold Bb at G;split at G<;>simp_all
   cases j with
   | zero=>simp at C;subst C;cases y<;>simp_all[Bb]
   | succ j=>exact L F j (by simpa using C)
 cases x<;>simp[Bb] at I<;>(rw[Rep] at D;rw[RepC];exact D)
theorem A32 {co:Bool} {v:AV} {vv:Value} (k:∀ (J:Bool→Nat→Prop) (β:C1) (h:Am),Rep J β h w v vv):Rep J β h w (A68 co v) vv:=by
 unfold A68
 split
 ·rename_i c
  cases D:Bb c with
  | false=>exact k J β h
  | true =>
   have C:=k (fun _ _=>False) (fun _=>none) []
   rw[Rep] at C
   obtain⟨cs,rfl,F⟩:=C
   obtain⟨G,I⟩:=Att (J:=J false) D F
   rw[cond_true,Rep]
   exact⟨cs,rfl,I,G⟩
 ·exact k J β h
theorem Apr {co:Bool} {d:Nat} {t:TypeId} {k:AV→H8→O R} (S:SimH J β h w) (Y:Looks g h) (D:r_ P g co d t k=some r) :
  ∃ v val ups,(∃ i,P.info? t=some i∧i.zero=some v)∧k val ups=some r∧(UpsFree d h ups→∃ vc w',(Instr.box t v).run P w=.ok vc w'∧OpDone J β h w ups val vc w'):=by
 have zv:∀ {z:AV},Atb P t=some z→∃ v,(∃ i,P.info? t=some i∧i.zero=some v)∧uH v=z:=by
  intro z C
  unfold Atb at C
  cases hi:P.info? t with
  | none=>simp[hi] at C
  | some i =>
   cases F:i.zero with
   | none=>simp[hi,F] at C
   | some v=>simp[hi,F] at C;exact⟨v,⟨i,rfl,F⟩,C⟩
 unfold r_ at D
 split at D
 ·rename_i el hu C
  obtain⟨v,G,I⟩:=zv C
  obtain⟨sz,hs,D⟩:=ub D
  refine⟨v,_,_,G,D,fun V=>⟨_,_,f9,?_⟩⟩
  have hr:=f4 (J:=J) (β:=β) (h:=h) (w:=w) v
  rw[I,Rep] at hr;subst hr
  have L:∀ b,b=nid d+1→VK d b=true:=fun b hb=>by subst hb;unfold VK nid;simp
  have M:Au h (nid d+1)=none:=V _ (by simp[Bf]) (L _ rfl)
  have T:Au h (nid d)=none:=V.nid (by simp[Bf])
  have A:=Step.newNone S (d:=nid d+1) (x:=Gw sz) M rfl
  have e:([(nid d+1,some (Gw sz)),(nid d,some { dead:=false,sealed:=false,pure:=false,taint:=false,sz:=0,cells:=[.own (nid d+1) 0 0] })]:H8)=[(nid d+1,some (Gw sz))]++[(nid d,some { dead:=false,sealed:=false,pure:=false,taint:=false,sz:=0,cells:=[.own (nid d+1) 0 0] })]:=rfl
  rw[e]
  refine OpDone.after A (nA A.sim ?_ rfl rfl (by simp[Value.cells]) ⟨fun hp=>by simp at hp,fun _ j y U=>?_⟩) (DX _ _)
  ·simp only[As];rw[Ai,if_neg (by omega)];exact T
  ·cases j with
   | zero =>
    simp at U;subst U
    refine⟨.slice none 0 0,by simp[Value.cells],?_,rfl⟩
    rw[Rep]
    exact⟨Gw sz,none,0,⟨by simp[As,Ai],rfl⟩,rfl,Nat.le_refl _,.inl rfl⟩
   | succ j=>simp at U
 ·rename_i z C _
  obtain⟨v,G,I⟩:=zv C
  obtain⟨val,ups,M,T⟩:=Aae S Y D (vv:=v) (A32 fun J β h=>by rw[←I];exact f4 v)
  exact⟨v,val,ups,G,M,T⟩
 ·simp at D
theorem Atu {c x y:AV} {vc vx vy:Value} {k:AV→O R} (C:Alv c x y k=some r) (D:Rep J β h w c vc) (F:Rep J β h w x vx) (G:Rep J β h w y vy) :
  ∃ v,k v=some r∧∃ t:Bool,vc=.bool t∧Rep J β h w v (if t then vx else vy):=by
 unfold Alv at C
 split at C
 ·rename_i t a b
  rw[Rep] at D F G
  subst D F G
  exact⟨_,C,t,rfl,by cases t<;>simp[Rep]⟩
 ·rename_i t x _
  rw[Rep] at D;subst D
  obtain⟨I,L⟩:=uc C
  subst I
  exact⟨_,L,true,rfl,F⟩
 ·rename_i t _ _ _
  rw[Rep] at D;subst D
  obtain⟨I,L⟩:=A2f C
  subst I
  exact⟨_,L,false,rfl,G⟩
 ·rename_i t _ _ _
  rw[Rep] at D;subst D
  cases t
  ·exact⟨_,C,false,rfl,G⟩
  ·exact⟨_,C,true,rfl,F⟩
 ·simp at C
theorem Ayg {E:Env} (hC:kw E) {d:Nat} {s:Hl} {k:AV→H8→O R} (S:SimH J β h w) (SS:SimS J β h w s a.tmps) (hl:Looks g h)
  (C:Aiq E g d (ev s) o.op k=some r) :
  ∃ val ups,k val ups=some r∧(UpsFree d h ups→(∀ vc w',OpDone J β h w ups val vc w'→next (a.put o.dst vc) w')→o.wp E.P a w next Q):=by
 unfold Aiq at C
 have same:∀ {v:AV} {vc:Value},k v []=some r→(execOp a.eval o).run E.P w=.ok (.value vc) w→Rep J β h w v vc →
   ∃ val ups,k val ups=some r∧(UpsFree d h ups→(∀ vc w',OpDone J β h w ups val vc w'→next (a.put o.dst vc) w')→o.wp E.P a w next Q) :=
  fun hk hrun hr=>⟨_,_,hk,fun _ hn=>N5 hrun (hn _ _ (OpDone.same S hr))⟩
 split at C
 ·rename_i x I
  exact same C (by simp[execOp,I]) (Bn SS x)
 ·rename_i x I
  exact same C (by simp[execOp,I]) (Bn SS x)
 ·rename_i c x y I
  obtain⟨v,D,F⟩:=Atu C (Bn SS c) (Bn SS x) (Bn SS y)
  obtain⟨t,ht,hr⟩:=F
  refine same D (vc:=if t then a.eval x else a.eval y) ?_ hr
  cases t<;>simp[execOp,I,ht,Go.asBool]
 ·rename_i t I
  obtain⟨v,val,ups,h0,D,F⟩:=Apr S hl C
  refine⟨val,ups,D,fun U hn=>?_⟩
  obtain⟨vc,w',G,M⟩:=F U
  refine N5 ?_ (hn vc w' M)
  rw[f9] at G
  simp only[Result.ok.injEq] at G
  obtain⟨rfl,rfl⟩:=G
  obtain⟨i,hi,hiz⟩:=h0
  simp[execOp,I,Instr.alloc,zeroValue,typeInfo,hi,hiz,newVar,newRow]
 ·rename_i t x I
  obtain⟨v',h0,hv'⟩:=Apk C (Bn SS x)
  obtain⟨val,ups,D,F⟩:=Aae S hl h0 hv'
  refine⟨val,ups,D,fun U hn=>?_⟩
  obtain⟨vc,w',G,M⟩:=F U
  exact N5 (by simp[execOp,I,G]) (hn vc w' M)
 ·rename_i t parts I
  rw[ku] at C
  obtain⟨v,L,C⟩:=ub C
  obtain⟨u,D,F⟩:=App (P:=E.P) S L (BU SS parts.toList)
  obtain⟨val,ups,G,M⟩:=Ayd S C F
  refine⟨val,ups,G,fun U hn=>N5 ?_ (hn _ _ (M U))⟩
  have:(parts.map fun p=>(p.1,a.eval p.2))=(parts.toList.map fun p=>(p.1,a.eval p.2)).toArray:=by apply Array.ext';simp
  simp[execOp,I,this,D]
 ·rename_i t len parts I
  have:(parts.map fun p=>(p.1,a.eval p.2))=(parts.toList.map fun p=>(p.1,a.eval p.2)).toArray:=by apply Array.ext';simp
  cases hhard:(parts.toList.map fun p=>(p.1,ev s p.2)).any fun p=>A69 p.2 with
  | true =>
   rw[hhard] at C
   obtain⟨val,ups,D,F⟩:=rk S C (BU SS parts.toList)
   refine⟨val,ups,D,fun U hn=>?_⟩
   obtain⟨vc,w',G,M⟩:=F U
   exact N5 (by simp[execOp,I,this,G]) (hn vc w' M)
  | false =>
   rw[hhard] at C
   obtain⟨val,ups,D,F⟩:=nD S hl C (BU SS parts.toList)
   refine⟨val,ups,D,fun U hn=>?_⟩
   obtain⟨vc,w',G,M⟩:=F U
   exact N5 (by simp[execOp,I,this,G]) (hn vc w' M)
 ·rename_i t p I
  obtain⟨v,vc,D,F,G⟩:=uQ S hl C (Bn SS p)
  exact same D (by simp[execOp,I,F]) G
 ·rename_i t p x I
  obtain⟨val,ups,D,J',β',w',F,G,rfl⟩:=Apj S hl C (Bn SS p) (Bn SS x)
  exact⟨.undef,ups,D,fun _ hn=>Ats (w':=w') (by simp[execOp,I,F]) (hn undef w' ⟨J',β',G,by simp[Rep]⟩)⟩
 ·rename_i x I
  have D:=Bn SS x
  split at C
  ·rename_i c oo V
   rw[V] at D
   refine same C (vc:=a.eval x) ?_ D
   rw[Rep,RepC] at D
   obtain⟨ad,F,_⟩:=D
   simp[execOp,I,F]
  ·rename_i b oo V
   rw[V] at D
   refine same C (vc:=a.eval x) ?_ D
   rw[Rep] at D
   obtain⟨_,kk,o',_,F,_⟩:=D
   simp[execOp,I,F]
  ·simp at C
 ·rename_i op t x y t2 I
  obtain⟨v,vc,D,F,G⟩:=Ato C (Bn SS x) (Bn SS y) x y
  refine same D ?_ G
  simp only[execOp,I]
  rw[Sem.run_bind,F];simp
 ·rename_i op t x I
  obtain⟨v,L,C⟩:=ub C
  obtain⟨vc,F,G⟩:=A30 (P:=E.P) L (Bn SS x)
  exact same C (by simp[execOp,I,F]) G
 ·rename_i src dst x I
  obtain⟨val,ups,D,F⟩:=Atm S hl C (Bn SS x)
  refine⟨val,ups,D,fun U hn=>?_⟩
  obtain⟨vc,w',G,M⟩:=F U
  exact N5 (by simp[execOp,I,G]) (hn vc w' M)
 ·rename_i f first caps I
  obtain⟨U,C⟩:=uc C
  have hf':f<1000000:=by simpa using U
  have key:∀ (a n:Nat),a<1000000→(a+1000000*n)%1000000=a∧(a+1000000*n)/1000000=n:=by intro a n h;omega
  have e1:=(key f first.toList.length hf').1
  have e2:=(key f first.toList.length hf').2
  refine same (vc:=.func (.func f) ⟨first.toList.map a.eval⟩ ⟨caps.toList.map a.eval⟩) C ?_ ?_
  ·simp only[execOp,I,Instr.makeFunc]
   simp
   refine⟨?_,?_⟩<;>(apply Array.ext';simp)
  ·rw[Rep,e1,e2]
   refine⟨(first.toList++caps.toList).map a.eval,?_,Aal SS _⟩
   simp
 ·rename_i t l c I
  obtain⟨val,ups,D,F⟩:=Atj S C (Bn SS l) (Bn SS c)
  refine⟨val,ups,D,fun U hn=>?_⟩
  obtain⟨vc,w',G,M⟩:=F U
  exact N5 (by simp[execOp,I,G]) (hn vc w' M)
 ·rename_i t x lo hi mx I
  obtain⟨v,vc,D,F,G⟩:=Api hl C (Bn SS x) (Aam SS lo) (Aam SS hi) (Aam SS mx)
  exact same D (by simp[execOp,I,F]) G
 ·rename_i t x f I
  obtain⟨v,vc,D,F,G⟩:=rj C (Bn SS x)
  exact same D (by simp[execOp,I,F]) G
 ·rename_i t x f I
  obtain⟨v,vc,D,F,G⟩:=Apg C (Bn SS x)
  exact same D (by simp[execOp,I,F]) G
 ·rename_i t x i I
  obtain⟨v,vc,D,F,G⟩:=ri C (Bn SS x) (Bn SS i)
  exact same D (by simp[execOp,I,F]) G
 ·rename_i t x i I
  obtain⟨v,vc,D,F,G⟩:=Aph C (Bn SS x) (Bn SS i)
  exact same D (by simp[execOp,I,F]) G
 ·rename_i t rr I
  cases rr with
  | some x=>simp[DR] at C
  | none =>
   obtain⟨val,ups,D,F⟩:=Aak (P:=E.P) (t:=t) S C
   refine⟨val,ups,D,fun U hn=>?_⟩
   obtain⟨vc,w',G,M⟩:=F U
   exact N5 (by simp[execOp,I,G]) (hn vc w' M)
 ·rename_i t m x y I
  obtain⟨ups,D,J',β',w',F,G⟩:=Apq S hl C (Bn SS m) (Bn SS x) (Bn SS y)
  exact⟨.undef,ups,D,fun _ hn=>Ats (w':=w') (by simp[execOp,I,F]) (hn undef w' ⟨J',β',G,by simp[Rep]⟩)⟩
 ·rename_i t m x c I
  obtain⟨v,vc,D,F,G⟩:=Atr S hl C (Bn SS m) (Bn SS x)
  exact same D (by simp[execOp,I,F]) G
 ·rename_i t i I
  split at C
  ·rename_i vs ht
   obtain⟨v,L,C⟩:=ub C
   have D:=Bn SS t
   rw[ht,Rep] at D
   obtain⟨cs,F,G⟩:=D
   rw[C3] at G
   have hlt:i<cs.length:=by rw[G.1];exact(List.getElem?_eq_some_iff.1 L).1
   refine same C (vc:=cs[i]) ?_ (G.2 i v _ L (List.getElem?_eq_getElem hlt))
   simp[execOp,I,Instr.extract,F,hlt]
  ·simp at C
 ·rename_i c I
  split at C
  ·rename_i Y
   split at C
   ·rename_i x t D F
    obtain⟨v,L,C⟩:=ub C
    have e1:c.args=#[x]:=by apply Array.ext';simpa using D
    have e2:c.argTypes=#[t]:=by apply Array.ext';simpa using F
    obtain⟨vc,G,M⟩:=Aya (P:=E.P) (ty:=o.type) L (Bn SS x)
    refine same C ?_ M
    simp[execOp,I,resolve,Y,e1,e2,invoke,builtin,G]
   ·simp at C
  ·rename_i Y
   split at C
   ·rename_i x y t tx D F
    have e1:c.args=#[x,y]:=by apply Array.ext';simpa using D
    have e2:c.argTypes=#[t,tx]:=by apply Array.ext';simpa using F
    obtain⟨val,ups,G,M⟩:=Ais (ty:=o.type) S hl C (Bn SS x) (Bn SS y)
    refine⟨val,ups,G,fun U hn=>?_⟩
    obtain⟨vc,w',h5,h6⟩:=M U
    refine N5 ?_ (hn vc w' h6)
    simp[execOp,I,resolve,Y,e1,e2,invoke,builtin,h5]
   ·simp at C
  ·rename_i Y
   split at C
   ·rename_i x y t tx D F
    have e1:c.args=#[x,y]:=by apply Array.ext';simpa using D
    have e2:c.argTypes=#[t,tx]:=by apply Array.ext';simpa using F
    obtain⟨val,ups,G,vc,w',h5,h6⟩:=Atl (tx:=tx) (ty:=o.type) S hl C (Bn SS x) (Bn SS y)
    refine⟨val,ups,G,fun U hn=>?_⟩
    refine N5 ?_ (hn vc w' h6)
    simp[execOp,I,resolve,Y,e1,e2,invoke,builtin,h5]
   ·simp at C
  ·rename_i Y
   split at C
   ·rename_i x y D
    obtain⟨v,L,C⟩:=ub C
    have e1:c.args=#[x,y]:=by apply Array.ext';simpa using D
    have F:=Bn SS x
    have G:=Bn SS y
    unfold A3x at L
    split at L
    ·rename_i k1 a1 k2 a2 V hy
     simp at L;subst L
     rw[V,Rep] at F;rw[hy,Rep] at G
     refine same C (vc:=.int k1 (Bj a1 a2)) ?_ (by rw[Rep])
     simp[execOp,I,resolve,Y,e1,invoke,builtin,F,G,Builtin.min_,Builtin.min2,Bj,cond_eq_ite]
    ·simp at L
   ·rename_i x y z D
    obtain⟨q,hq,C⟩:=ub C
    obtain⟨v,L,C⟩:=ub C
    have e1:c.args=#[x,y,z]:=by apply Array.ext';simpa using D
    have F:=Bn SS x
    have G:=Bn SS y
    have M:=Bn SS z
    unfold A3x at hq
    split at hq
    ·rename_i k1 a1 k2 a2 V hy
     simp at hq;subst hq
     unfold A3x at L
     split at L
     ·rename_i k3 a3 k4 a4 hx2 hz
      simp at hx2;obtain⟨rfl,rfl⟩:=hx2
      simp at L;subst L
      rw[V,Rep] at F;rw[hy,Rep] at G;rw[hz,Rep] at M
      refine same C (vc:=.int k1 (Bj (Bj a1 a2) a4)) ?_ (by rw[Rep])
      simp[execOp,I,resolve,Y,e1,invoke,builtin,F,G,M,Builtin.min_,Builtin.min2,Bj,cond_eq_ite]
     ·simp at L
    ·simp at hq
   ·simp at C
  ·rename_i Y
   split at C
   ·rename_i x y D
    obtain⟨v,L,C⟩:=ub C
    have e1:c.args=#[x,y]:=by apply Array.ext';simpa using D
    have F:=Bn SS x
    have G:=Bn SS y
    unfold A3y at L
    split at L
    ·rename_i k1 a1 k2 a2 V hy
     simp at L;subst L
     rw[V,Rep] at F;rw[hy,Rep] at G
     refine same C (vc:=.int k1 (Gc a1 a2)) ?_ (by rw[Rep])
     simp[execOp,I,resolve,Y,e1,invoke,builtin,F,G,Builtin.max_,Builtin.max2,Gc,cond_eq_ite]
    ·simp at L
   ·rename_i x y z D
    obtain⟨q,hq,C⟩:=ub C
    obtain⟨v,L,C⟩:=ub C
    have e1:c.args=#[x,y,z]:=by apply Array.ext';simpa using D
    have F:=Bn SS x
    have G:=Bn SS y
    have M:=Bn SS z
    unfold A3y at hq
    split at hq
    ·rename_i k1 a1 k2 a2 V hy
     simp at hq;subst hq
     unfold A3y at L
     split at L
     ·rename_i k3 a3 k4 a4 hx2 hz
      simp at hx2;obtain⟨rfl,rfl⟩:=hx2
      simp at L;subst L
      rw[V,Rep] at F;rw[hy,Rep] at G;rw[hz,Rep] at M
      refine same C (vc:=.int k1 (Gc (Gc a1 a2) a4)) ?_ (by rw[Rep])
      simp[execOp,I,resolve,Y,e1,invoke,builtin,F,G,M,Builtin.max_,Builtin.max2,Gc,cond_eq_ite]
     ·simp at L
    ·simp at hq
   ·simp at C
  ·rename_i fo Y
   split at C
   ·rename_i f0 caps U
    have D:=Bn SS fo
    rw[U,Rep] at D
    obtain⟨cs0,F,h30⟩:=D
    obtain⟨T,C⟩:=uc C
    have htk:Reps J β h w (caps.take (f0/1000000)) (cs0.take (f0/1000000))∧Reps J β h w (caps.drop (f0/1000000)) (cs0.drop (f0/1000000)):=by
     rw[C3] at h30
     refine⟨C3.2 ⟨by simp[h30.1],fun j x u V hu=>?_⟩,C3.2 ⟨by simp[h30.1],fun j x u V hu=>?_⟩⟩
     ·rw[List.getElem?_take] at V hu
      split at V
      ·rename_i hj;rw[if_pos hj] at hu;exact h30.2 j x u V hu
      ·simp at V
     ·rw[List.getElem?_drop] at V hu;exact h30.2 _ x u V hu
    generalize f0%1000000=f at *
    generalize cs0.take (f0/1000000)=fs at *
    generalize cs0.drop (f0/1000000)=cs at *
    obtain⟨val,ups,M,h5⟩:=hC R r k J β h w g d f _ _ S hl C (htk.1.append ((Aal SS c.args.toList).append htk.2))
    refine⟨val,ups,M,fun hfr hn=>?_⟩
    have hcall:=h5 hfr
    unfold A2a at T
    cases hfn:E.P.funcs[f]? with
    | none=>rw[hfn] at T;simp at T
    | some fn =>
     rw[hfn] at T
     simp at T
     obtain⟨hb1,hb2⟩:=T
     have hb3:fn.body.isNone=false:=by cases hq:fn.body<;>simp_all
     have hargs:(⟨fs⟩:Array Value)++c.args.map a.eval++(⟨cs⟩:Array Value)=(fs++(c.args.toList.map a.eval++cs)).toArray:=by apply Array.ext';simp
     have hrun:(execOp a.eval o).run E.P w=.ok (.enter f (fs++(c.args.toList.map a.eval++cs)).toArray) w:=by
      simp only[execOp,I,Sem.run_bind,resolve,Y,F,Deferred.ofValue,Sem.run_pure,Result.andThen_ok,invoke,callFunc,run_program,hfn]
      simp only[hb3,hargs]
      simp[hb2]
     unfold Oper.wp
     rw[hrun]
     refine Calls.mono hcall ?_
     rintro e w' ⟨vc,rfl,hd⟩
     exact hn vc w' hd
   ·simp at C
  ·simp at C
 ·simp at C
end
end Gx

namespace Gx
open Go
structure Start where
 J:Bool→Nat→Prop
 β:C1
 h:Am
 w:World
structure Inv (Z:Start) (nt:Nat) (J:Bool→Nat→Prop) (β:C1) (st:St) (a:Act) (w:World):Prop where
 sim:SimH J β st.h w
 ss:SimS J β st.h w st.s a.tmps
 tmps:a.tmps.size=nt
 defers:a.defers=[]
 os:w.os=Z.w.os
 tape:w.tape=Z.w.tape
 output:w.output=Z.w.output
 size:Z.w.heap.size≤w.heap.size
 frame:∀ k,k<Z.w.heap.size→¬ Ati Z.β Z.h k→w.heap[k]?=Z.w.heap[k]?
 wr:∀ k,Ati β st.h k→k<Z.w.heap.size→Ati Z.β Z.h k
 jsub:∀ o k,Z.J o k→J o k
 jup:∀ o k,J o k→Z.J o k∨Ati Z.β Z.h k∨Z.w.heap.size≤k
 sizes:∀ k,Bs Z.w k≤Bs w k
 zlt:∀ b x0,Au Z.h b=some x0→b<200000
 zge:∀ b x0,Au Z.h b=some x0→100000≤b
 outs:∀ b x0 x,Au Z.h b=some x0→Au st.h b=some x→x.dead=false→(β b=Z.β b∧x.mp=x0.mp)∧x.sz=x0.sz∧(x0.mp=false→x.cells.length=x0.cells.length)∧x0.dead=false
section
variable {R:Type} {r:R} {Z:Start} {nt:Nat} {J J':Bool→Nat→Prop} {β β':C1} {st:St} {h':Am} {a:Act} {w w':World} {ops:Array Oper} {o:Oper}
theorem Pm {s:Hl} {d:Option Nat} {v:AV} {i:Nat}:Gv (Ax8 nt s d v) i=if d=some i∧i<nt then v else Gv s i:=by
 unfold Ax8
 cases d with
 | none=>simp
 | some d =>
  simp only[Option.some.injEq]
  cases C:Nat.blt d nt with
  | true =>
   have k:d<nt:=by simpa using C
   simp only[cond_true]
   rw[Pk]
   by_cases e:i=d
   ·subst e;simp[k]
   ·rw[if_neg e,if_neg (fun D=>e D.1.symm)]
  | false =>
   have k:¬ d<nt:=by intro F;rw[show Nat.blt d nt=true by simpa using F] at C;cases C
   simp only[cond_false]
   rw[if_neg (fun D=>by obtain⟨G,I⟩:=D;subst G;exact k I)]
theorem SimS.put {h:Am} {s:Hl} {d:Option Nat} {v:AV} {vc:Value} (H:SimS J β h w s a.tmps) (hn:a.tmps.size=nt) (D:Rep J β h w v vc):SimS J β h w (Ax8 nt s d v) (a.put d vc).tmps:=by
 refine⟨fun i u k=>?_,fun i hi=>?_⟩
 ·rw[Pm]
  cases d with
  | none=>simp;exact H.slot i u k
  | some d =>
   simp only[Act.put] at k
   rw[Array.getElem?_setIfInBounds] at k
   by_cases e:d=i
   ·subst e
    simp only[if_true] at k
    by_cases C:d<a.tmps.size
    ·simp[C] at k;subst k
     rw[if_pos ⟨rfl,by omega⟩];exact D
    ·simp[C] at k
   ·rw[if_neg e] at k
    rw[if_neg (fun F=>e (by simpa using F.1))]
    exact H.slot i u k
 ·have hs:(a.put d vc).tmps.size=a.tmps.size:=by cases d<;>simp[Act.put]
  rw[hs] at hi
  rw[Pm,if_neg (by omega)]
  exact H.out i hi
theorem SimS.ext {h:Am} {s:Hl} {t:Array Value} (E:Ext J β h w J' β' h' w') (H:SimS J β h w s t):SimS J' β' h' w' s t :=
 ⟨fun i v k=>Rep.ext E (H.slot i v k),H.out⟩
theorem Inv.step (I:Inv Z nt J β st a w) (A:Step J β st.h w J' β' h' w') (G:∀ b x,Au h' b=some x→Au st.h b=none→H3≤b):Inv Z nt J' β' { s:=st.s,h:=h' } a w' where
 sim:=A.sim
 ss:=I.ss.ext A.ext
 tmps:=I.tmps
 defers:=I.defers
 os:=A.os.trans I.os
 tape:=A.tape.trans I.tape
 output:=A.output.trans I.output
 size:=Nat.le_trans I.size A.size
 frame k C D:=(A.frame k (Nat.lt_of_lt_of_le C I.size) (fun S=>D (I.wr k S C))).trans (I.frame k C D)
 wr k D C:=I.wr k (A.wr k D (Nat.lt_of_lt_of_le C I.size)) C
 jsub o k T:=A.ext.jsub o k (I.jsub o k T)
 jup o k T:=by
  rcases A.jup o k T with L | L | L
  ·exact I.jup o k L
  ·by_cases C:k<Z.w.heap.size
   ·exact .inr (.inl (I.wr k L C))
   ·exact .inr (.inr (by omega))
  ·exact .inr (.inr (Nat.le_trans I.size L))
 sizes k:=by
  refine Nat.le_trans (I.sizes k) ?_
  by_cases D:∃ b o,β b=some (k,o)
  ·obtain⟨b,o,F⟩:=D;exact A.ext.size b k o F
  ·by_cases C:k<w.heap.size
   ·have:=A.frame k C (fun ⟨b,x,o,_,_,_,F⟩=>D ⟨b,o,F⟩)
    simp[Bs,this]
   ·simp[Bs,Array.getElem?_eq_none (Nat.le_of_not_lt C)]
 outs b x0 x Y U hd:=by
  cases F:Au st.h b with
  | none=>have:=G b x U F;have:=I.zlt b x0 Y;unfold H3 at *;omega
  | some y =>
   obtain⟨x',⟨V,gm⟩,M⟩:=A.ext.blk b y F
   change Au h' b=some x at U
   rw[U] at V;simp at V;subst V
   rcases M with M | ⟨M,g3,g4,g5⟩
   ·simp[hd] at M
   ·obtain⟨⟨e1,em⟩,e2,e3,e4⟩:=I.outs b x0 y Y F M
    exact⟨⟨g3.trans e1,gm.trans em⟩,g4.trans e2,fun h=>(g5 (em.trans h)).trans (e3 h),e4⟩
 zlt:=I.zlt
 zge:=I.zge
theorem Inv.put (I:Inv Z nt J β st a w) {d:Option Nat} {v:AV} {vc:Value} (k:Rep J β st.h w v vc):Inv Z nt J β { s:=Ax8 nt st.s d v,h:=st.h } (a.put d vc) w where
 sim:=I.sim
 ss:=I.ss.put I.tmps k
 tmps:=by cases d<;>simp[Act.put,I.tmps]
 defers:=by cases d<;>simp[Act.put,I.defers]
 os:=I.os
 tape:=I.tape
 output:=I.output
 size:=I.size
 frame:=I.frame
 wr:=I.wr
 jsub:=I.jsub
 jup:=I.jup
 sizes:=I.sizes
 zlt:=I.zlt
 zge:=I.zge
 outs:=I.outs
theorem Aan {d:Nat} {F:List Nat} {h:Am}:∀ {ups:H8},iC d F h ups=true→∀ b,Bf ups b=true→(VK d b=true∧Au h b=none)∨(VK d b=false∧J8 F b=true∧∃ x,Au h b=some x)
 | [],_,b,C=>by simp[Bf] at C
 | (i,_)::r,k,b,C=>by
  rw[iC] at k
  simp at k
  rw[Bf] at C
  cases hi:Nat.beq i b with
  | true =>
   have:i=b:=Nat.eq_of_beq_eq_true hi
   subst this
   cases hn:VK d i with
   | true=>rw[hn] at k;simp at k;exact .inl ⟨rfl,k.1⟩
   | false =>
    rw[hn] at k;simp at k
    obtain⟨⟨D,G⟩,_⟩:=k
    exact .inr ⟨rfl,D,Option.isSome_iff_exists.1 G⟩
  | false=>rw[hi] at C;exact Aan k.2 b (by simpa using C)
theorem A7g {d b:Nat} (hn:VK d b=true):H3≤b:=by
 unfold VK nid at hn
 simp at hn
 unfold H3;omega
theorem Aps {d:Nat} {F:List Nat} {h:Am} {ups:H8} (D:iC d F h ups=true) {b:Nat} {x:Blk} (k:Au (As ups h) b=some x) (hn:Au h b=none):H3≤b:=by
 cases hi:Bf ups b with
 | false=>rw[Da _ _ _ hi,hn] at k;cases k
 | true =>
  rcases Aan D b hi with⟨G,_⟩ | ⟨_,_,y,C⟩
  ·exact A7g G
  ·rw[hn] at C;cases C
theorem Ayh {h:Am} {F:List Nat}:Looks (fun b=>cond (J8 F b) (Au h b) none) h:=fun b x k=>by
 cases C:J8 F b with
 | true=>simpa[C] using k
 | false=>simp[C] at k
theorem Aiu {h:Am} {s:Hl} (H:SimS J β h w s a.tmps) {t:Bool} (k:RS ops s o=some t):Region.wanted o (yielded ops a.tmps)=t:=by
 unfold RS at k
 unfold Region.wanted
 split at k
 ·rename_i C;rw[C];simpa using k
 ·rename_i j want C
  rw[C]
  simp only
  unfold yielded
  split at k
  ·rename_i t' D
   rw[D]
   simp only[Option.bind_some]
   cases G:a.tmps[t']? with
   | none =>
    have:=H.out t' (by simpa using G)
    rw[this] at k;simp at k
   | some v =>
    have hr:=H.slot t' v G
    split at k
    ·rename_i b F
     rw[F,Rep] at hr;subst hr
     simp at k;subst k
     simp
    ·rename_i F
     rw[F,Rep] at hr
     obtain⟨cs,rfl,I⟩:=hr
     rw[Reps] at I;subst I
     simp at k;subst k
     simp
    ·simp at k
  ·rename_i D
   rw[D]
   simp at k;subst k
   simp
theorem Aao {E:Env} (hC:kw E) (I:Inv Z E.nt J β st a w) {k:St→Foot→O R} (D:Atf E ops o st k=some r) {K:Act→World→Prop} {Q:Exit→Act→World→Prop} :
  ∃ st' f,k st' f=some r∧((∀ F w' J' β',Inv Z E.nt J' β' st' F w'→K F w')→if Region.wanted o (yielded ops a.tmps) then o.wp E.P a w K Q else K (a.put o.dst undef) w):=by
 unfold Atf at D
 obtain⟨t,L,C⟩:=ub D
 rw[Aiu I.ss L]
 cases t with
 | false =>
  refine⟨_,_,C,fun hK=>?_⟩
  simp only[Bool.false_eq_true,if_false]
  exact hK _ _ J β (I.put (by rw[Rep];exact⟨[],rfl,by rw[Reps]⟩))
 | true =>
  rw[cond_true] at C
  obtain⟨val,ups,M,S⟩:=Ayg (o:=o) (next:=K) (Q:=Q) hC I.sim I.ss Ayh C
  obtain⟨G,T⟩:=uc M
  refine⟨_,_,T,fun hK=>?_⟩
  simp only[if_true]
  refine S (fun b U hn=>?_) (fun vc w' V=>?_)
  ·rcases Aan G b U with⟨_,g⟩ | ⟨g,_⟩
   ·exact g
   ·rw[hn] at g;cases g
  ·obtain⟨J',β',A,Y⟩:=V
   exact hK _ _ J' β' ((I.step A (fun b x hx hn=>Aps G hx hn)).put Y)
def Eqv (a b:St):Prop:=(∀ t,Gv a.s t=Gv b.s t)∧(∀ b',Au a.h b'=Au b.h b')
theorem Eqv.refl (a:St):Eqv a a:=⟨fun _=>rfl,fun _=>rfl⟩
theorem Eqv.symm {a b:St} (h:Eqv a b):Eqv b a:=⟨fun t=>(h.1 t).symm,fun t=>(h.2 t).symm⟩
theorem Eqv.trans {a b c:St} (h:Eqv a b) (k:Eqv b c):Eqv a c:=⟨fun t=>(h.1 t).trans (k.1 t),fun t=>(h.2 t).trans (k.2 t)⟩
theorem Inv.eqv {nt:Nat} {J:Bool→Nat→Prop} {β:C1} {st uU:St} {a:Act} {w:World} (I:Inv Z nt J β st a w) (h:Eqv st uU):Inv Z nt J β uU a w:=by
 have hr:∀ {x v},Rep J β st.h w x v→Rep J β uU.h w x v:=fun F=>Rep.ext ⟨fun _ _ G=>G,fun _ _ _=>rfl,fun b x C=>⟨x,⟨by rw[←h.2 b];exact C,rfl⟩,by cases D:x.dead<;>simp⟩,fun _ _ _ _=>Nat.le_refl _⟩ F
 refine⟨⟨I.sim.jlt,I.sim.jft,fun b x C D L=>?_,fun b x C D L=>I.sim.mblk b x (by rw[h.2];exact C) D L,fun b U x x' k o o' C M=>I.sim.sep b U x x' k o o' (by rw[h.2];exact C) (by rw[h.2];exact M)⟩,⟨fun i v V=>by rw[←h.1 i];exact hr (I.ss.slot i v V),fun i hi=>by rw[←h.1 i];exact I.ss.out i hi⟩,I.tmps,I.defers,I.os,I.tape,I.output,I.size,I.frame,?_,I.jsub,I.jup,I.sizes,I.zlt,I.zge,fun b x0 x Y F=>I.outs b x0 x Y (by rw[h.2];exact F)⟩
 ·rcases I.sim.blk b x (by rw[h.2];exact C) D L with S | ⟨k,o,cs,ty,fr,S,h2,h3,h4,T,h6⟩
  ·exact .inl S
  ·exact .inr ⟨k,o,cs,ty,fr,S,h2,h3,h4,⟨T.1,fun hp j c G=>by
    obtain⟨u,g1,g2,g3⟩:=T.2 hp j c G
    exact⟨u,g1,hr g2,g3⟩⟩,h6⟩
 ·rintro k ⟨b,x,o,C,D,hs,hβ⟩ hk
  exact I.wr k ⟨b,x,o,by rw[h.2];exact C,D,hs,hβ⟩ hk
theorem Aap {st:St} {k:St→O R} (C:rf ops o st k=some r):∃ st',Eqv st st'∧k st'=some r:=by
 unfold rf at C
 split at C
 ·exact⟨st,Eqv.refl _,C⟩
 ·rename_i j want I
  split at C
  ·exact⟨st,Eqv.refl _,C⟩
  ·rename_i t L
   split at C
   ·rename_i b F
    have key:∀ c:Bool,b=c→Eqv st { s:=kg st.s t (.bool c),h:=st.h }:=by
     intro c G
     refine⟨fun i=>?_,fun _=>rfl⟩
     simp only
     rw[Pk]
     by_cases e:i=t
     ·subst e;rw[if_pos rfl,F,G]
     ·rw[if_neg e]
    cases D:(b==want) with
    | true =>
     rw[D] at C
     exact⟨_,key want (by simpa using D),C⟩
    | false =>
     rw[D] at C
     exact⟨_,key (!want) (by cases b<;>cases want<;>simp_all),C⟩
   ·exact⟨st,Eqv.refl _,C⟩
theorem Aaq {E:Env} (hC:kw E) {Q:Exit→Act→World→Prop}:∀ (l:List Oper) {st:St} {tr:List Foot} {k:St→List Foot→O R} {a:Act} {w:World} {J:Bool→Nat→Prop} {β:C1},
  Inv Z E.nt J β st a w→zy E ops l st tr k=some r→(∀ st' D F w' J' β',Inv Z E.nt J' β' st' F w'→k st' D=some r→Q .normal F w')→wpList E.P ops Q l a w
 | [],st,tr,k,a,w,J,β,I,C,hQ=>hQ st tr a w J β I C
 | o::l,st,tr,k,a,w,J,β,I,C,hQ=>by
  rw[zy] at C
  obtain⟨Al1,L,C⟩:=Aap C
  obtain⟨st',f,M,S⟩:=Aao (K:=wpList E.P ops Q l) (Q:=Q) hC (I.eqv L) C
  have:=S (fun F w' J' β' I'=>Aaq hC l I' M hQ)
  rw[wpList]
  split
  ·rename_i G;rw[if_pos G] at this;exact .inl this
  ·rename_i G;rw[if_neg G] at this;exact this
end
end Gx

namespace Gx
open Go
theorem Mm:∀ {l:List Nat} {b:Nat},J8 l b=true↔b ∈ l
  | [],b=>by simp[J8]
  | i::r,b=>by
    rw[J8]
    cases hi:Nat.beq i b with
    | true=>have:=Nat.eq_of_beq_eq_true hi;subst this;simp
    | false => have := Z8 hi; simp only [cond_false, List.mem_cons]; rw [Mm]; constructor
               · exact fun h=>.inr h
               · rintro(h | h)
                 · exact absurd h.symm this
                 · exact h
theorem Wc:∀ {l:List Nat},aE l=true→l.Nodup
 | [],_=>List.nodup_nil
 | i::r,h=>by
  rw[aE] at h;simp at h
  refine List.nodup_cons.2 ⟨fun k=>?_,Wc h.2⟩
  rw[Mm.2 k] at h;simp at h
theorem rm {g:B5} {ids:List Nat}:∀ {l:List Nat},Aab g ids l=true→∀ b ∈ l,∀ x,Kt g b=some x→b ∈ ids
 | [],_,b,k,_,_=>by simp at k
 | i::r,h,b,k,x,D=>by
  rw[Aab] at h;simp at h
  rcases List.mem_cons.1 k with e | k
  ·subst e
   rcases h.1 with C | C
   ·exact Mm.1 C
   ·rw[D] at C;simp at C
  ·exact rm h.2 b k x D
theorem Atv:∀ {l:List Nat},A2d l=true→∀ b ∈ l,H3≤b→Ml b<100000
 | [],_,b,k,_=>by simp at k
 | i::r,h,b,k,hn=>by
  rw[A2d] at h;simp at h
  rcases List.mem_cons.1 k with e | k
  ·subst e
   have:Nat.ble H3 b=true:=by simpa using hn
   rw[this] at h;simpa using h.1
  ·exact Atv h.2 b k hn
theorem DY (g:B5):∀ c:LA,(Le g c).length=c.length
 | []=>rfl
 | x::r=>by rw[Le,List.length_cons,List.length_cons,DY g r]
section
variable {R:Type} {r:R} {Z:Start} {nt:Nat} {J J':Bool→Nat→Prop} {β β':C1} {st:St} {h h':Am} {a:Act} {w w':World} {ids:List Nat}
def Qj (g:B5) (x:Blk):Blk:={ x with cells:=cond x.pure x.cells (Le g x.cells) }
theorem ky {g:B5}:∀ {ids:List Nat},(ids.map Ml).Nodup→∀ c y,Au (DU g ids) c=some y→∃ b x,b ∈ ids∧Ml b=c∧Kt g b=some x∧y=Qj g x
 | [],_,c,y,k=>by simp[DU,Au] at k
 | b::r,hn,c,y,k=>by
  rw[List.map_cons,List.nodup_cons] at hn
  rw[DU] at k
  split at k
  ·rename_i x L
   rw[Ai] at k
   by_cases e:c=Ml b
   ·rw[if_pos e] at k;simp at k
    exact⟨b,x,by simp,e.symm,L,k.symm⟩
   ·rw[if_neg e] at k
    obtain⟨C,x',D,F,G,I⟩:=ky hn.2 c y k
    exact⟨C,x',by simp[D],F,G,I⟩
  ·obtain⟨C,x',D,F,G,I⟩:=ky hn.2 c y k
   exact⟨C,x',by simp[D],F,G,I⟩
theorem DZ {g:B5}:∀ {ids:List Nat},(ids.map Ml).Nodup→∀ b x,b ∈ ids→Kt g b=some x→Au (DU g ids) (Ml b)=some (Qj g x)
 | [],_,b,x,k,_=>by simp at k
 | F::r,hn,b,x,k,C=>by
  rw[List.map_cons,List.nodup_cons] at hn
  rw[DU]
  by_cases e:b=F
  ·subst e
   rw[C]
   simp only
   rw[Ai,if_pos rfl];rfl
  ·have D:b ∈ r:=by simpa[e] using k
   have ne:Ml b≠Ml F:=fun h=>hn.1 (by rw[←h];exact List.mem_map.2 ⟨b,D,rfl⟩)
   split
   ·rw[Ai,if_neg ne];exact DZ hn.2 b x D C
   ·exact DZ hn.2 b x D C
def Aar (ids:List Nat) (c:Nat):Option Nat:=ids.find? fun b=>Nat.beq (Ml b) c
theorem M6 (hn:(ids.map Ml).Nodup) {b:Nat} (k:b ∈ ids):Aar ids (Ml b)=some b:=by
 induction ids with
 | nil=>simp at k
 | cons i r C =>
  rw[List.map_cons,List.nodup_cons] at hn
  unfold Aar at C ⊢
  rw[List.find?_cons]
  by_cases e:b=i
  ·subst e;simp
  ·have D:b ∈ r:=by simpa[e] using k
   have ne:Ml i≠Ml b:=fun h=>hn.1 (by rw[h];exact List.mem_map.2 ⟨b,D,rfl⟩)
   rw[gV ne];exact C hn.2 D
def Bba (g:B5) (ids:List Nat) (l:List Nat):Prop:=∀ b ∈ l,∀ x,Kt g b=some x→b ∈ ids
theorem A33 {b:Nat}:Kt (Au h) b=(Au h b).bind fun x=>cond x.dead none (some x):=rfl
theorem kz {b:Nat} {x y:Blk} (D:Au h b=some x) (k:Kt (Au h) b=some y):y=x∧x.dead=false:=by
 rw[A33,D] at k
 cases C:x.dead with
 | true=>simp[C] at k
 | false=>simp[C] at k;exact⟨k.symm,rfl⟩
mutual
theorem Rep.clean (hn:(ids.map Ml).Nodup):∀ {x:AV} {v:Value},Bba (Au h) ids (Hm x)→Rep J β h w x v →
  Rep J (fun c=>(Aar ids c).bind β) (DU (Au h) ids) w (DT (Au h) x) v
 | .own b off n,v,hm,hr=>by
  rw[Rep] at hr
  obtain⟨x,A,cap,⟨hx,hmp⟩,h1,h2,h3⟩:=hr
  rw[DT]
  cases hv:Kt (Au h) b with
  | none=>simp only;rw[Rep];trivial
  | some y =>
   obtain⟨rfl,hd⟩:=kz hx hv
   have hb:=hm b (by simp[Hm]) _ hv
   simp only
   rw[Rep]
   refine⟨Qj (Au h) y,A,cap,⟨DZ hn b y hb hv,hmp⟩,h1,h2,?_⟩
   rcases h3 with h3 | ⟨k,o,h4,h5⟩
   ·exact .inl h3
   ·refine .inr ⟨k,o,h4,?_⟩
    rcases h5 with h5 | ⟨h5,h6,h7⟩
    ·simp[hd] at h5
    ·refine .inr ⟨by rw[M6 hn hb];exact h5,h6,?_⟩
     have:(Qj (Au h) y).cells.length=y.cells.length:=by
      unfold Qj;cases y.pure
      ·simp;exact DY _ _
      ·rfl
     rw[this];exact h7
 | .optr b off,v,hm,hr=>by
  rw[Rep] at hr
  obtain⟨x,k,o,⟨hx,hmp⟩,h1,h2⟩:=hr
  rw[DT]
  cases hv:Kt (Au h) b with
  | none=>simp only;rw[Rep];trivial
  | some y =>
   obtain⟨rfl,hd⟩:=kz hx hv
   have hb:=hm b (by simp[Hm]) _ hv
   simp only
   rw[Rep]
   refine⟨Qj (Au h) y,k,o,⟨DZ hn b y hb hv,hmp⟩,h1,?_⟩
   rcases h2 with h2 | h2
   ·simp[hd] at h2
   ·exact .inr (by rw[M6 hn hb];exact h2)
 | .omap b,v,hm,hr=>by
  rw[Rep] at hr
  obtain⟨x,k,⟨hx,hmp⟩,h1,h2⟩:=hr
  rw[DT]
  cases hv:Kt (Au h) b with
  | none=>simp only;rw[Rep];trivial
  | some y =>
   obtain⟨rfl,hd⟩:=kz hx hv
   have hb:=hm b (by simp[Hm]) _ hv
   simp only
   rw[Rep]
   refine⟨Qj (Au h) y,k,⟨DZ hn b y hb hv,hmp⟩,h1,?_⟩
   rcases h2 with h2 | h2
   ·simp[hd] at h2
   ·exact .inr (by rw[M6 hn hb];exact h2)
 | .agg c,v,hm,hr=>by
  rw[Rep] at hr
  obtain⟨cs,h1,h2⟩:=hr
  rw[DT,Rep]
  exact⟨cs,h1,Reps.clean hn (by simpa[Hm] using hm) h2⟩
 | .tup c,v,hm,hr=>by
  rw[Rep] at hr
  obtain⟨cs,h1,h2⟩:=hr
  rw[DT,Rep]
  exact⟨cs,h1,Reps.clean hn (by simpa[Hm] using hm) h2⟩
 | .fn f c,v,hm,hr=>by
  rw[Rep] at hr
  obtain⟨cs,h1,h2⟩:=hr
  rw[DT,Rep]
  exact⟨cs,h1,Reps.clean hn (by simpa[Hm] using hm) h2⟩
 | .pagg c o,v,hm,hr=>by show Rep J _ _ w (.pagg c o) v;rw[Rep] at hr ⊢;exact hr
 | .undef,v,hm,hr=>by show Rep J _ _ w (.undef) v;rw[Rep] at hr ⊢;exact hr
 | .imm c n sz t o,v,hm,hr=>by show Rep J _ _ w (.imm c n sz t o) v;rw[Rep] at hr ⊢;exact hr
 | .iptr c o,v,hm,hr=>by show Rep J _ _ w (.iptr c o) v;rw[Rep] at hr ⊢;exact hr
 | .int k n,v,hm,hr=>by show Rep J _ _ w (.int k n) v;rw[Rep] at hr ⊢;exact hr
 | .bool b,v,hm,hr=>by show Rep J _ _ w (.bool b) v;rw[Rep] at hr ⊢;exact hr
 | .str s,v,hm,hr=>by show Rep J _ _ w (.str s) v;rw[Rep] at hr ⊢;exact hr
 | .nsl,v,hm,hr=>by show Rep J _ _ w (.nsl) v;rw[Rep] at hr ⊢;exact hr
 | .nilptr,v,hm,hr=>by show Rep J _ _ w (.nilptr) v;rw[Rep] at hr ⊢;exact hr
 | .nilfn,v,hm,hr=>by show Rep J _ _ w (.nilfn) v;rw[Rep] at hr ⊢;exact hr
theorem Reps.clean (hn:(ids.map Ml).Nodup):∀ {c:List AV} {cs:List Value},Bba (Au h) ids (Jb c)→Reps J β h w c cs →
  Reps J (fun c=>(Aar ids c).bind β) (DU (Au h) ids) w (Le (Au h) c) cs
 | [],cs,hm,hr=>by rw[Reps] at hr;rw[Le,Reps];exact hr
 | x::r,cs,hm,hr=>by
  rw[Reps] at hr
  obtain⟨u,us,h1,h2,h3⟩:=hr
  rw[Le,Reps]
  exact⟨u,us,h1,Rep.clean hn (fun b hb=>hm b (by simp[Jb,hb])) h2,Reps.clean hn (fun b hb=>hm b (by simp[Jb,hb])) h3⟩
end
theorem HN {g:B5} {K:List Nat}:∀ {s:Hl} {i:Nat},Gv (rg g K s) i=if J8 K i=true then DT g (Gv s i) else .undef
 | [],i=>by
  simp only[rg,Gv]
  show AV.undef=if J8 K i=true then AV.undef else AV.undef
  split<;>rfl
 | (t,v)::r,i=>by
  rw[rg,Gv]
  cases k:J8 K t with
  | true =>
   simp only[cond_true,Gv]
   cases hi:Nat.beq t i with
   | true =>
    have:=Nat.eq_of_beq_eq_true hi;subst this
    simp[k]
   | false=>simp only[cond_false];exact HN
  | false =>
   simp only[cond_false]
   rw[HN]
   cases hi:Nat.beq t i with
   | true =>
    have:=Nat.eq_of_beq_eq_true hi;subst this
    simp[k]
   | false=>rfl
theorem Aas {K:List Nat}:∀ {s:Hl} {i:Nat},J8 K i=true→∀ b ∈ Hm (Gv s i),b ∈ Aaa K s
 | [],i,_,b,k=>by simp[Gv,Hm] at k
 | (t,v)::r,i,C,b,k=>by
  rw[Gv] at k
  rw[Aaa]
  cases hi:Nat.beq t i with
  | true =>
   have:=Nat.eq_of_beq_eq_true hi;subst this
   rw[hi] at k
   rw[C];simp at k ⊢;exact .inl k
  | false =>
   rw[hi] at k
   have:=Aas C b k
   cases J8 K t
   ·exact this
   ·simp;exact .inr this
theorem rn {g:B5}:∀ {ids:List Nat} {b:Nat} {x:Blk},b ∈ ids→g b=some x→x.pure=false→∀ c ∈ Jb x.cells,c ∈ Mk g ids
 | [],b,x,k,_,_,_,_=>by simp at k
 | i::r,b,x,k,C,D,c,F=>by
  rw[Mk]
  by_cases e:b=i
  ·subst e;rw[C];simp only[D,cond_false];exact List.mem_append.2 (.inl F)
  ·exact List.mem_append.2 (.inr (rn (by simpa[e] using k) C D c F))
theorem ro:∀ {c:LA} {j:Nat} {x:AV},c[j]?=some x→∀ b ∈ Hm x,b ∈ Jb c
 | [],j,x,k,_,_=>by simp at k
 | y::r,j,x,k,b,C=>by
  rw[Jb]
  cases j with
  | zero=>simp at k;subst k;exact List.mem_append.2 (.inl C)
  | succ j=>exact List.mem_append.2 (.inr (ro (by simpa using k) b C))
theorem uV {g:B5}:∀ {c:LA} {j:Nat} {y:AV},(Le g c)[j]?=some y→∃ x,c[j]?=some x∧y=DT g x
 | [],j,y,k=>by simp[Le] at k
 | x::r,j,y,k=>by
  rw[Le] at k
  cases j with
  | zero=>simp at k;exact⟨x,by simp,k.symm⟩
  | succ j=>obtain⟨x',C,D⟩:=uV (c:=r) (j:=j) (by simpa using k);exact⟨x',by simpa using C,D⟩
theorem A34 {b:Nat} (k:b<H3):Ml b=b:=by
 unfold Ml
 have:Nat.ble H3 b=false:=by
  cases h:Nat.ble H3 b with
  | false=>rfl
  | true=>have:=Nat.le_of_ble_eq_true h;omega
 rw[this];rfl
theorem Atw {K roots:List Nat} {st':St} (I:Inv Z nt J β st a w) (hh:clean K roots st=some st'):∃ β',Inv Z nt J β' st' a w:=by
 unfold clean at hh
 obtain⟨hc,h1⟩:_∧_:=uc hh
 simp only[Bool.and_eq_true] at hc
 obtain⟨c1,c2,c3,c4⟩:=hc
 generalize hids:HK (Au st.h) (DS (Au st.h) (Aaa K st.s++roots))=ids at *
 simp at h1
 have hn:=Wc c1
 have blk:∀ c y,Au (DU (Au st.h) ids) c=some y→∃ b x,b ∈ ids∧Ml b=c∧Au st.h b=some x∧x.dead=false∧y=Qj (Au st.h) x:=by
  intro c y L
  obtain⟨b,x,S,T,Y,g4⟩:=ky hn c y L
  have D:Au st.h b=some x∧x.dead=false:=Pj (fun _ _ h=>h) Y
  exact⟨b,x,S,T,D.1,D.2,g4⟩
 have M:∀ x:Blk,(Qj (Au st.h) x).cells.length=x.cells.length:=fun x=>by
  unfold Qj;cases x.pure
  ·simp;exact DY _ _
  ·rfl
 refine⟨fun c=>(Aar ids c).bind β,?_⟩
 subst h1
 refine⟨⟨I.sim.jlt,I.sim.jft,fun c y L hd hm=>?_,fun c y L hd hm=>by
   obtain⟨b,x,F,rfl,D,C,rfl⟩:=blk c y L
   obtain⟨S,T,k,es,clk,Y,g4,g5,g6⟩:=I.sim.mblk b x D C hm
   have:(Qj (Au st.h) x).cells=x.cells:=by unfold Qj;rw[S];rfl
   exact⟨S,T,k,es,clk,by simp only[M6 hn F,Option.bind_some];exact Y,g4,by rw[this];exact g5,g6⟩,?_⟩,⟨fun i v hv=>?_,fun i hi=>?_⟩,I.tmps,I.defers,I.os,I.tape,I.output,I.size,I.frame,?_,I.jsub,I.jup,I.sizes,I.zlt,I.zge,?_⟩
 ·obtain⟨b,x,F,rfl,D,C,rfl⟩:=blk c y L
  rcases I.sim.blk b x D C hm with⟨S,T⟩ | ⟨k,o,cs,ty,fr,S,T,Y,g4,g5,g6,g7⟩
  ·refine .inl ⟨by simp only[M6 hn F,Option.bind_some];exact S,?_⟩
   have:=M x;rw[T] at this;simpa using this
  ·refine .inr ⟨k,o,cs,ty,fr,by simp only[M6 hn F,Option.bind_some];exact S,T,Y,by rw[M];exact g4,⟨fun hp=>?_,fun hp j q hj=>?_⟩,g6,g7⟩
   ·have G:x.pure=true:=hp
    have:(Qj (Au st.h) x).cells=x.cells:=by unfold Qj;rw[G];rfl
    rw[this];exact g5.1 G
   ·have G:x.pure=false:=hp
    have:(Qj (Au st.h) x).cells=Le (Au st.h) x.cells:=by unfold Qj;rw[G];rfl
    rw[this] at hj
    obtain⟨q',hq,rfl⟩:=uV hj
    obtain⟨u,hu,hr,ho⟩:=g5.2 G j q' hq
    exact⟨u,hu,Rep.clean hn (fun b' U x' V=>rm c3 b' (rn F D G b' (ro hq b' U)) x' V) hr,ho⟩
 ·intro c c' y y' k o o' L hy' hd hd' hs hβ hβ'
  obtain⟨b,x,F,rfl,D,C,rfl⟩:=blk c y L
  obtain⟨b',x',U,rfl,V,hxd',rfl⟩:=blk c' y' hy'
  simp only[M6 hn F,Option.bind_some] at hβ
  simp only[M6 hn U,Option.bind_some] at hβ'
  rw[I.sim.sep b b' x x' k o o' D V C hxd' hs hβ hβ']
 ·rw[HN]
  split
  ·rename_i hk
   exact Rep.clean hn (fun b F x D=>rm c2 b (Aas hk b F) x D) (I.ss.slot i v hv)
  ·rw[Rep];trivial
 ·rw[HN,I.ss.out i hi]
  split
  ·rfl
  ·rfl
 ·rintro k ⟨c,y,o,L,hd,hs,hβ⟩ hk
  obtain⟨b,x,F,rfl,D,C,rfl⟩:=blk c y L
  simp only[M6 hn F,Option.bind_some] at hβ
  exact I.wr k ⟨b,x,o,D,C,hs,hβ⟩ hk
 ·intro c x0 y h0 L hd
  obtain⟨b,x,F,rfl,D,C,rfl⟩:=blk c y L
  have hlt:=I.zlt _ _ h0
  have hge:=I.zge _ _ h0
  have hbo:Ml b=b:=by
   by_cases hnb:H3≤b
   ·have:=Atv c4 b F hnb;omega
   ·exact A34 (by omega)
  rw[hbo] at h0
  obtain⟨⟨e1,em⟩,e2,e3,e4⟩:=I.outs b x0 x h0 D C
  refine⟨⟨?_,em⟩,e2,by rw[M];exact e3,e4⟩
  simp only[M6 hn F,Option.bind_some];rw[hbo];exact e1
end
end Gx

namespace Gx
open Go
section
variable {R:Type}
theorem Az {α β:Type} (b:Bool) (x y:Option α) (f:α→Option β):(cond b x y).bind f=cond b (x.bind f) (y.bind f):=by cases b<;>rfl
theorem RZ {R':Type} (P:Program) (t:TypeId) (c:LA) (o:Bool) (k:Bool→Option R') (f:R'→O R):(BQ P t c o k).bind f=BQ P t c o fun o=>(k o).bind f:=by
 unfold BQ;simp only[Az,Option.bind_none]
theorem Wd (P:Program) (t:TypeId) (c:LA) (org:Bool) (k:AV→O R):aA P t c org k=(aA P t c org some).bind k:=by
 unfold aA
 split<;>simp[Option.bind_assoc,Az,RZ]<;>rfl
theorem Ayi (P:Program) (t:TypeId) (c:LA) (k:AV→O R):uK P t c k=(uK P t c some).bind k:=by
 unfold uK
 split<;>simp[Option.bind_assoc,Az]
theorem uW (n:Nat) (k:AV→O R):∀ (c:LA) (i:Nat),RP n k c i=(RP n some c i).bind k
 | [],_=>rfl
 | v::r,i=>by rw[RP,RP,Az,uW n k r (i+1)];rfl
theorem uX (P:Program) (t:TypeId) (c:LA) (off:Nat) (k:AV→O R):aB P t c off k=(aB P t c off some).bind k:=by
 unfold aB
 split
 ·simp[Option.bind_assoc,Az]
 ·simp[Option.bind_assoc,Az]
 ·exact uW ..
 ·rfl
theorem R_ (P:Program) (g:B5) (t:TypeId) (p:AV) (k:AV→O R):zt P g t p k=(zt P g t p some).bind k:=by
 unfold zt
 split
 ·exact Wd ..
 ·rw[Option.bind_assoc]
  congr 1;funext x
  rw[Az,←Wd,←uX]
 ·rfl
theorem VP (P:Program) (t:TypeId) (x i:AV) (k:AV→O R):V7 P t x i k=(V7 P t x i some).bind k:=by
 unfold V7
 split<;>simp[Option.bind_assoc,Az]
theorem VQ (P:Program) (t:TypeId) (x:AV) (f:Nat) (k:AV→O R):V8 P t x f k=(V8 P t x f some).bind k:=by
 unfold V8
 simp only[Option.bind_assoc,Az]
 congr 1;funext p;congr 1;funext n;congr 1
 split<;>rfl
theorem uY (P:Program) (t:TypeId) (x:AV) (f:Nat) (k:AV→O R):rZ P t x f k=(rZ P t x f some).bind k:=by
 unfold rZ
 rw[Option.bind_assoc]
 congr 1;funext p
 split
 ·exact Wd ..
 ·exact Ayi ..
 ·rfl
theorem uZ (P:Program) (t:TypeId) (x i:AV) (k:AV→O R):r7 P t x i k=(r7 P t x i some).bind k:=by
 unfold r7
 split
 ·simp[Az]
 ·simp only[Option.bind_assoc,Az,←Wd];rfl
 ·simp only[Option.bind_assoc,Az,←uX];rfl
 ·rfl
theorem BV {α:Type} (lo hi mx:Option AV) (n:Nat) (f:Nat→Nat→α) (k:α→O R):(BR lo hi mx n fun l h=>k (f l h))=(BR lo hi mx n fun l h=>some (f l h)).bind k:=by
 unfold BR
 simp[Option.bind_assoc,Az]
theorem u_ (P:Program) (g:B5) (t:TypeId) (x:AV) (lo hi mx:Option AV) (k:AV→O R):r8 P g t x lo hi mx k=(r8 P g t x lo hi mx some).bind k:=by
 unfold r8
 split
 ·rw[Az,←BV];rfl
 ·rw[Option.bind_assoc];congr 1;funext _;exact BV lo hi mx 0 (fun _ _=>AV.nsl) k
 ·rw[Option.bind_assoc];congr 1;funext _;rw[Az,←BV];rfl
 ·rw[Option.bind_assoc];congr 1;funext _;rw[Option.bind_assoc];congr 1;funext _;rw[Az,←BV];rfl
 ·rfl
theorem A35 (P:Program) (t:TypeId) (op:BinOp) (x y:AV) (k:AV→O R):A3u P t op x y k=(A3u P t op x y some).bind k:=by
 unfold A3u
 split
 ·split<;>simp[Az]
 ·split<;>simp[Az]
 ·split<;>simp[Az]
 ·rfl
def pr (v:AV) (u:H8):Option (AV×H8):=some (v,u)
theorem Atx (P:Program) (g:B5) (t:TypeId) (p v:AV) (k:AV→H8→O R):r9 P g t p v k=(r9 P g t p v pr).bind fun q=>k q.1 q.2:=by
 unfold r9
 split
 ·simp only[Option.bind_assoc,Az]
  congr 1;funext x;congr 1;funext n;congr 1;congr 1
  split<;>simp[Az,pr]
 ·rfl
theorem lA (P:Program) (c:LA) (org:Bool):∀ (L:List (Nat×TypeId)) (C:LA) (k:LA→O R),mj P c org L C k=(mj P c org L C some).bind k
 | [],C,k=>rfl
 | (off,t)::L,C,k=>by
  rw[mj,mj,Az]
  congr 1
  rw[Wd,Wd (k:=fun v=>mj P c org L (C++[v]) some),Option.bind_assoc]
  congr 1;funext v
  exact lA P c org L _ k
theorem ua (P:Program) (co:Bool) (t:TypeId) (v:AV) (k:AV→O R):ra P co t v k=(ra P co t v some).bind k:=by
 unfold ra
 split
 ·rename_i c org
  rw[lA,lA (k:=fun l=>cond (Nat.beq c.length l.length) (some (AV.agg l)) none),Option.bind_assoc]
  congr 1;funext l
  rw[Az];rfl
 ·rfl
theorem Al2 (P:Program) (g:B5) (d:Nat) (t:TypeId) (v:AV) (k:AV→H8→O R):Atc P g d t v k=(Atc P g d t v pr).bind fun q=>k q.1 q.2:=by
 unfold Atc
 split<;>simp[Option.bind_assoc,Az,pr]
theorem rp (P:Program) (g:B5) (d:Nat) (t:TypeId) (len:Nat) (ps:List (Nat×AV)) (k:AV→H8→O R):S9 P g d t len ps k=(S9 P g d t len ps pr).bind fun q=>k q.1 q.2:=by
 unfold S9
 split<;>simp[Option.bind_assoc,Az,pr,MX]
theorem yW (P:Program) (g:B5) (d:Nat) (t:TypeId) (len:Nat) (ps:List (Nat×AV)) (k:AV→H8→O R):V9 P g d t len ps k=(V9 P g d t len ps pr).bind fun q=>k q.1 q.2:=by
 unfold V9;rfl
theorem A36 (P:Program) (t:TypeId) (co:Bool) (d:Nat) (v:AV) (k:AV→H8→O R):A3w P t co d v k=(A3w P t co d v pr).bind fun q=>k q.1 q.2:=by
 unfold A3w
 split<;>simp[Az,pr]
theorem Ayj (P:Program) (d:Nat) (t:TypeId) (l c:AV) (k:AV→H8→O R):Alq P d t l c k=(Alq P d t l c pr).bind fun q=>k q.1 q.2:=by
 unfold Alq
 split<;>simp[Option.bind_assoc,Az,pr]
theorem Apt (P:Program) (g:B5) (d:Nat) (t tx:TypeId) (s x:AV) (k:AV→H8→O R):fW P g d t tx s x k=(fW P g d t tx s x pr).bind fun q=>k q.1 q.2:=by
 unfold fW ki
 split<;>simp[Option.bind_assoc,Az,pr,RZ]
theorem Ayk (P:Program) (g:B5) (t:TypeId) (s x:AV) (k:AV→H8→O R):Alr P g t s x k=(Alr P g t s x pr).bind fun q=>k q.1 q.2:=by
 unfold Alr ki
 split<;>simp[Option.bind_assoc,Az,pr,RZ]
theorem Ayl (P:Program) (g:B5) (d:Nat) (src dst:TypeId) (x:AV) (k:AV→H8→O R):Als P g d src dst x k=(Als P g d src dst x pr).bind fun q=>k q.1 q.2:=by
 unfold Als
 split
 ·split<;>simp[Az,pr]
 ·rfl
theorem lB {R':Type} {f:R'→O R} {s1:TypeId→LA→LA→(Bool→Option R')→Option R'} {s2:TypeId→LA→LA→(Bool→O R)→O R} (hs:∀ t x y k,(s1 t x y k).bind f=s2 t x y fun b=>(k b).bind f) {x y:LA} :
  ∀ (l:List (Nat×TypeId)) (k:Bool→Option R'),(MP s1 x y l k).bind f=MP s2 x y l fun b=>(k b).bind f
 | [],k=>rfl
 | (o,t)::r,k=>by
  rw[MP,MP,hs]
  congr 1;funext b
  exact lB hs r _
theorem fa {R':Type} {f:R'→O R} (P:Program):∀ (d:Nat) (t:TypeId) (x y:LA) (k:Bool→Option R'),(yV P d t x y k).bind f=yV P d t x y fun b=>(k b).bind f
 | 0,t,x,y,k=>rfl
 | d+1,t,x,y,k=>by
  rw[yV,yV]
  split<;>simp only[Option.bind_assoc,Az,Option.bind_none]
  ·congr 1;funext sz;rw[lB (fa P d)]
  ·congr 1;funext s;congr 1;funext sz;rw[lB (fa P d)]
theorem Aat (P:Program) (t:TypeId) (op:BinOp) (x y:AV) (k:AV→O R):Alo P t op x y k=(Alo P t op x y some).bind k:=by
 unfold Alo
 split
 ·rw[Option.bind_assoc]
  congr 1;funext s
  rw[Az]
  congr 1
  split
  ·rw[fa];rfl
  ·rw[fa];rfl
  ·rfl
 ·exact A35 ..
theorem Aau (c x y:AV) (k:AV→O R):Alv c x y k=(Alv c x y some).bind k:=by
 unfold Alv
 split<;>first | rfl | (rw[Az];rfl)
theorem Aty (P:Program) (g:B5) (co:Bool) (d:Nat) (t:TypeId) (k:AV→H8→O R):r_ P g co d t k=(r_ P g co d t pr).bind fun q=>k q.1 q.2:=by
 unfold r_
 split
 ·rw[Option.bind_assoc];rfl
 ·exact Al2 ..
 ·rfl
theorem Aav:∀ (T:List (Nat×Tw)) (f:Nat) (C:LA) (h:Am) (k:AV→Am→O R),mo T f C h k=(mo T f C h fun v h'=>some (v,h')).bind fun p=>k p.1 p.2
 | [],f,C,h,k=>rfl
 | (g,t)::r,f,C,h,k=>by
  rw[mo,mo]
  cases Nat.beq g f
  ·exact Aav r f C h k
  ·exact t.eq C h k
theorem Aym (E:Env) (g:B5) (d f:Nat) (C:LA) (k:AV→H8→O R):Alu E g d f C k=(Alu E g d f C pr).bind fun q=>k q.1 q.2:=by
 unfold Alu
 rw[Option.bind_assoc]
 congr 1;funext q
 simp only[Az,Option.bind_none]
 congr 1
 rw[Aav,Aav (R:=AV×H8),Option.bind_assoc]
 congr 1;funext p
 simp only[Az,Option.bind_none,pr,Option.bind_some]
theorem Aiv (d:Nat) (o:Option AV) (k:AV→H8→O R):DR d o k=(DR d o pr).bind fun q=>k q.1 q.2:=by
 unfold DR
 split<;>rfl
theorem Atz (P:Program) (g:B5) (t:TypeId) (m x y:AV) (k:AV→H8→O R):rc P g t m x y k=(rc P g t m x y pr).bind fun q=>k q.1 q.2:=by
 unfold rc
 split<;>simp[Az,Option.bind_assoc,pr]
theorem Aaw (P:Program) (g:B5) (t:TypeId) (m x:AV) (c:Bool) (k:AV→O R):Alt P g t m x c k=(Alt P g t m x c some).bind k:=by
 unfold Alt
 split<;>simp[Az,Option.bind_assoc]
theorem A37 (E:Env) (g:B5) (d:Nat) (v:Operand→AV) (o:Op) (k:AV→H8→O R):Aiq E g d v o k=(Aiq E g d v o pr).bind fun q=>k q.1 q.2:=by
 unfold Aiq
 split
 ·rfl
 ·rfl
 ·rw[Aau,Aau (k:=fun r=>pr r []),Option.bind_assoc];rfl
 ·exact Aty ..
 ·rw[ua,ua (k:=fun u=>Atc E.P g d _ u pr),Option.bind_assoc];congr 1;funext u;exact Al2 ..
 ·rw[ku,ku,Option.bind_assoc];congr 1;funext x;exact A36 ..
 ·rw[Az,←yW,←rp]
 ·rw[R_,R_ (k:=fun r=>pr r []),Option.bind_assoc];rfl
 ·exact Atx ..
 ·split<;>rfl
 ·rw[Aat,Aat (k:=fun r=>pr r []),Option.bind_assoc];rfl
 ·rw[Option.bind_assoc];rfl
 ·exact Ayl ..
 ·rw[Az];rfl
 ·exact Ayj ..
 ·rw[u_,u_ (k:=fun r=>pr r []),Option.bind_assoc];rfl
 ·rw[VQ,VQ (k:=fun r=>pr r []),Option.bind_assoc];rfl
 ·rw[uY,uY (k:=fun r=>pr r []),Option.bind_assoc];rfl
 ·rw[VP,VP (k:=fun r=>pr r []),Option.bind_assoc];rfl
 ·rw[uZ,uZ (k:=fun r=>pr r []),Option.bind_assoc];rfl
 ·exact Aiv ..
 ·exact Atz ..
 ·rw[Aaw,Aaw (k:=fun r=>pr r []),Option.bind_assoc];rfl
 ·split
  ·rw[Option.bind_assoc];rfl
  ·rfl
 ·split
  ·split
   ·rw[Option.bind_assoc];rfl
   ·rfl
  ·split
   ·exact Apt ..
   ·rfl
  ·split
   ·exact Ayk ..
   ·rfl
  ·split
   ·rw[Option.bind_assoc];rfl
   ·simp only[Option.bind_assoc];rfl
   ·rfl
  ·split
   ·rw[Option.bind_assoc];rfl
   ·simp only[Option.bind_assoc];rfl
   ·rfl
  ·split
   ·rw[Az,←Aym];rfl
   ·rfl
  ·rfl
 ·rfl
end
end Gx

namespace Gx
open Go
theorem M_:∀ {l k:List Nat} {b:Nat},b ∈ uM l k↔b ∈ l∨b ∈ k
 | [],k,b=>by simp[uM]
 | i::r,k,b=>by
  rw[uM]
  cases C:J8 k i with
  | true =>
   simp only[cond_true]
   rw[M_]
   have:=Mm.1 C
   constructor
   ·rintro(h | h)
    ·exact .inl (by simp[h])
    ·exact .inr h
   ·rintro(h | h)
    ·rcases List.mem_cons.1 h with e | h
     ·subst e;exact .inr this
     ·exact .inl h
    ·exact .inr h
  | false =>
   simp only[cond_false]
   rw[M_]
   simp only[List.mem_cons]
   constructor
   ·rintro(h | h | h)
    ·exact .inl (.inr h)
    ·exact .inl (.inl h)
    ·exact .inr h
   ·rintro((h | h) | h)
    ·exact .inr (.inl h)
    ·exact .inl h
    ·exact .inr (.inr h)
theorem HO {g g':B5}:∀ {l:List Nat},(∀ b ∈ l,g' b=g b)→Mk g' l=Mk g l
 | [],_=>rfl
 | i::r,h=>by
  rw[Mk,Mk,h i (by simp),HO (fun b k=>h b (by simp[k]))]
theorem nE {g:B5}:∀ {a b:List Nat},Mk g (a++b)=Mk g a++Mk g b
 | [],b=>rfl
 | i::r,b=>by rw[List.cons_append,Mk,Mk,nE,List.append_assoc]
theorem At0 {g g':B5} {ids:List Nat} (h:∀ b ∈ DS g ids,g' b=g b):DS g' ids=DS g ids:=by
 have C:∀ b ∈ ids,g' b=g b:=fun b k=>h b (M_.2 (.inl (List.mem_append.2 (.inl k))))
 have e1:Mk g' ids=Mk g ids:=HO C
 have D:∀ b ∈ Mk g ids,g' b=g b:=fun b k=>h b (M_.2 (.inl (List.mem_append.2 (.inr (by rw[nE];exact List.mem_append.2 (.inl k))))))
 unfold DS
 rw[e1,HO (l:=ids++Mk g ids) (fun b k=>by
  rcases List.mem_append.1 k with k | k
  ·exact C b k
  ·exact D b k)]
section
variable {R:Type} {E:Env} {ops:Array Oper} {o p:Oper} {st Al1 uU:St}
theorem ud {v v':Operand→AV} {parts:Array (Nat×Operand)} (h:∀ q ∈ parts.toList,v' q.2=v q.2):(parts.toList.map fun q=>(q.1,v' q.2))=(parts.toList.map fun q=>(q.1,v q.2)) :=
 List.map_congr_left (fun q hq=>by rw[h q hq])
theorem Ayn {g:B5} {d:Nat} {v v':Operand→AV} {op:Op} {k:AV→H8→O R} (h:∀ x ∈ op.operands.toList,v' x=v x):Aiq E g d v' op k=Aiq E g d v op k:=by
  unfold Aiq
  cases op
  case build t parts =>
    simp only
    rw[ud (v:=v) (v':=v') (fun q hq=>h q.2 (by simp[Op.operands];exact⟨q.1,by simpa using hq⟩))]
  case buildSlice t n parts =>
    simp only
    rw[ud (v:=v) (v':=v') (fun q hq=>h q.2 (by simp[Op.operands];exact⟨q.1,by simpa using hq⟩))]
  case slice t x lo hi mx =>
    simp only
    have C:v' x=v x:=h x (by simp[Op.operands])
    have G:lo.map v'=lo.map v:=by
      cases lo with
      | none=>rfl
      | some y=>simp;exact h y (by simp[Op.operands])
    have I:hi.map v'=hi.map v:=by
      cases hi with
      | none=>rfl
      | some y=>simp;exact h y (by simp[Op.operands])
    have L:mx.map v'=mx.map v:=by
      cases mx with
      | none=>rfl
      | some y=>simp;exact h y (by simp[Op.operands])
    rw[C,G,I,L]
  case makeMap t rr =>
    simp only
    have C:rr.map v'=rr.map v:=by
      cases rr with
      | none=>rfl
      | some y=>simp;exact h y (by simp[Op.operands])
    rw[C]
  case makeFunc f first caps =>
    cases f<;>try rfl
    simp only
    have:(first.toList++caps.toList).map v'=(first.toList++caps.toList).map v:=List.map_congr_left (fun x F=>h x (by simp[Op.operands];simpa using F))
    rw[this]
  case call c =>
    have D:∀ x ∈ c.args.toList,v' x=v x:=fun x F=>h x (by
      simp only[Op.operands,Call.operands,Array.toList_append]
      exact List.mem_append.2 (.inr F))
    have M:c.args.toList.map v'=c.args.toList.map v:=List.map_congr_left D
    simp only
    cases S:c.callee with
    | value f =>
      have T:v' f=v f:=h f (by simp[Op.operands,Call.operands,S])
      simp only[T,M]
    | invoke a b=>rfl
    | builtin b =>
      cases b<;>try rfl
      all_goals
        simp only
        split
        · first
            | (rename_i C G
               simp only[C,List.mem_cons,List.not_mem_nil,or_false,forall_eq_or_imp,forall_eq] at D
               simp only[D])
            | (rename_i C
               simp only[C,List.mem_cons,List.not_mem_nil,or_false,forall_eq_or_imp,forall_eq] at D
               simp only[D])
        all_goals first
          | rfl
          | (rename_i C
             simp only[C,List.mem_cons,List.not_mem_nil,or_false,forall_eq_or_imp,forall_eq] at D
             simp only[D])
  all_goals first
    | rfl
    | (simp[Op.operands] at h;simp[h])
end
end Gx

namespace Gx
open Go
section
variable {R:Type} {E:Env} {ops:Array Oper} {o p:Oper} {st Al1 uU st3:St}
def A2k (ops:Array Oper) (o:Oper):List Nat:=match fX ops o with | some p=>[p.1] | none=>[]
def LT (o:Oper) (s:Hl):LA:=o.op.operands.toList.map (ev s)
def Apu (h:Am) (F:List Nat):B5:=fun b=>cond (J8 F b) (Au h b) none
def Bex (o:Oper):Nat:=o.dst.getD 50000
def Vo (E:Env) (ops:Array Oper) (o:Oper) (st:St):Option (AV×H8×Foot) :=
  (RS ops st.s o).bind fun wanted=>cond wanted
    ((Aiq E (Apu st.h (Zo st.h o.op (LT o st.s))) (Bex o) (ev st.s) o.op pr).bind fun q =>
      cond (iC (Bex o) (Zo st.h o.op (LT o st.s)) st.h q.2) (some (q.1,q.2,{ r:=A2k ops o++ko o.op.operands.toList,w:=o.dst,f:=Zo st.h o.op (LT o st.s),u:=q.2.map (·.1) })) none)
    (some (.tup [],[],{ r:=A2k ops o,w:=o.dst,f:=[],u:=[] }))
def after (E:Env) (o:Oper) (st:St) (q:AV×H8×Foot):St:={ s:=Ax8 E.nt st.s o.dst q.1,h:=As q.2.1 st.h }
theorem fb (k:St→Foot→O R):Atf E ops o st k=(Vo E ops o st).bind fun q=>k (after E o st q) q.2.2:=by
 unfold Atf Vo
 rw[Option.bind_assoc]
 congr 1;funext t
 rw[Az]
 congr 1
 rw[A37,Option.bind_assoc]
 congr 1;funext q
 rw[Az]
 rfl
theorem Aax:∀ {l:List Operand} {t:Nat},Operand.tmp t ∈ l→t ∈ ko l
 | [],t,h=>by simp at h
 | x::r,t,h=>by
  rcases List.mem_cons.1 h with e | h'
  ·subst e;simp[ko]
  ·have k:=Aax h'
   cases x<;>simp[ko]<;>first | exact .inr k | exact k
theorem ue {d:Nat} {F:List Nat} {h k:Am}:∀ {ups:H8},(∀ b ∈ ups.map (·.1),Au k b=Au h b)→iC d F k ups=iC d F h ups
 | [],_=>rfl
 | (b,_)::r,C=>by rw[iC,iC,C b (by simp),ue (fun c D=>C c (by simp at D ⊢;exact .inr D))]
theorem iI {s s2:Hl} (h:∀ t ∈ A2k ops o,Gv s2 t=Gv s t):RS ops s2 o=RS ops s o:=by
 unfold RS
 cases k:o.guard with
 | none=>rfl
 | some q =>
  obtain⟨j,want⟩:=q
  simp only
  cases C:(ops[j]?).bind (·.dst) with
  | none=>rfl
  | some t =>
   have:Gv s2 t=Gv s t:=h t (by simp[A2k,fX,k,C])
   simp only[this]
theorem aQ {q:AV×H8×Foot} (I:Vo E ops o st=some q) (hr:∀ t ∈ q.2.2.r,Gv uU.s t=Gv st.s t) (k:∀ b,b ∈ q.2.2.f∨b ∈ q.2.2.u→Au uU.h b=Au st.h b):Vo E ops o uU=some q:=by
 have U:=I
 unfold Vo at I
 obtain⟨t,F,G⟩:=ub I
 cases t with
 | false =>
  simp at G;subst G
  unfold Vo
  rw[iI (s:=st.s) hr,F];rfl
 | true =>
  rw[cond_true] at G
  obtain⟨x,V,Y⟩:=ub G
  obtain⟨hu,S⟩:=uc Y
  simp at S;subst S
  simp only at hr k
  have T:∀ y ∈ o.op.operands.toList,ev uU.s y=ev st.s y:=fun y hy=>by
   cases y with
   | tmp t=>exact hr t (List.mem_append.2 (.inr (Aax hy)))
   | const _=>rfl
   | global _=>rfl
   | func _=>rfl
  have C:LT o uU.s=LT o st.s:=List.map_congr_left T
  have hF:Zo uU.h o.op (LT o st.s)=Zo st.h o.op (LT o st.s):=by
   unfold Zo at k ⊢
   cases L:A2b o.op with
   | true =>
    rw[L] at k
    cases M:A2c o.op with
    | true=>rfl
    | false=>rw[M] at k;exact At0 (fun b D=>k b (.inl D))
   | false=>rfl
  have hm:Apu uU.h (Zo st.h o.op (LT o st.s))=Apu st.h (Zo st.h o.op (LT o st.s)):=by
   funext b
   unfold Apu
   cases D:J8 (Zo st.h o.op (LT o st.s)) b with
   | false=>rfl
   | true=>simp only[cond_true];exact k b (.inl (Mm.1 D))
  unfold Vo
  rw[iI (s:=st.s) (fun t F=>hr t (List.mem_append.2 (.inl F))),F]
  simp only[Option.bind_some,cond_true]
  rw[C,hF,hm,Ayn T,V]
  simp only[Option.bind_some]
  rw[ue (h:=st.h) (fun b D=>k b (.inr D)),hu]
  rfl
theorem fc:∀ {ups:H8} {b:Nat},Bf ups b=true↔b ∈ ups.map (·.1)
 | [],b=>by simp[Bf]
 | (i,_)::r,b=>by
  rw[Bf]
  cases hi:Nat.beq i b with
  | true=>have:=Nat.eq_of_beq_eq_true hi;subst this;simp
  | false =>
   have ne:=Z8 hi
   simp only[cond_false]
   rw[fc]
   simp only[List.map_cons,List.mem_cons]
   constructor
   ·exact fun h=>.inr h
   ·rintro(h | h)
    ·exact absurd h.symm ne
    ·exact h
theorem A2l {q:AV×H8×Foot} (C:Vo E ops o st=some q):q.2.2.w=o.dst∧q.2.2.u=q.2.1.map (·.1):=by
 unfold Vo at C
 obtain⟨t,G,k⟩:=ub C
 cases t with
 | false=>simp at k;subst k;simp
 | true =>
  rw[cond_true] at k
  obtain⟨x,I,F⟩:=ub k
  obtain⟨L,D⟩:=uc F
  simp at D;subst D;simp
theorem Ho:∀ (ups:H8) {h C:Am},(∀ b,Au C b=Au h b)→∀ b,Au (As ups C) b=Au (As ups h) b
 | [],_,_,k,b=>k b
 | (i,some x)::r,h,C,k,b=>Ho r (fun c=>by rw[Ai,Ai,k c]) b
 | (i,none)::r,h,C,k,b=>by
  rw[As,As]
  refine Ho r (fun c=>?_) b
  rw[k i]
  split
  ·rw[Ai,Ai,k c]
  ·exact k c
theorem At1 {q:AV×H8×Foot} (h:Eqv st uU):Eqv (after E o st q) (after E o uU q):=by
 refine⟨fun t=>?_,fun b=>?_⟩
 ·unfold after;simp only;rw[Pm,Pm,h.1 t]
 ·exact(Ho q.2.1 (fun b=>(h.2 b).symm) b).symm
theorem T4 {i:Nat} {y:Blk}:∀ (ups:H8) {h:Am},Bf ups i=false→∀ b,Au (As ups (G2 h i y)) b=if b=i then some y else Au (As ups h) b
 | [],h,_,b=>Ai h i y b
 | (j,some x)::r,h,hi,b=>by
  rw[Bf] at hi
  cases k:Nat.beq j i with
  | true=>rw[k] at hi;simp at hi
  | false =>
   rw[k] at hi
   have ne:=Z8 k
   rw[As,As,Ho r (h:=G2 (G2 h j x) i y) (fun c=>by
    rw[Ai,Ai,Ai,Ai]
    by_cases e1:c=j
    ·subst e1;simp[ne]
    ·simp[e1]) b]
   exact T4 r hi b
 | (j,none)::r,h,hi,b=>by
  rw[Bf] at hi
  cases k:Nat.beq j i with
  | true=>rw[k] at hi;simp at hi
  | false =>
   rw[k] at hi
   have ne:=Z8 k
   rw[As,As,Ai,if_neg ne]
   split
   ·rename_i x C
    rw[Ho r (h:=G2 (G2 h j { x with dead:=true,pure:=true,cells:=[] }) i y) (fun c=>by
     rw[Ai,Ai,Ai,Ai]
     by_cases e1:c=j
     ·subst e1;simp[ne]
     ·simp[e1]) b]
    exact T4 r hi b
   ·exact T4 r hi b
theorem Xb:∀ (u1 u2:H8) (h:Am),(∀ b,Bf u1 b=true→Bf u2 b=false)→∀ b,Au (As u2 (As u1 h)) b=Au (As u1 (As u2 h)) b
 | [],u2,h,_,b=>rfl
 | (i,some x)::r,u2,h,k,b=>by
  rw[As,As]
  have hi:Bf u2 i=false:=k i (by simp[Bf])
  rw[Xb r u2 (G2 h i x) (fun c C=>k c (by rw[Bf,C];cases Nat.beq i c<;>rfl)) b]
  refine Ho r (fun c=>?_) b
  rw[T4 u2 hi,Ai]
 | (i,none)::r,u2,h,k,b=>by
  rw[As,As]
  have hi:Bf u2 i=false:=k i (by simp[Bf])
  rw[Da u2 h i hi]
  split
  ·rename_i x D
   rw[Xb r u2 _ (fun c C=>k c (by rw[Bf,C];cases Nat.beq i c<;>rfl)) b]
   refine Ho r (fun c=>?_) b
   rw[T4 u2 hi,Ai]
  ·exact Xb r u2 h (fun c C=>k c (by rw[Bf,C];cases Nat.beq i c<;>rfl)) b
theorem Aay:∀ {a l:List Nat},Ate a l=true→∀ b ∈ a,b ∉ l
 | [],l,_,b,k=>by simp at k
 | i::r,l,h,b,k=>by
  rw[Ate] at h;simp at h
  rcases List.mem_cons.1 k with e | k
  ·subst e;intro C;rw[Mm.2 C] at h;simp at h
  ·exact Aay h.2 b k
theorem Aaz {q:AV×H8×Foot} {t:Nat} (h:o.dst≠some t):Gv (after E o st q).s t=Gv st.s t:=by
 unfold after;simp only;rw[Pm,if_neg (fun k=>h k.1)]
theorem Aa0 {q:AV×H8×Foot} {b:Nat} (h:b ∉ q.2.1.map (·.1)):Au (after E o st q).h b=Au st.h b:=by
 unfold after;simp only
 rw[Da]
 cases hi:Bf q.2.1 b with
 | false=>rfl
 | true=>exact absurd (fc.1 hi) h
theorem Al3 {w:Option Nat} {l:List Nat} (h:Bd6 w l=false):∀ t ∈ l,w≠some t:=by
 intro t k e
 subst e
 rw[Bd6,Mm.2 k] at h;cases h
theorem Beh {D k:AV×H8×Foot} (M:Vo E ops p st=some D) (S:Vo E ops o (after E p st D)=some k) (hi:uN D.2.2 k.2.2=true) :
  Vo E ops o st=some k∧Vo E ops p (after E o st k)=some D∧Eqv (after E p (after E o st k) D) (after E o (after E p st D) k):=by
 unfold uN at hi
 simp only[Bool.and_eq_true,Bool.not_eq_true'] at hi
 obtain⟨⟨⟨⟨i1,i2⟩,i3⟩,i4⟩,i5⟩:=hi
 obtain⟨T,u1⟩:=A2l M
 obtain⟨U,u2⟩:=A2l S
 have I:=Aay i4
 have V:=Aay i5
 have a1:Vo E ops o st=some k:=aQ S (fun t L=>(Aaz (by rw[←T];exact Al3 i1 t L)).symm) (fun b C=>(Aa0 (fun G=>by
  rw[←u1] at G
  exact I b G (by rcases C with C | C<;>simp[C]))).symm)
 have a2:Vo E ops p (after E o st k)=some D:=aQ M (fun t L=>Aaz (by rw[←U];exact Al3 i2 t L)) (fun b C=>Aa0 (fun G=>by
  rw[←u2] at G
  rcases C with C | C
  ·exact V b G C
  ·exact I b C (by simp[G])))
 refine⟨a1,a2,fun t=>?_,fun b=>?_⟩
 ·unfold after;simp only
  rw[Pm,Pm,Pm,Pm]
  by_cases e1:p.dst=some t∧t<E.nt
  ·by_cases F:o.dst=some t∧t<E.nt
   ·exfalso
    rw[T,U,e1.1,F.1] at i3
    simp at i3
   ·rw[if_pos e1,if_neg F,if_pos e1]
  ·by_cases F:o.dst=some t∧t<E.nt
   ·rw[if_neg e1,if_pos F,if_pos F]
   ·rw[if_neg e1,if_neg F,if_neg F,if_neg e1]
 ·unfold after;simp only
  refine(Xb D.2.1 k.2.1 st.h (fun c Y=>?_) b).symm
  cases hx:Bf k.2.1 c with
  | false=>rfl
  | true =>
   have m1:c ∈ D.2.2.u:=by rw[u1];exact fc.1 Y
   have m2:c ∈ k.2.2.u:=by rw[u2];exact fc.1 hx
   exact absurd (by simp[m2]) (I c m1)
def RunF (E:Env) (ops:Array Oper) (fp:Nat→Foot):List (Nat×Oper)→St→St→Prop
 | [],st,e=>Eqv st e
 | (i,o)::r,st,e=>∃ q,Vo E ops o st=some q∧q.2.2=fp i∧RunF E ops fp r (after E o st q) e
theorem RunF.congr {fp:Nat→Foot}:∀ {l:List (Nat×Oper)} {st uU e:St},RunF E ops fp l st e→Eqv st uU→RunF E ops fp l uU e
 | [],st,uU,e,h,k=>k.symm.trans h
 | (i,o)::r,st,uU,e,h,k=>by
  rw[RunF] at h ⊢
  obtain⟨q,C,D,F⟩:=h
  exact⟨q,aQ C (fun t _=>(k.1 t).symm) (fun b _=>(k.2 b).symm),D,RunF.congr F (At1 k)⟩
theorem RunF.pull {fp:Nat→Foot} {i:Nat} {o:Oper} {B:List (Nat×Oper)}:∀ {A:List (Nat×Oper)} {st e:St},RunF E ops fp (A++(i,o)::B) st e→(∀ jp ∈ A,uN (fp jp.1) (fp i)=true) →
  ∃ q,Vo E ops o st=some q∧q.2.2=fp i∧RunF E ops fp (A++B) (after E o st q) e
 | [],st,e,h,_=>h
 | (j,p)::A,st,e,h,hA=>by
  rw[List.cons_append,RunF] at h
  obtain⟨k,G,C,I⟩:=h
  obtain⟨D,L,F,M⟩:=RunF.pull I (fun jp S=>hA jp (by simp[S]))
  have hi:uN k.2.2 D.2.2=true:=by rw[C,F];exact hA (j,p) (by simp)
  obtain⟨a1,a2,a3⟩:=Beh G L hi
  refine⟨D,a1,F,?_⟩
  rw[List.cons_append,RunF]
  exact⟨k,a2,C,RunF.congr M a3.symm⟩
end
end Gx
