/- A part of the proof: what it holds is said by each theorem. -/
import GoSem.Step
import Derived.KernelRfl
import Derived.WalkKit
import Derived.Deep.MidRow
import Derived.Deep.AppendSrc
import Derived.Laws.IdiomStrings
import Derived.Deep.Upon
import Derived.Laws.BytesString
import Derived.Laws.Tables
import Derived.Laws.StructEq
import Derived.ChangeKeysEq
import Derived.MapKept
set_option linter.unusedVariables false
set_option linter.defProp false
set_option linter.unusedSimpArgs false
namespace Gx
open Go
inductive AV where
 | int (k:IntKind) (n:Int)
 | bool (b:Bool)
 | str (s:List UInt8)
 | nsl
 | imm (c:List AV) (len sz:Nat) (tight org:Bool)
 | iptr (c:List AV) (org:Bool)
 | pagg (c:List AV) (org:Bool)
 | own (b off len:Nat)
 | optr (b off:Nat)
 | agg (c:List AV)
 | tup (c:List AV)
 | fn (f:Nat) (caps:List AV)
 | nilptr
 | nilfn
 | undef
 | omap (b:Nat)
structure Blk where
 dead:Bool
 sealed:Bool
 pure:Bool
 taint:Bool
 sz:Nat
 cells:List AV
 mp:Bool:=false
abbrev LA:=List AV
abbrev O (R:Type):=Option R
abbrev Am:=List (Nat×Blk)
abbrev Hy:=List (Nat×AV)
def Au:Am→Nat→Option Blk
 | [],_=>none
 | (i,x)::r,b=>cond (Nat.beq i b) (some x) (Au r b)
def G9:Am→Nat→Blk→Am
 | [],b,y=>[(b,y)]
 | (i,x)::r,b,y=>cond (Nat.beq i b) ((b,y)::r) (cond (Nat.blt b i) ((b,y)::(i,x)::r) ((i,x)::G9 r b y))
def G3:Hy→Nat→AV
 | [],_=>.undef
 | (i,x)::r,b=>cond (Nat.beq i b) x (G3 r b)
def mJ:Hy→Nat→AV→Hy
 | [],b,y=>[(b,y)]
 | (i,x)::r,b,y=>cond (Nat.beq i b) ((b,y)::r) (cond (Nat.blt b i) ((b,y)::(i,x)::r) ((i,x)::mJ r b y))
structure St where
 s:Hy
 h:Am
mutual
def v_:Value→AV
 | .int k n=>.int k n
 | .bool b=>.bool b
 | .string ⟨⟨s⟩⟩=>.str s
 | .slice none 0 0=>.nsl
 | .pointer none=>.nilptr
 | .nilFunc=>.nilfn
 | .agg ⟨cs⟩=>.agg (Ug cs)
 | _=>.undef
def Ug:List Value→List AV
 | []=>[]
 | v::r=>v_ v::Ug r
end
def ev (s:Hy):Operand→AV
 | .tmp t=>G3 s t
 | .const v=>v_ v
 | .func f=>cond (Nat.blt f 1000000) (.fn f []) .undef
 | .global _=>.undef
def D1 (P:Program) (t:TypeId):Option Nat:=(P.info? t).map (·.size)
def Ar0 (P:Program) (t:TypeId):Option Nat:=(P.info? t).map (·.bytes)
def A41 (P:Program) (t:TypeId):Bool:=((P.info? t).map (·.hasPointers)).getD true
def Awg (P:Program) (t:TypeId):Option AV:=((P.info? t).bind (·.zero)).map v_
def Ba:LA→Bool
 | []=>true
 | .int ..::r=>Ba r
 | .bool _::r=>Ba r
 | .str _::r=>Ba r
 | .nsl::r=>Ba r
 | .nilptr::r=>Ba r
 | .nilfn::r=>Ba r
 | _=>false
def Acd (P:Program) (t:TypeId):Option (LA) :=
 (P.info? t).bind fun i=>(i.zero).bind fun v=>cond (Ba (Ug v.cells.toList)&&Nat.beq v.cells.toList.length i.size) (some (Ug v.cells.toList)) none
def tE (op:BinOp) (k:IntKind) (a b:Int):Option AV :=
 match op with
 | .add=>some (.int k (k.wrap (a+b)))
 | .sub=>some (.int k (k.wrap (a - b)))
 | .mul=>some (.int k (k.wrap (a*b)))
 | .and=>some (.int k (k.wrap ((BitVec.ofInt k.bits a &&& BitVec.ofInt k.bits b).toNat:Int)))
 | .or=>some (.int k (k.wrap ((BitVec.ofInt k.bits a ||| BitVec.ofInt k.bits b).toNat:Int)))
 | .xor=>some (.int k (k.wrap ((BitVec.ofInt k.bits a ^^^ BitVec.ofInt k.bits b).toNat:Int)))
 | .andNot=>some (.int k (k.wrap ((BitVec.ofInt k.bits a &&& ~~~ (BitVec.ofInt k.bits b)).toNat:Int)))
 | .eql=>some (.bool (a==b))
 | .neq=>some (.bool (a != b))
 | .lss=>some (.bool (decide (a<b)))
 | .leq=>some (.bool (decide (a≤b)))
 | .gtr=>some (.bool (decide (a>b)))
 | .geq=>some (.bool (decide (a≥b)))
 | _=>none
def Uh (k k':IntKind):Bool:=decide (k=k')
def gZ (P:Program) (t:TypeId):Bool:=match P.underlying t with | some .bool=>true | _=>false
def A6q {R:Type} (P:Program) (t:TypeId) (op:BinOp) (x y:AV) (r:AV→O R):O R :=
 match x,y with
 | .int k a,.int k' b =>
  match op with
  | .shl=>cond (decide (b<0)) none (r (.int k (k.wrap (a*2 ^ (min b.toNat k.bits)))))
  | .shr=>cond (decide (b<0)) none (r (.int k (a.fdiv (2 ^ (min b.toNat k.bits)))))
  | .quo=>cond (Uh k k') (cond (b==0) none (r (.int k (k.wrap (a.tdiv b))))) none
  | .rem=>cond (Uh k k') (cond (b==0) none (r (.int k (a.tmod b)))) none
  | op=>cond (Uh k k') ((tE op k a b).bind r) none
 | .bool a,.bool b =>
  match op with
  | .eql=>cond (gZ P t) (r (.bool (a==b))) none
  | .neq=>cond (gZ P t) (r (.bool (!(a==b)))) none
  | _=>none
 | .str a,.str b =>
  match op with
  | .add=>cond (Nat.ble (a.length+b.length) 140737488355328) (r (.str (a++b))) none
  | .eql=>r (.bool (a==b))
  | .neq=>r (.bool (!(a==b)))
  | .lss=>r (.bool (Op.bytesLess a b))
  | .leq=>r (.bool (Op.bytesLess a b||a==b))
  | .gtr=>r (.bool (!(Op.bytesLess a b||a==b)))
  | .geq=>r (.bool (!Op.bytesLess a b))
  | _=>none
 | _,_=>none
def Bha (op:UnOp) (x:AV):Option AV :=
 match op,x with
 | .neg,.int k n=>some (.int k (k.wrap (0 - n)))
 | .xor,.int k n=>tE .xor k (cond k.signed (-1) k.max) n
 | .not,.bool b=>some (.bool (!b))
 | _,_=>none
def va (k:IntKind):AV→Option Int
 | .int k' n=>cond (Uh k k') (some n) none
 | _=>none
def asBool:AV→Option Bool
 | .bool b=>some b
 | _=>none
def vd:AV→Option (List UInt8)
 | .str s=>some s
 | _=>none
def A6r (sz:Nat):AV→Option (LA×Nat)
 | .imm c len sz' _ _=>cond (Nat.beq sz sz') (some (c,len)) none
 | .nsl=>some ([],0)
 | _=>none
def A95:AV→Option UInt8
 | .int .u8 n=>some (UInt8.ofNat n.toNat)
 | _=>none
def Abz:LA→Option (List UInt8)
 | []=>some []
 | x::r=>(A95 x).bind fun b=>(Abz r).bind fun l=>some (b::l)
def N_ {R:Type} (step:TypeId→LA→LA→(Bool→O R)→O R) (x y:LA):List (Nat×TypeId)→(Bool→O R)→O R
 | [],k=>k true
 | (off,t)::r,k=>step t (x.drop off) (y.drop off) fun b=>N_ step x y r fun c=>k (b&&c)
def Ar1 (P:Program) (sz:Nat) (f:Field):Bool:=match D1 P f.type with
 | some s => Nat.ble 1 s && (Nat.ble (f.offset + s) sz && !(f.name == "_"))
 | none=>false
def zq {R:Type} (P:Program):Nat→TypeId→LA→LA→(Bool→O R)→O R
 | 0,_,_,_,_=>none
 | d+1,t,x,y,k=>match P.underlying t with
  | some (.int kd)=>(x.head?).bind fun u=>(va kd u).bind fun a=>(y.head?).bind fun v=>(va kd v).bind fun b=>k (a==b)
  | some .bool=>(x.head?).bind fun u=>(asBool u).bind fun a=>(y.head?).bind fun v=>(asBool v).bind fun b=>k (a==b)
  | some .string=>(x.head?).bind fun u=>(vd u).bind fun a=>(y.head?).bind fun v=>(vd v).bind fun b=>k (a==b)
  | some (.struct fs)=>(D1 P t).bind fun sz=>cond (P.stoodInHeld t||!(fs.toList.all (Ar1 P sz))) none (N_ (zq P d) x y (fs.toList.map fun f=>(f.offset,f.type)) k)
  | some (.array n e)=>(D1 P e).bind fun s=>(D1 P t).bind fun sz=>cond (Nat.ble 1 s&&Nat.ble (n*s) sz) (N_ (zq P d) x y ((List.range n).map fun i=>(i*s,e)) k) none
  | _=>none
def Ar2:AV→Option (LA)
 | .pagg c _=>some c
 | .agg c=>some c
 | _=>none
def A96 (P:Program) (t:TypeId):Bool:=match P.underlying t with | some (.struct _)=>true | some (.array _ _)=>true | _=>false
def Aof {R:Type} (P:Program) (t:TypeId) (op:BinOp) (x y:AV) (r:AV→O R):O R :=
 match Ar2 x,Ar2 y with
 | some a,some b=>(D1 P t).bind fun s=>cond (Nat.ble 1 s&&(Nat.beq a.length s&&(Nat.beq b.length s&&(A96 P t&&!(P.eqGuardType P.depth t)))))
  (match op with
   | .eql=>zq P 8 t a b fun c=>r (.bool c)
   | .neq=>zq P 8 t a b fun c=>r (.bool (!c))
   | _=>none) none
 | _,_=>A6q P t op x y r
def CK {R:Type} (P:Program) (t:TypeId) (c:LA) (org:Bool) (k:Bool→O R):O R :=
 cond (A41 P t) (k org) (cond (!org||Ba c) (k false) none)
def bZ {R:Type} (P:Program) (t:TypeId) (c:LA) (org:Bool) (k:AV→O R):O R :=
 match P.underlying t with
 | some (.int kd)=>(c.head?).bind fun x=>(va kd x).bind fun n=>k (.int kd n)
 | some .bool=>(c.head?).bind fun x=>(asBool x).bind fun b=>k (.bool b)
 | some .string=>(c.head?).bind fun x=>(vd x).bind fun s=>k (.str s)
 | some (.slice e)=>(D1 P e).bind fun sz=>(c.head?).bind fun x=>(A6r sz x).bind fun p=>k (.imm p.1 p.2 sz false org)
 | some (.struct _)=>(D1 P t).bind fun n=>cond (Nat.ble n c.length) (CK P t (c.take n) org fun o=>k (.pagg (c.take n) o)) none
 | some (.array _ _)=>(D1 P t).bind fun n=>cond (Nat.ble n c.length) (CK P t (c.take n) org fun o=>k (.pagg (c.take n) o)) none
 | _=>none
def TE {R:Type} (n:Nat) (k:AV→O R):LA→Nat→O R
 | [],_=>none
 | v::r,i=>cond (Nat.beq n i) (k v) (TE n k r (i+1))
def ve {R:Type} (P:Program) (t:TypeId) (c:LA) (k:AV→O R):O R :=
 match P.underlying t with
 | some (.struct _)=>(D1 P t).bind fun n=>cond (Nat.ble n c.length) (k (.agg (c.take n))) none
 | some (.array _ _)=>(D1 P t).bind fun n=>cond (Nat.ble n c.length) (k (.agg (c.take n))) none
 | some _=>(c.head?).bind k
 | none=>none
def b6 {R:Type} (P:Program) (t:TypeId) (c:LA) (off:Nat) (k:AV→O R):O R :=
 match P.underlying t with
 | some (.struct _)=>(D1 P t).bind fun n=>cond (Nat.ble n (c.drop off).length) (k (.agg ((c.drop off).take n))) none
 | some (.array _ _)=>(D1 P t).bind fun n=>cond (Nat.ble n (c.drop off).length) (k (.agg ((c.drop off).take n))) none
 | some _=>TE off k c 0
 | none=>none
abbrev Cb:=Nat→Option Blk
def Lf (g:Cb) (b:Nat):Option Blk:=(g b).bind fun x=>cond x.dead none (some x)
def Ace {R:Type} (P:Program) (g:Cb) (t:TypeId) (p:AV) (k:AV→O R):O R :=
 match p with
 | .iptr c org=>bZ P t c org k
 | .optr b off=>(Lf g b).bind fun x=>cond x.pure (bZ P t (x.cells.drop off) x.taint k) (b6 P t x.cells off k)
 | _=>none
def Ac (i:Int) (n:Nat):Bool:=decide (0≤i)&&decide (i<(n:Int))
def Wq {R:Type} (P:Program) (t:TypeId) (x i:AV) (k:AV→O R):O R :=
 match P.underlying t,x,i with
 | some (.slice el),.imm c len sz _ org,.int _ i=>(D1 P el).bind fun sz'=>cond (Nat.beq sz sz') (cond (Ac i len) (k (.iptr (c.drop (i.toNat*sz)) org)) none) none
 | some (.slice el),.own b off len,.int _ i=>(D1 P el).bind fun sz=>cond (Ac i len) (k (.optr b (off+i.toNat*sz))) none
 | some (.array len el),.iptr c org,.int _ i=>(D1 P el).bind fun sz=>cond (Ac i len) (k (.iptr (c.drop (i.toNat*sz)) org)) none
 | some (.array len el),.optr b off,.int _ i=>(D1 P el).bind fun sz=>cond (Ac i len) (k (.optr b (off+i.toNat*sz))) none
 | _,_,_=>none
def Ab0 (P:Program) (t:TypeId) (f:Nat):Option (Nat×TypeId) :=
 match P.underlying t with
 | some (.struct fs)=>(fs[f]?).map fun x=>(x.offset,x.type)
 | _=>none
def Wr {R:Type} (P:Program) (t:TypeId) (x:AV) (f:Nat) (k:AV→O R):O R :=
 (Ab0 P t f).bind fun p=>(D1 P p.2).bind fun n=>cond (Nat.beq n 0) none
 (match x with
 | .iptr c org=>k (.iptr (c.drop p.1) org)
 | .optr b off=>k (.optr b (off+p.1))
 | _=>none)
def tF {R:Type} (P:Program) (t:TypeId) (x:AV) (f:Nat) (k:AV→O R):O R :=
 (Ab0 P t f).bind fun p =>
 match x with
 | .pagg c org=>bZ P p.2 (c.drop p.1) org k
 | .agg c=>ve P p.2 (c.drop p.1) k
 | _=>none
def tG {R:Type} (P:Program) (t:TypeId) (x i:AV) (k:AV→O R):O R :=
 match P.underlying t,x,i with
 | some .string,.str s,.int _ i=>cond (Ac i s.length) (k (.int .u8 ((s.getD i.toNat 0).toNat:Int))) none
 | some (.array len el),.pagg c org,.int _ i=>(D1 P el).bind fun sz=>cond (Ac i len) (bZ P el (c.drop (i.toNat*sz)) org k) none
 | some (.array len el),.agg c,.int _ i=>(D1 P el).bind fun sz=>cond (Ac i len) (b6 P el c (i.toNat*sz) k) none
 | _,_,_=>none
def oG (o:Option AV) (d:Nat):Option Int:=match o with | none=>some (d:Int) | some (.int _ i)=>some i | _=>none
def CL {R:Type} (lo hi mx:Option AV) (n:Nat) (k:Nat→Nat→O R):O R :=
 (oG lo 0).bind fun l=>(oG hi n).bind fun h=>(oG mx n).bind fun m=>cond (mx.isSome&&!hi.isSome) none <|
 cond (decide (0≤l)&&(decide (l≤h)&&(decide (h≤m)&&decide (m≤(n:Int))))) (k l.toNat h.toNat) none
def A42 (tight:Bool) (hi mx:Option AV):Bool:=match hi,mx with | none,none=>tight | some (.int _ a),some (.int _ b)=>a==b | _,_=>false
def tH {R:Type} (P:Program) (g:Cb) (t:TypeId) (x:AV) (lo hi mx:Option AV) (k:AV→O R):O R :=
 match P.underlying t,x with
 | some .string,.str s=>cond mx.isSome none (CL lo hi none s.length fun l h=>k (.str ((s.drop l).take (h - l))))
 | some (.slice el),.nsl=>(D1 P el).bind fun _=>CL lo hi mx 0 fun _ _=>k .nsl
 | some (.slice el),.imm c n sz tight org=>(D1 P el).bind fun sz'=>cond (Nat.beq sz sz') (CL lo hi mx n fun l h =>
   k (.imm ((c.drop (l*sz)).take ((h - l)*sz)) (h - l) sz (A42 tight hi mx) org)) none
 | some (.slice el),.own b off n=>(D1 P el).bind fun sz=>(Lf g b).bind fun y=>cond (Nat.beq sz y.sz) (CL lo hi mx n fun l h=>k (.own b (off+l*sz) (h - l))) none
 | _,_=>none
def Ber (P:Program) (t:TypeId) (x:AV):Option AV :=
 match P.underlying t,x with
 | some (.slice _),.nsl=>some (.int .i64 0)
 | some (.slice _),.imm _ n _ _ _=>some (.int .i64 n)
 | some (.slice _),.own _ _ n=>some (.int .i64 n)
 | some .string,.str s=>some (.int .i64 s.length)
 | some (.array n _),_=>some (.int .i64 n)
 | _,_=>none
def A43 (g:Cb) (sz:Nat):AV→Option (LA×Nat×Bool)
 | .nsl=>some ([],0,false)
 | .imm c n sz' _ org=>cond (Nat.beq sz sz') (some (c,n,org)) none
 | .own b off n=>(Lf g b).bind fun x=>cond (x.pure&&Nat.beq sz x.sz) (some ((x.cells.drop off).take (n*sz),n,x.taint)) none
 | .str s=>cond (Nat.beq sz 1) (some (s.map fun b=>.int .u8 (b.toNat:Int),s.length,false)) none
 | _=>none
def mK {R:Type} (P:Program) (el:TypeId) (g:Cb) (sz:Nat) (x:AV) (k:LA×Nat×Bool→O R):O R :=
 (A43 g sz x).bind fun q=>CK P el q.1 q.2.2 fun o=>k (q.1,q.2.1,o)
abbrev Ip:=List (Nat×Option Blk)
def jI (g:Cb):AV→Option (AV×Ip×Bool)
 | .own b off n=>(Lf g b).bind fun x=>cond x.pure (some (.imm ((x.cells.drop off).take (n*x.sz)) n x.sz false x.taint,[(b,some { x with sealed:=true })],x.taint)) none
 | .optr .. | .agg _ | .tup _ | .undef | .fn .. | .omap _=>none
 | .imm c n sz t org=>some (.imm c n sz t org,[],org)
 | .iptr c org=>some (.iptr c org,[],org)
 | .pagg _ _=>none
 | v=>some (v,[],false)
def EQ (g:Cb):LA→Option (LA×Ip×Bool)
 | []=>some ([],[],false)
 | v::r=>(jI g v).bind fun p=>(EQ g r).bind fun q=>some (p.1::q.1,p.2.1++q.2.1,p.2.2||q.2.2)
def DV (g:Cb):AV→Option (LA×Ip×Bool)
 | .pagg c org=>some (c,[],org)
 | .agg c=>EQ g c
 | v=>EQ g [v]
def C0 (c:LA) (off:Nat) (vs:LA):LA:=c.take off++vs++c.drop (off+vs.length)
def Bj:Ip→Nat→Bool
 | [],_=>false
 | (i,_)::r,b=>cond (Nat.beq i b) true (Bj r b)
def N' (g:Cb):AV→Bool
 | .own b _ _=>(Lf g b).isSome
 | .optr b _=>(Lf g b).isSome
 | .agg _=>false
 | .pagg _ _=>false
 | .tup _=>false
 | .undef=>false
 | .omap _=>false
 | _=>true
def OA (g:Cb):LA→Bool
 | []=>true
 | v::r=>N' g v&&OA g r
def setCells (c:LA) (off:Nat) (vs:LA):LA:=match vs with | [y]=>c.set off y | ys=>C0 c off ys
def tI {R:Type} (P:Program) (g:Cb) (t:TypeId) (p v:AV) (k:AV→Ip→O R):O R :=
  match p with
  | .optr b off=>(Lf g b).bind fun x=>(D1 P t).bind fun n =>
    cond x.sealed none
    (cond x.pure
      ((DV g v).bind fun q=>cond (Nat.beq q.1.length n&&(Nat.ble (off+n) x.cells.length&&!Bj q.2.1 b))
        (k .undef (q.2.1++[(b,some { x with cells:=setCells x.cells off q.1,taint:=x.taint||q.2.2 })])) none)
      (match v with
        | .agg c=>cond (OA g c&&(Nat.beq c.length n&&Nat.ble (off+n) x.cells.length)) (k .undef [(b,some { x with cells:=C0 x.cells off c })]) none
        | .pagg c org=>cond (Nat.beq off 0&&(Nat.beq c.length n&&Nat.beq x.cells.length n)) (k .undef [(b,some { x with pure:=true,taint:=org,cells:=c })]) none
        | v=>cond (N' g v&&(Nat.beq n 1&&Nat.blt off x.cells.length)) (k .undef [(b,some { x with cells:=x.cells.set off v })]) none))
  | _=>none
def Ik:Nat:=1000000
def nid (d:Nat):Nat:=1000000+d*16
def V4 (d:Nat) (pure taint:Bool) (sz:Nat) (cells:LA):Ip :=
 [(nid d,some { dead:=false,sealed:=false,pure,taint,sz,cells })]
def Awh {R:Type} (P:Program) (g:Cb) (d:Nat) (t:TypeId) (v:AV) (k:AV→Ip→O R):O R :=
 match v with
 | .pagg c org=>k (.optr (nid d) 0) (V4 d true org 0 c)
 | .agg c =>
  cond (A41 P t) (cond (OA g c) (k (.optr (nid d) 0) (V4 d false false 0 c)) none)
   ((EQ g c).bind fun q=>k (.optr (nid d) 0) (q.2.1++V4 d true q.2.2 0 q.1))
 | v=>cond (N' g v) (k (.optr (nid d) 0) (V4 d false false 0 [v])) none
def G4 (sz:Nat):Blk:={ dead:=false,sealed:=false,pure:=true,taint:=false,sz,cells:=[] }
def A97 (co:Bool) (v:AV):AV:=match co,v with
 | true,.agg c=>cond (Ba c) (.pagg c false) (.agg c)
 | _,v=>v
def tJ {R:Type} (P:Program) (g:Cb) (co:Bool) (d:Nat) (t:TypeId) (k:AV→Ip→O R):O R :=
 match P.underlying t,Awg P t with
 | some (.slice el),some .nsl=>(D1 P el).bind fun sz=>k (.optr (nid d) 0) [(nid d+1,some (G4 sz)),(nid d,some { dead:=false,sealed:=false,pure:=false,taint:=false,sz:=0,cells:=[.own (nid d+1) 0 0] })]
 | _,some z=>Awh P g d t (A97 co z) k
 | _,none=>none
def V5 (place:Nat→Option (Nat×Nat)):List (Nat×LA)→LA→Option (LA)
 | [],c=>some c
 | (i,vs)::r,c=>(place i).bind fun p=>cond (Nat.beq vs.length p.2&&Nat.ble (p.1+p.2) c.length) (V5 place r (setCells c p.1 vs)) none
def Acf {R:Type} (place:Nat→Option (Nat×Nat)):List (Nat×LA)→LA→(LA→O R)→O R
 | [],c,k=>k c
 | (i,vs)::r,c,k=>(place i).bind fun p=>cond (Nat.beq vs.length p.2&&Nat.ble (p.1+p.2) c.length) (Acf place r (setCells c p.1 vs) k) none
def Rb (n:Nat) (z:LA):LA:=match z with | [v]=>List.replicate n v | z=>(List.replicate n z).flatten
def OB (g:Cb):List (Nat×AV)→Option (List (Nat×LA)×Ip×Bool)
 | []=>some ([],[],false)
 | (i,v)::r=>(DV g v).bind fun q=>(OB g r).bind fun q'=>some ((i,q.1)::q'.1,q.2.1++q'.2.1,q.2.2||q'.2.2)
def A98:AV→Bool
 | .optr ..=>true
 | .fn _ (_::_)=>true
 | _=>false
@[irreducible] def Ws {R:Type} (P:Program) (g:Cb) (d:Nat) (t:TypeId) (len:Nat) (parts:List (Nat×AV)) (k:AV→Ip→O R):O R:=none
def Tn {R:Type} (P:Program) (g:Cb) (d:Nat) (t:TypeId) (len:Nat) (parts:List (Nat×AV)) (k:AV→Ip→O R):O R :=
 match P.underlying t with
 | some (.slice el)=>(D1 P el).bind fun sz=>(Acd P el).bind fun z=>(OB g parts).bind fun q =>
  cond (Nat.ble (len*sz) 16777216) (Acf (fun i=>some (i*sz,sz)) q.1 (Rb len z) fun cells =>
   k (.own (nid d) 0 len) (q.2.1++V4 d true q.2.2 sz cells)) none
 | _=>none
def mL:AV→Bool
 | .own .. | .optr .. | .fn .. | .undef | .agg _ | .pagg _ _ | .tup _ | .omap _=>true
 | _=>false
def Acg:AV→Bool
 | .agg c=>c.any mL
 | .pagg _ _=>false
 | v=>mL v
def cellsOf:AV→LA
 | .agg c=>c
 | .pagg c _=>c
 | v=>[v]
def Ar3:AV→Bool
 | .imm _ _ _ _ o=>o
 | .iptr _ o=>o
 | _=>false
def vf:AV→Bool
 | .pagg _ o=>o
 | .agg c=>c.any Ar3
 | v=>Ar3 v
def TF:AV→Bool
 | .pagg _ _=>true
 | _=>false
def oH (P:Program) (t:TypeId):Option (Nat→Option (Nat×Nat)) :=
 match P.underlying t with
 | some (.array _ e)=>(P.info? e).map fun ie=>fun i=>some (i*ie.size,ie.size)
 | some (.struct fs)=>(fs.toList.mapM fun f=>(P.info? f.type).map fun i=>(f.offset,i.size)).map fun pl=>fun i=>pl[i]?
 | _=>none
def Aog (P:Program) (t:TypeId):Option (LA):=(P.info? t).bind fun i=>(i.zero).map fun v=>Ug v.cells.toList
def Gm:List (Nat×AV)→List (Nat×LA)
 | []=>[]
 | (i,v)::r=>(i,cellsOf v)::Gm r
def Awi (o:Bool):AV→AV
 | .imm c n s t _=>.imm c n s t o
 | .iptr c _=>.iptr c o
 | v=>v
def Ach:AV→LA
 | .agg c=>c
 | .pagg c o=>c.map (Awi o)
 | v=>[v]
def Lq:List (Nat×AV)→List (Nat×LA)
 | []=>[]
 | (i,v)::r=>(i,Ach v)::Lq r
def b7:AV→Bool
 | .undef=>false
 | .tup _=>false
 | .omap _=>false
 | _=>true
def Ar4 (P:Program) (t:TypeId) (parts:List (Nat×AV)):Option AV :=
 (oH P t).bind fun place=>cond (parts.all fun p=>b7 p.2) (
 cond (parts.any fun p=>TF p.2)
  (cond (parts.any fun p=>Acg p.2) ((Aog P t).bind fun z=>(V5 place (Lq parts) z).map fun c=>.agg c) ((Acd P t).bind fun z=>(V5 place (Gm parts) z).map fun c=>.pagg c (parts.any fun p=>vf p.2)))
  ((Aog P t).bind fun z=>(V5 place (Gm parts) z).map fun c=>.agg c)) none
def Ar5 {R:Type} (P:Program) (t:TypeId) (parts:List (Nat×AV)) (k:AV→O R):O R :=
 (oH P t).bind fun place=>cond (parts.all fun p=>b7 p.2) (
 cond (parts.any fun p=>TF p.2)
  (cond (parts.any fun p=>Acg p.2) ((Aog P t).bind fun z=>Acf place (Lq parts) z fun c=>k (.agg c)) ((Acd P t).bind fun z=>Acf place (Gm parts) z fun c=>k (.pagg c (parts.any fun p=>vf p.2))))
  ((Aog P t).bind fun z=>Acf place (Gm parts) z fun c=>k (.agg c))) none
def oI (P:Program) (t:TypeId):List (Nat×Nat) :=
 match P.underlying t with
 | some (.struct fs)=>fs.toList.filterMap fun f=>match P.underlying f.type with | some (.slice el)=>(D1 P el).map fun s=>(f.offset,s) | _=>none
 | _=>[]
def Pw (d:Nat):List (Nat×Nat)→Nat→LA→LA×Ip
 | [],_,c=>(c,[])
 | (o,sz)::r,j,c=>match c[o]? with
  | some .nsl=>((Pw d r (j+1) (c.set o (.own (nid d+j) 0 0))).1,(nid d+j,some (G4 sz))::(Pw d r (j+1) (c.set o (.own (nid d+j) 0 0))).2)
  | _=>Pw d r (j+1) c
def A6s {R:Type} (P:Program) (t:TypeId) (co:Bool) (d:Nat) (v:AV) (k:AV→Ip→O R):O R :=
 match co,v with
 | true,.agg c=>cond (Nat.ble (oI P t).length 14) (k (.agg (Pw d (oI P t) 1 c).1) (Pw d (oI P t) 1 c).2) none
 | _,v=>k v []
def A44 (P:Program):Nat→TypeId→Nat→List (Nat×TypeId)
 | 0,t,off=>[(off,t)]
 | d+1,t,off=>match P.underlying t with
  | some (.struct fs)=>fs.toList.flatMap fun f=>A44 P d f.type (off+f.offset)
  | _=>[(off,t)]
def A99 (P:Program) (t:TypeId):Bool:=match P.underlying t with
 | some (.int _)=>true | some .bool=>true | some .string=>true | some (.slice _)=>true | _=>false
def oJ {R:Type} (P:Program) (c:LA) (org:Bool):List (Nat×TypeId)→LA→(LA→O R)→O R
 | [],acc,k=>k acc
 | (off,t)::r,acc,k=>cond (Nat.beq off acc.length&&A99 P t) (bZ P t (c.drop off) org fun v=>oJ P c org r (acc++[v]) k) none
def tK {R:Type} (P:Program) (co:Bool) (t:TypeId) (v:AV) (k:AV→O R):O R :=
 match co,v with
 | true,.pagg c org=>oJ P c org (A44 P 4 t 0) [] fun l=>cond (Nat.beq c.length l.length) (k (.agg l)) none
 | _,v=>k v
def Aoh {R:Type} (P:Program) (d:Nat) (t:TypeId) (len cap:AV) (k:AV→Ip→O R):O R :=
 match P.underlying t,len,cap with
 | some (.slice el),.int .i64 l,.int .i64 c=>(D1 P el).bind fun sz=>(Ar0 P el).bind fun by_=>(Acd P el).bind fun z =>
  cond (decide (0≤l)&&(decide (l≤c)&&(decide (c≤140737488355328)&&decide (c*(by_:Int)≤140737488355328)))) (
   k (.own (nid d) 0 l.toNat) (V4 d true false sz (Rb l.toNat z))) none
 | _,_,_=>none
def A45 (g:Cb) (sz:Nat) (s:AV):Option (LA×Nat×Bool×Ip) :=
 match s with
 | .nsl=>some ([],0,false,[])
 | .imm _ n _ true _=>cond (Nat.beq n 0) (some ([],0,false,[])) none
 | .own b off n=>(Lf g b).bind fun x=>cond (x.pure&&(!x.sealed&&Nat.beq sz x.sz)) (some ((x.cells.drop off).take (n*sz),n,x.taint,[(b,none)])) none
 | _=>none
def Ar6 (P:Program) (t:TypeId):Bool:=match P.underlying t with | some (.slice _)=>true | some .string=>true | _=>false
def g8 {R:Type} (P:Program) (g:Cb) (d:Nat) (t tx:TypeId) (s x:AV) (k:AV→Ip→O R):O R :=
 match P.underlying t with
 | some (.slice el)=>cond (Ar6 P tx) ( (D1 P el).bind fun sz=>(Ar0 P el).bind fun by_=>(Acd P el).bind fun _ =>
  (A45 g sz s).bind fun old=>mK P el g sz x fun new =>
  cond (Nat.ble (old.2.1+new.2.1) 140737488355328&&Nat.ble ((old.2.1+new.2.1)*by_) 140737488355328) (
   k (.own (nid d) 0 (old.2.1+new.2.1)) (old.2.2.2++V4 d true (old.2.2.1||new.2.2) sz (old.1++new.1))) none) none
 | _=>none
def Aoi {R:Type} (P:Program) (g:Cb) (t:TypeId) (s x:AV) (k:AV→Ip→O R):O R :=
 match P.underlying t,s with
 | some (.slice el),.own b off n=>(D1 P el).bind fun sz=>(Lf g b).bind fun y=>mK P el g sz x fun new =>
  cond (y.pure&&(!y.sealed&&Nat.beq sz y.sz)) (
   k (.int .i64 (min new.2.1 n:Nat)) [(b,some { y with cells:=C0 y.cells off (new.1.take ((min new.2.1 n)*sz)),taint:=y.taint||new.2.2 })]) none
 | some (.slice el),.nsl=>(D1 P el).bind fun sz=>mK P el g sz x fun _=>k (.int .i64 0) []
 | _,_=>none
def Aoj {R:Type} (P:Program) (g:Cb) (d:Nat) (src dst:TypeId) (x:AV) (k:AV→Ip→O R):O R :=
 match P.underlying dst with
 | some (.int kd)=>match x with | .int _ n=>cond (P.underlying src).isSome (k (.int kd (kd.wrap n)) []) none | _=>none
 | _=>none
def oK:LA→Int→Bool
 | [],_=>false
 | .int _ m::r,n=>cond (n==m) true (oK r n)
 | _::r,n=>oK r n
def A07 (c:LA) (n:Int):LA:=cond (oK c n) c (c++[.int .i64 n])
def Ar7 (P:Program) (t:TypeId):Bool:=match P.underlying t with
 | some (.map k e)=>(match P.underlying k with | some (.int .i64)=>true | _=>false)&&(match Awg P e with | some (.bool false)=>true | _=>false)
 | _=>false
def ER {R:Type} (d:Nat) (r:Option AV) (k:AV→Ip→O R):O R :=
 match r with
 | none=>k (.omap (nid d)) [(nid d,some { dead:=false,sealed:=false,pure:=true,taint:=false,sz:=0,cells:=[],mp:=true })]
 | some _=>none
def tL {R:Type} (P:Program) (g:Cb) (t:TypeId) (m key val:AV) (k:AV→Ip→O R):O R :=
 match m,key,val with
 | .omap b,.int .i64 n,.bool true=>cond (Ar7 P t) ((Lf g b).bind fun x=>cond x.mp (k .undef [(b,some { x with cells:=A07 x.cells n })]) none) none
 | _,_,_=>none
def Aok {R:Type} (P:Program) (g:Cb) (t:TypeId) (m key:AV) (comma:Bool) (k:AV→O R):O R :=
 match m,key,comma with
 | .omap b,.int .i64 n,false=>cond (Ar7 P t) ((Lf g b).bind fun x=>cond x.mp (k (.bool (oK x.cells n))) none) none
 | _,_,_=>none
mutual
def Hz:AV→List Nat
 | .own b _ _=>[b]
 | .optr b _=>[b]
 | .omap b=>[b]
 | .agg c=>Ju c
 | .tup c=>Ju c
 | .fn _ c=>Ju c
 | _=>[]
def Ju:List AV→List Nat
 | []=>[]
 | v::r=>Hz v++Ju r
end
mutual
def iY (ρ:Nat→Nat):AV→AV
 | .own b off n=>.own (ρ b) off n
 | .optr b off=>.optr (ρ b) off
 | .omap b=>.omap (ρ b)
 | .agg c=>.agg (AQ ρ c)
 | .tup c=>.tup (AQ ρ c)
 | .fn f c=>.fn f (AQ ρ c)
 | v=>v
def AQ (ρ:Nat→Nat):List AV→List AV
 | []=>[]
 | v::r=>iY ρ v::AQ ρ r
end
def TG (g:Cb):AV→Option (AV×Bool)
 | .own b off n=>(Lf g b).bind fun x=>cond x.pure (some (.imm ((x.cells.drop off).take (n*x.sz)) n x.sz false (!x.sealed||x.taint),!x.sealed||x.taint)) none
 | .imm c n sz _ org=>some (.imm c n sz false org,org)
 | .iptr c org=>some (.iptr c org,org)
 | .optr .. | .agg _ | .tup _ | .undef | .fn .. | .pagg .. | .omap _=>none
 | v=>some (v,false)
def b8 (g:Cb):LA→Option (LA×Bool)
 | []=>some ([],false)
 | v::r=>(TG g v).bind fun p=>(b8 g r).bind fun q=>some (p.1::q.1,p.2||q.2)
def Ar8 (g:Cb):AV→Option (AV×Bool)
 | .own b off n=>(Lf g b).bind fun x=>cond x.pure (some (.imm ((x.cells.drop off).take (n*x.sz)) n x.sz false (!x.sealed||x.taint),!x.sealed)) none
 | .imm c n sz _ org=>some (.imm c n sz false org,false)
 | .optr b off=>(Lf g b).bind fun x=>cond x.pure (some (.iptr (x.cells.drop off) (!x.sealed||x.taint),!x.sealed)) none
 | .agg c=>(b8 g c).bind fun q=>some (.pagg q.1 q.2,true)
 | .fn f []=>some (.fn f [],false)
 | .fn _ _ | .tup _ | .undef | .omap _=>none
 | v=>some (v,false)
def Kg (d:Nat):List (Nat×Nat)→Nat→Nat
 | [],_=>d
 | (i,x)::r,b=>cond (Nat.beq i b) x (Kg d r b)
def Kp:List Nat→Nat→Bool
 | [],_=>false
 | i::r,b=>cond (Nat.beq i b) true (Kp r b)
def vg:List Nat→List Nat→List Nat
 | [],acc=>acc.reverse
 | i::r,acc=>cond (Kp acc i) (vg r acc) (vg r (i::acc))
def b9:List Nat→Bool
 | []=>true
 | i::r=>!Kp r i&&b9 r
def A6 (base:Nat):List Nat→List (Nat×Nat)
 | []=>[]
 | i::r=>(i,base)::A6 (base+1) r
def M0 (g:Cb):List Nat→List Nat
 | []=>[]
 | b::r=>(match g b with | some x=>cond x.pure [] (Ju x.cells) | none=>[])++M0 g r
def ES (g:Cb) (ids:List Nat):List Nat:=vg (ids++M0 g (ids++M0 g ids)) []
def b_ (g:Cb):List Nat→Bool
 | []=>true
 | b::r=>(match g b with | some x=>!x.dead | none=>false)&&b_ g r
def MV (ρ:Nat→Nat) (x:Blk):Blk:={ x with cells:=cond x.pure x.cells (AQ ρ x.cells) }
def sub (g:Cb) (ρ:Nat→Nat):List Nat→Am
 | []=>[]
 | b::r=>match g b with
  | some x=>G9 (sub g ρ r) (ρ b) (MV ρ x)
  | none=>sub g ρ r
structure Tw where
 runK:{R:Type}→List AV→Am→(AV→Am→O R)→O R
 eq:∀ {R:Type} (args:List AV) (h:Am) (k:AV→Am→O R),runK args h k=(runK args h fun v h'=>some (v,h')).bind fun p=>k p.1 p.2
def oL {R:Type}:List (Nat×Tw)→Nat→LA→Am→(AV→Am→O R)→O R
 | [],_,_,_,_=>none
 | (g,t)::r,f,args,h,k=>cond (Nat.beq g f) (t.runK args h k) (oL r f args h k)
structure Env where
 P:Program
 nt:Nat
 muts:Nat→List Bool
 nils:List (Nat×Nat)
 free:List Nat
 cob:List Nat
 tbl:List (Nat×Tw)
mutual
def MW:AV→Bool
 | .imm _ _ _ _ o=>o
 | .iptr _ o=>o
 | .pagg _ o=>o
 | .agg c=>Xu c
 | .tup c=>Xu c
 | .fn _ c=>Xu c
 | _=>false
def Xu:List AV→Bool
 | []=>false
 | v::r=>MW v||Xu r
end
def oM:Am→Bool
 | []=>false
 | (_,x)::r=>x.taint||(cond x.pure false (Xu x.cells))||oM r
def Lr (g:Cb):LA→List Nat
 | []=>[]
 | .own b _ _::r=>match g b with | some x=>cond x.sealed (Lr g r) (b::Lr g r) | none=>Lr g r
 | _::r=>Lr g r
def OC (g:Cb):AV→List Nat
 | .own b _ _=>match g b with | some x=>cond x.sealed [] [b] | none=>[]
 | .optr b _=>match g b with | some x=>cond x.sealed [] [b] | none=>[]
 | .agg c=>Lr g c
 | _=>[]
def OD (g:Cb):List Bool→LA→Option (LA×List Nat×List Nat)
 | _,[]=>some ([],[],[])
 | ms,v::r =>
  cond (ms.headD false)
   ((OD g ms.tail r).bind fun q=>some (v::q.1,Hz v++q.2.1,q.2.2))
   ((Ar8 g v).bind fun p=>(OD g ms.tail r).bind fun q=>some (p.1::q.1,q.2.1,OC g v++q.2.2))
def XE (ids:List Nat):List Nat→Bool
 | []=>true
 | b::r=>Kp ids b&&XE ids r
def Awj:List Nat→List Nat→Bool
 | [],_=>true
 | i::r,l=>!Kp l i&&Awj r l
def Ar9:List Nat→Bool
 | []=>true
 | _=>false
def Aol {R:Type} (E:Env) (g:Cb) (d:Nat) (f:Nat) (args:LA) (k:AV→Ip→O R):O R :=
 (OD g (E.muts f) args).bind fun q =>
 let ids:=ES g q.2.1
 let tin:=A6 100000 ids
 let outs:=tin.map (·.2)
 cond (b_ g ids&&(XE ids q.2.1&&(XE ids (M0 g ids)&&(Awj q.2.2 ids&&(b9 (ids.map (Kg 0 tin))&&Nat.ble ids.length 100000))))) (
  oL E.tbl f (AQ (Kg 0 tin) q.1) (sub g (Kg 0 tin) ids) fun rv rh =>
  let all:=ES (Au rh) (Hz rv++outs)
  let new:=all.filter fun b=>!Kp outs b
  let tnew:=A6 (nid d) new
  let σ:=Kg 0 ((tin.map fun p=>(p.2,p.1))++tnew)
  cond (!Ar9 q.2.2&&(MW rv||oM rh)) none
   (cond (b_ (Au rh) new&&(Nat.ble new.length 16&&(XE all (Hz rv)&&(XE all outs&&(XE all (M0 (Au rh) all)&&b9 (all.map σ))))))
    (k (iY σ rv) ((tin.map fun p=>(p.1,(Au rh p.2).map (MV σ)))++tnew.map fun p=>(p.2,(Au rh p.1).map (MV σ)))) none)) none
def Aom {R:Type} (c a b:AV) (k:AV→O R):O R :=
 match c,a,b with
 | .bool t,.bool x,.bool y=>k (.bool (cond t x y))
 | .bool t,x,.tup []=>cond t (k x) none
 | .bool t,.tup [],y=>cond t none (k y)
 | .bool t,x,y=>cond t (k x) (k y)
 | _,_,_=>none
def A46 (P : Program) (f : Nat) : Bool := match P.funcs[f]? with | some fn => fn.body.isSome && !(fn.name == "runtime.NumGoroutine") | none => false
def Bv (a b:Int):Int:=cond (decide (b<a)) b a
def Iq (a b:Int):Int:=cond (decide (b>a)) b a
def A6t:AV→AV→Option AV
 | .int k a,.int _ b=>some (.int k (Bv a b))
 | _,_=>none
def A6u:AV→AV→Option AV
 | .int k a,.int _ b=>some (.int k (Iq a b))
 | _,_=>none
def Aln {R:Type} (E:Env) (g:Cb) (d:Nat) (v:Operand→AV) (o:Op) (k:AV→Ip→O R):O R :=
 match o with
 | .move x=>k (v x) []
 | .assign x=>k (v x) []
 | .pick c a b=>Aom (v c) (v a) (v b) fun r=>k r []
 | .alloc t=>tJ E.P g (Kp E.cob d) d t k
 | .box t x=>tK E.P (Kp E.cob d) t (v x) fun u=>Awh E.P g d t u k
 | .build t parts=>Ar5 E.P t (parts.toList.map fun p=>(p.1,v p.2)) fun r=>A6s E.P t (Kp E.cob d) d r k
 | .buildSlice t len parts=>cond ((parts.toList.map fun p=>(p.1,v p.2)).any fun p=>A98 p.2) (Ws E.P g d t len (parts.toList.map fun p=>(p.1,v p.2)) k) (Tn E.P g d t len (parts.toList.map fun p=>(p.1,v p.2)) k)
 | .load t a=>Ace E.P g t (v a) fun r=>k r []
 | .store t a x=>tI E.P g t (v a) (v x) k
 | .nilCheck x=>match v x with | .iptr c o=>k (.iptr c o) [] | .optr b o=>k (.optr b o) [] | _=>none
 | .binOp op t x y _=>Aof E.P t op (v x) (v y) fun r=>k r []
 | .unOp op _ x=>(Bha op (v x)).bind fun r=>k r []
 | .convert s t x=>Aoj E.P g d s t (v x) k
 | .makeFunc (.func f) first caps=>cond (Nat.blt f 1000000) (k (.fn (f+1000000*first.toList.length) ((first.toList++caps.toList).map v)) []) none
 | .makeSlice t l c=>Aoh E.P d t (v l) (v c) k
 | .slice t x lo hi mx=>tH E.P g t (v x) (lo.map v) (hi.map v) (mx.map v) fun r=>k r []
 | .fieldAddr t x f=>Wr E.P t (v x) f fun r=>k r []
 | .field t x f=>tF E.P t (v x) f fun r=>k r []
 | .indexAddr t x i=>Wq E.P t (v x) (v i) fun r=>k r []
 | .index t x i=>tG E.P t (v x) (v i) fun r=>k r []
 | .makeMap _ r=>ER d (r.map v) k
 | .mapUpdate t m x y=>tL E.P g t (v m) (v x) (v y) k
 | .lookup t m x c=>Aok E.P g t (v m) (v x) c fun r=>k r []
 | .extract t i=>match v t with | .tup vs=>(vs[i]?).bind fun r=>k r [] | _=>none
 | .call c=>match c.callee with
  | .builtin .len=>match c.args.toList,c.argTypes.toList with | [x],[t]=>(Ber E.P t (v x)).bind fun r=>k r [] | _,_=>none
  | .builtin .append=>match c.args.toList,c.argTypes.toList with | [s,x],[t,tx]=>g8 E.P g d t tx (v s) (v x) k | _,_=>none
  | .builtin .copy=>match c.args.toList,c.argTypes.toList with | [s,x],[t,_]=>Aoi E.P g t (v s) (v x) k | _,_=>none
  | .builtin .min=>match c.args.toList with | [x,y]=>(A6t (v x) (v y)).bind fun r=>k r [] | [x,y,z]=>(A6t (v x) (v y)).bind fun q=>(A6t q (v z)).bind fun r=>k r [] | _=>none
  | .builtin .max=>match c.args.toList with | [x,y]=>(A6u (v x) (v y)).bind fun r=>k r [] | [x,y,z]=>(A6u (v x) (v y)).bind fun q=>(A6u q (v z)).bind fun r=>k r [] | _=>none
  | .value fo=>match v fo with
   | .fn f caps=>cond (A46 E.P (f%1000000)) (Aol E g d (f%1000000) (caps.take (f/1000000)++(c.args.toList.map v++caps.drop (f/1000000))) k) none
   | _=>none
  | _=>none
 | _=>none
structure Foot where
 r:List Nat
 w:Option Nat
 f:List Nat
 u:List Nat
def mM:List Operand→List Nat
 | []=>[]
 | .tmp t::r=>t::mM r
 | _::r=>mM r
def At:Ip→Am→Am
 | [],h=>h
 | (b,some x)::r,h=>At r (G9 h b x)
 | (b,none)::r,h=>At r (match Au h b with | some x=>G9 h b { x with dead:=true,pure:=true,cells:=[] } | none=>h)
def g9 (ops:Array Oper) (o:Oper):Option (Nat×Bool) :=
 match o.guard with
 | none=>none
 | some (j,want)=>((ops[j]?).bind (·.dst)).map fun t=>(t,want)
def TH (ops:Array Oper) (s:Hy) (o:Oper):Option Bool :=
 match o.guard with
 | none=>some true
 | some (j,want)=>match (ops[j]?).bind (·.dst) with
  | some t=>match G3 s t with
   | .bool b=>some (b==want)
   | .tup []=>some false
   | _=>none
  | none=>some false
def A08 (nt:Nat) (s:Hy) (d:Option Nat) (v:AV):Hy:=match d with | some d=>cond (Nat.blt d nt) (mJ s d v) s | none=>s
def A47:Op→Bool
 | .move _ | .assign _ | .pick .. | .build .. | .binOp .. | .unOp .. | .makeFunc .. | .fieldAddr .. | .field .. | .indexAddr .. | .index .. | .extract .. | .nilCheck _=>false
 | .call c=>match c.callee with
  | .builtin .len | .builtin .min | .builtin .max=>false
  | _=>true
 | _=>true
def A48:Op→Bool
 | .load ..=>true
 | _=>false
def AC (h:Am) (op:Op) (vals:LA):List Nat:=cond (A47 op) (cond (A48 op) (vg (Ju vals) []) (ES (Au h) (Ju vals))) []
def XF (d b:Nat):Bool:=Nat.ble (nid d) b&&Nat.blt b (nid d+16)
def jJ (d:Nat) (F:List Nat) (h:Am):Ip→Bool
 | []=>true
 | (b,_)::r=>cond (XF d b) (Au h b).isNone (Kp F b&&(Au h b).isSome)&&jJ d F h r
def Awk {R:Type} (E:Env) (ops:Array Oper) (o:Oper) (st:St) (k:St→Foot→O R):O R :=
 (TH ops st.s o).bind fun wanted=>cond wanted (
  Aln E (fun b=>cond (Kp (AC st.h o.op (o.op.operands.toList.map (ev st.s))) b) (Au st.h b) none) (o.dst.getD 50000) (ev st.s) o.op fun v ups =>
  cond (jJ (o.dst.getD 50000) (AC st.h o.op (o.op.operands.toList.map (ev st.s))) st.h ups)
   (k { s:=A08 E.nt st.s o.dst v,h:=At ups st.h } { r:=(match g9 ops o with | some p=>[p.1] | none=>[])++mM o.op.operands.toList,w:=o.dst,f:=AC st.h o.op (o.op.operands.toList.map (ev st.s)),u:=ups.map (·.1) }) none)
  (k { st with s:=A08 E.nt st.s o.dst (.tup []) } { r:=(match g9 ops o with | some p=>[p.1] | none=>[]),w:=o.dst,f:=[],u:=[] })
def tM {R:Type} (ops:Array Oper) (o:Oper) (st:St) (k:St→O R):O R :=
 match o.guard with
 | none=>k st
 | some (j,want)=>match (ops[j]?).bind (·.dst) with
  | none=>k st
  | some t=>match G3 st.s t with
   | .bool b=>cond (b==want) (k { s:=mJ st.s t (.bool want),h:=st.h }) (k { s:=mJ st.s t (.bool (!want)),h:=st.h })
   | _=>k st
def Aci {R:Type} (E:Env) (ops:Array Oper):List Oper→St→List Foot→(St→List Foot→O R)→O R
 | [],st,tr,k=>k st tr
 | o::r,st,tr,k=>tM ops o st fun st=>Awk E ops o st fun st f=>Aci E ops r st (f::tr) k
def Bg1:Option Nat→List Nat→Bool
 | none,_=>false
 | some d,l=>Kp l d
def vh (a b:Foot):Bool :=
 !Bg1 a.w b.r&&!Bg1 b.w a.r&&(match a.w,b.w with | some x,some y=>!Nat.beq x y | _,_=>true)&&Awj a.u (b.f++b.u)&&Awj b.u a.f
def cA (e:Edge):Bool:=match e.ground with | .textOnly _=>false | .gcOnly _=>false | _=>true
def TI (o:Oper):List Nat:=(o.after.toList.filter cA).map (·.on)
def Asa {α:Type}:List Nat→(List Nat→α)→α
 | [],k=>k []
 | i::r,k=>Asa r fun s=>k (i::s)
theorem OE {α:Type}:∀ (l:List Nat) (k:List Nat→α),Asa l k=k l
 | [],_=>rfl
 | i::r,k=>by rw[Asa,OE r]
def Hh:List Oper→List (List Nat)→List (List Nat)
 | [],acc=>acc
 | o::r,acc=>Asa (vg (TI o++((TI o).flatMap fun i=>(acc[i]?).getD [])) []) fun a=>Hh r (acc++[a])
def DW:Nat→List Oper→Bool
 | _,[]=>true
 | i,o::r=>(o.after.toList.all fun e=>!cA e||Nat.blt e.on i)&&DW (i+1) r
def oN (f:Foot) (anc:List Nat):Nat→List Foot→Bool
 | _,[]=>true
 | i,g::r=>(Kp anc i||vh g f)&&oN f anc (i+1) r
def g_:List Foot→List (List Nat)→List Foot→Bool
 | [],_,_=>true
 | f::r,a::az9,seen=>oN f a 0 seen&&g_ r az9 (seen++[f])
 | _::_,[],_=>false
def M5 (b:Nat):Nat:=cond (Nat.ble Ik b) (b - Ik) b
mutual
def ET (g:Cb):AV→AV
 | .own b off n=>match Lf g b with | some _=>.own (M5 b) off n | none=>.undef
 | .optr b off=>match Lf g b with | some _=>.optr (M5 b) off | none=>.undef
 | .omap b=>match Lf g b with | some _=>.omap (M5 b) | none=>.undef
 | .agg c=>.agg (Ls g c)
 | .tup c=>.tup (Ls g c)
 | .fn f c=>.fn f (Ls g c)
 | v=>v
def Ls (g:Cb):List AV→List AV
 | []=>[]
 | v::r=>ET g v::Ls g r
end
def tN (g:Cb) (K:List Nat):Hy→Hy
 | []=>[]
 | (t,v)::r=>cond (Kp K t) ((t,ET g v)::tN g K r) (tN g K r)
def Acj (K:List Nat):Hy→List Nat
 | []=>[]
 | (t,v)::r=>cond (Kp K t) (Hz v++Acj K r) (Acj K r)
def EU (g:Cb):List Nat→Am
 | []=>[]
 | b::r=>match Lf g b with
  | some x=>G9 (EU g r) (M5 b) { x with cells:=cond x.pure x.cells (Ls g x.cells) }
  | none=>EU g r
def IQ (g:Cb) (ids:List Nat):List Nat:=ids.filter fun b=>match Lf g b with | some _=>true | none=>false
def Ack (g:Cb) (ids:List Nat):List Nat→Bool
 | []=>true
 | b::r=>(Kp ids b||(Lf g b).isNone)&&Ack g ids r
def A49:List Nat→Bool
 | []=>true
 | b::r=>cond (Nat.ble Ik b) (Nat.blt (M5 b) 100000) true&&A49 r
def clean (K roots:List Nat) (st:St):Option St :=
 let g:=Au st.h
 let ids:=IQ g (ES g (Acj K st.s++roots))
 cond (b9 (ids.map M5)&&(Ack g ids (Acj K st.s)&&(Ack g ids (M0 g ids)&&A49 ids))) (some { s:=tN g K st.s,h:=EU g ids }) none
def gc {R:Type} (E:Env) (roots:List Nat) (ops:Array Oper) (draw:Bool) (st:St) (k:St→O R):O R :=
 Aci E ops ops.toList st [] fun st tr =>
  cond (!draw||(DW 0 ops.toList&&g_ tr.reverse (Hh ops.toList []) [])) ((clean (st.s.map (·.1)) roots st).bind k) none
def Acl (b:Nat):Bool:=Nat.ble 100000 b&&Nat.blt b 200000
def TJ (live:List Nat):List (Nat×Nat)→St→Option St
 | [],st=>some st
 | (t,sz)::r,st=>cond (Nat.ble 1000000 sz)
  (match Kp live t,G3 st.s t with
  | true,.nsl=>TJ live r { s:=mJ st.s t (.imm [] 0 (sz - 1000000) false false),h:=st.h }
  | true,.own b off n=>(jI (Au st.h) (.own b off n)).bind fun q=>TJ live r { s:=mJ st.s t q.1,h:=At q.2.1 st.h }
  | _,_=>TJ live r st)
  (match Kp live t,G3 st.s t with
  | true,.nsl=>cond (Au st.h (nid t+15)).isSome none (TJ live r { s:=mJ st.s t (.own (nid t+15) 0 0),h:=G9 st.h (nid t+15) (G4 sz) })
  | _,_=>TJ live r st)
def OF (free:List Nat) (b:Nat):Bool:=Acl b&&!Kp free b
def Baa (free ids:List Nat):List (Nat×Nat):=A6 300000 (ids.filter fun b=>!OF free b)
def EV (free ids:List Nat) (b:Nat):Nat:=cond (OF free b) b (Kg 0 (Baa free ids) b)
def Bab (ρ:Nat→Nat) (K:List Nat):Hy→Hy
 | []=>[]
 | (t,v)::r=>cond (Kp K t) ((t,iY ρ v)::Bab ρ K r) (Bab ρ K r)
def oO (E:Env) (live roots:List Nat) (st:St):Option St :=
 (TJ live E.nils st).bind fun st =>
 let g:=Au st.h
 let ids:=IQ g (ES g (Acj live st.s++roots))
 cond (b9 (ids.map (EV E.free ids))&&(XE ids (Acj live st.s)&&(XE ids (M0 g ids)&&Nat.ble ids.length 100000))) (some { s:=Bab (EV E.free ids) live st.s,h:=sub g (EV E.free ids) ids }) none
inductive Hint where
 | leaf
 | node (live:List Nat) (a b:Hint)
 | join (live:List Nat) (a b:Hint)
def Hint.live:Hint→List Nat
 | .leaf=>[]
 | .node l _ _=>l
 | .join l _ _=>l
def Hint.a:Hint→Hint
 | .leaf=>.leaf
 | .node _ a _=>a
 | .join _ a _=>a
def Hint.b:Hint→Hint
 | .leaf=>.leaf
 | .node _ _ b=>b
 | .join _ _ b=>b
def Hint.isJoin:Hint→Bool
 | .join _ _ _=>true
 | _=>false
noncomputable def Af {α:Type} (a:α):{ x:α // x=a }:=Classical.choice ⟨⟨a,rfl⟩⟩
noncomputable def Bac {R:Type} (j:Bool) (f:St→O R):St→O R:=cond j (Af f).1 f
theorem IR {R:Type} (j:Bool) (f:St→O R):Bac j f=f:=by cases j;rfl;exact(Af f).2
noncomputable def A6v {R:Type} (E:Env) (roots:List Nat) (H:Hint) (f:St→O R) (st:St):O R:=cond H.isJoin ((oO E H.live roots st).bind (Bac true f)) (f st)
def cB {R:Type} (cn:St→Option St) (body:(St→O R)→St→O R):Nat→St→O R
 | 0,_=>none
 | n+1,st=>body (fun st=>(cn st).bind (cB cn body n)) st
noncomputable def G5 {R:Type} (E:Env) (roots:List Nat) (N:Nat):Code→Hint→(St→O R)→(Nat→St→O R)→(St→O R)→St→O R
 | .skip,_,k,_,_,st=>k st
 | .region _ ops draw,_,k,_,_,st=>gc E roots ops draw st k
 | .seq a b,H,k,x,r,st=>G5 E roots N a H.a (A6v E roots H fun st=>G5 E roots N b H.b k x r st) x r st
 | .cond c a b,H,k,x,r,st=>match ev st.s c with
  | .bool t=>cond t (G5 E roots N a H.a k x r st) (G5 E roots N b H.b k x r st)
  | _=>none
 | .block id c,H,k,x,r,st=>G5 E roots N c H.a k (fun j st=>cond (Nat.beq j id) (k st) (x j st)) r st
 | .loop c,H,_,x,r,st=>(oO E H.live roots st).bind (Bac true (cB (oO E H.live roots) (fun k st=>G5 E roots N c H.a k x r st) N))
 | .exit id,_,_,x,_,st=>x id st
 | .ret,_,_,_,r,st=>r st
 | _,_,_,_,_,_=>none
def Px {R:Type} (E:Env) (st:St):List ResultVar→LA→(LA→O R)→O R
 | [],acc,k=>k acc.reverse
 | .tmp t::r,acc,k=>Px E st r (G3 st.s t::acc) k
 | .cell a t::r,acc,k=>Ace E.P (Au st.h) t (G3 st.s a) fun v=>Px E st r (v::acc) k
def Bes (g:Cb) (i:Nat) (m:Nat×Nat) (v:AV):Option (AV×Ip) :=
 cond (Nat.beq m.1 0) (some (v,[]))
 (cond (Nat.beq m.1 1) (match v with
  | .nsl=>some (.imm [] 0 m.2 false false,[])
  | .imm c n sz _ o=>some (.imm c n sz false o,[])
  | .own b off n=>(jI g (.own b off n)).bind fun q=>some (q.1,q.2.1)
  | _=>none)
 (cond (Nat.beq m.1 2) (match v with
  | .nsl=>cond (g (nid 90000+i)).isSome none (some (.own (nid 90000+i) 0 0,[(nid 90000+i,some (G4 m.2))]))
  | v=>some (v,[]))
 (match v with
  | .agg c=>(EQ g c).bind fun q=>some (.pagg q.1 q.2.2,q.2.1)
  | .pagg c o=>some (.pagg c o,[])
  | _=>none)))
def Awl (h:Am):Nat→List (Nat×Nat)→LA→Option (LA×Am)
 | _,_,[]=>some ([],h)
 | i,ms,v::r=>(Bes (Au h) i (ms.headD (0,0)) v).bind fun p=>(Awl (At p.2 h) (i+1) ms.tail r).bind fun q=>some (p.1::q.1,q.2)
def Bet (l:LA):AV:=match l with | [v]=>v | l=>.tup l
def CM {R:Type} (E:Env) (fn:Func) (modes:List (Nat×Nat)) (outs:List Nat) (k:AV→Am→O R) (st:St):O R :=
 Px E st fn.results.toList [] fun l =>
 (Awl st.h 0 modes l).bind fun q =>
 let v:=Bet q.1
 let g:=Au q.2
 let ids:=IQ g (ES g (Hz v++outs))
 cond (b9 (ids.map (EV E.free ids))&&(XE ids (Hz v)&&(XE ids (M0 g ids)&&Nat.ble ids.length 100000))) (k (iY (EV E.free ids) v) (sub g (EV E.free ids) ids)) none
def Aon:Nat→LA→Hy
 | _,[]=>[]
 | i,v::r=>(i,v)::Aon (i+1) r
structure Hints where
 H:Hint
 nils:List (Nat×Nat):=[]
 modes:List (Nat×Nat):=[]
 free:List Nat:=[]
 cob:List Nat:=[]
def Ab1:Am→Bool
 | []=>true
 | (b,_)::r=>Acl b&&Ab1 r
noncomputable def XG {R:Type} (P:Program) (muts:Nat→List Bool) (T:List (Nat×Tw)) (hs:Hints) (N f:Nat) (args:LA) (h:Am) (k:AV→Am→O R):O R :=
 match P.funcs[f]? with
 | none=>none
 | some fn=>match fn.body with
  | none=>none
  | some c =>
   let E:Env:={ P,nt:=fn.ntmps,muts,nils:=hs.nils,free:=hs.free,cob:=hs.cob,tbl:=T }
   let outs:=h.map (·.1)
   let fin:=CM E fn hs.modes outs k
   cond (Nat.ble args.length fn.ntmps&&Ab1 h) (G5 E outs N c hs.H fin (fun _ _=>none) fin { s:=Aon 0 args,h }) none
end Gx

namespace Gx
open Go
mutual
def RepC (J:Nat→Prop) (w:World):AV→Value→Prop
 | .int k n,v=>v=.int k n
 | .bool b,v=>v=.bool b
 | .str s,v=>v=.string ⟨⟨s⟩⟩
 | .nsl,v=>v=.slice none 0 0
 | .imm c len sz tight _,v=>c.length=len*sz∧∃ A cap,v=.slice A len cap∧len≤cap∧(tight=true→cap=len) ∧
   (len=0∨∃ a,A=some a∧J a.block∧RepCs J w c (fun j=>w.cell? (a.add j)) 0)
 | .iptr c _,v=>∃ a,v=.pointer (some a)∧J a.block∧RepCs J w c (fun j=>w.cell? (a.add j)) 0
 | .nilptr,v=>v=.pointer none
 | .nilfn,v=>v=.nilFunc
 | .fn f [],v=>v=.func (.func (f%1000000)) #[] #[]
 | _,_=>False
def RepCs (J:Nat→Prop) (w:World):List AV→(Nat→Option Value)→Nat→Prop
 | [],_,_=>True
 | x::r,rd,i=>(∃ u,rd i=some u∧RepC J w x u)∧RepCs J w r rd (i+1)
end
theorem Df {J:Nat→Prop} {w:World}:∀ {c:LA} {rd:Nat→Option Value} {i:Nat},
  RepCs J w c rd i↔∀ j x,c[j]?=some x→∃ u,rd (i+j)=some u∧RepC J w x u:=by
 intro c
 induction c with
 | nil=>intro rd i;simp[RepCs]
 | cons x r C =>
  intro rd i
  rw[RepCs,C]
  constructor
  ·rintro⟨D,F⟩ j y k
   cases j with
   | zero=>simp at k;subst k;simpa using D
   | succ j=>have:=F j y (by simpa using k);rwa [show i+1+j=i+(j+1) by omega] at this
  ·intro h
   refine⟨by simpa using h 0 x (by simp),fun j y k=>?_⟩
   have:=h (j+1) y (by simpa using k)
   rwa [show i+(j+1)=i+1+j by omega] at this
def A5a (J:Nat→Prop) (w w':World):Prop:=∀ k,J k→w'.heap[k]?=w.heap[k]?
theorem Aoo {J:Nat→Prop} {w w':World} (h:A5a J w w') {a:Addr} (k:J a.block):w'.cell? a=w.cell? a:=by
 unfold World.cell?;rw[h a.block k]
theorem Wt (a:Addr) (n:Nat):(a.add n).block=a.block:=by unfold Addr.add;split<;>rfl
mutual
theorem RepC.keep {J J':Nat→Prop} {w w':World} (hJ:∀ k,J k→J' k) (hk:A5a J w w'):∀ {x:AV} {v:Value},RepC J w x v→RepC J' w' x v
 | .int ..,_,h=>h
 | .bool _,_,h=>h
 | .str _,_,h=>h
 | .nsl,_,h=>h
 | .imm c _ _ _ _,_,h=>by
  rw[RepC] at h ⊢
  obtain⟨h1,A,cap,h2,h3,h4,h5⟩:=h
  refine⟨h1,A,cap,h2,h3,h4,?_⟩
  rcases h5 with h5 | ⟨a,ha,hj,hc⟩
  ·exact .inl h5
  ·refine .inr ⟨a,ha,hJ _ hj,RepCs.keep hJ hk (c:=c) (fun j=>?_) hc⟩
   exact Aoo hk (by rw[Wt];exact hj)
 | .iptr c _,_,h=>by
  rw[RepC] at h ⊢
  obtain⟨a,ha,hj,hc⟩:=h
  exact⟨a,ha,hJ _ hj,RepCs.keep hJ hk (c:=c) (fun j=>Aoo hk (by rw[Wt];exact hj)) hc⟩
 | .nilptr,_,h=>h
 | .nilfn,_,h=>h
 | .fn _ [],_,h=>h
 | .fn _ (_::_),_,h=>by simp[RepC] at h
 | .pagg ..,_,h=>by simp[RepC] at h
 | .agg _,_,h=>by simp[RepC] at h
 | .tup _,_,h=>by simp[RepC] at h
 | .own ..,_,h=>by simp[RepC] at h
 | .optr ..,_,h=>by simp[RepC] at h
 | .undef,_,h=>by simp[RepC] at h
 | .omap _,_,h=>by simp[RepC] at h
theorem RepCs.keep {J J':Nat→Prop} {w w':World} (hJ:∀ k,J k→J' k) (hk:A5a J w w'):∀ {c:List AV} {rd rd':Nat→Option Value} {i:Nat},(∀ j,rd' j=rd j)→RepCs J w c rd i→RepCs J' w' c rd' i
 | [],_,_,_,_,_=>trivial
 | x::r,rd,rd',i,he,h=>by
  rw[RepCs] at h ⊢
  obtain⟨⟨u,hu,hx⟩,hr⟩:=h
  exact⟨⟨u,by rw[he];exact hu,RepC.keep hJ hk (x:=x) hx⟩,RepCs.keep hJ hk (c:=r) he hr⟩
end
abbrev C8:=Nat→Option (Nat×Nat)
def Bw (w:World) (k:Nat):Nat:=match w.heap[k]? with | some (.cells cs _ _)=>cs.size | _=>0
mutual
def Rep (J:Bool→Nat→Prop) (β:C8) (h:Am) (w:World):AV→Value→Prop
 | .own b off n,v=>∃ x A cap,(Au h b=some x∧x.mp=false)∧v=.slice A n cap∧n≤cap∧(cap=0∨∃ k o,A=some ⟨k,o+off,none⟩ ∧
   (x.dead=true∨(β b=some (k,o)∧o+off+cap*x.sz≤Bw w k∧off+n*x.sz≤x.cells.length)))
 | .omap b,v=>∃ x k,(Au h b=some x∧x.mp=true)∧v=.map (some k)∧(x.dead=true∨β b=some (k,0))
 | .optr b off,v=>∃ x k o,(Au h b=some x∧x.mp=false)∧v=.pointer (some ⟨k,o+off,none⟩)∧(x.dead=true∨β b=some (k,o))
 | .pagg c org,v=>∃ cs,v=.agg ⟨cs⟩∧cs.length=c.length∧RepCs (J org) w c (fun j=>cs[j]?) 0
 | .agg c,v=>∃ cs,v=.agg ⟨cs⟩∧Reps J β h w c cs
 | .tup c,v=>∃ cs,v=.tuple ⟨cs⟩∧Reps J β h w c cs
 | .fn f c,v=>∃ cs:List Value,v=.func (.func (f%1000000)) ⟨cs.take (f/1000000)⟩ ⟨cs.drop (f/1000000)⟩∧Reps J β h w c cs
 | .undef,_=>True
 | .imm c n sz t org,v=>RepC (J org) w (.imm c n sz t org) v
 | .iptr c org,v=>RepC (J org) w (.iptr c org) v
 | .int k n,v=>v=.int k n
 | .bool b,v=>v=.bool b
 | .str s,v=>v=.string ⟨⟨s⟩⟩
 | .nsl,v=>v=.slice none 0 0
 | .nilptr,v=>v=.pointer none
 | .nilfn,v=>v=.nilFunc
def Reps (J:Bool→Nat→Prop) (β:C8) (h:Am) (w:World):List AV→List Value→Prop
 | [],cs=>cs=[]
 | x::r,cs=>∃ u us,cs=u::us∧Rep J β h w x u∧Reps J β h w r us
end
structure Ext (J:Bool→Nat→Prop) (β:C8) (h:Am) (w:World) (J':Bool→Nat→Prop) (β':C8) (h':Am) (w':World):Prop where
 jsub:∀ o k,J o k→J' o k
 keep:∀ o,A5a (J o) w w'
 blk:∀ b x,Au h b=some x→∃ x',(Au h' b=some x'∧x'.mp=x.mp)∧(x'.dead=true∨(x.dead=false∧β' b=β b∧x'.sz=x.sz∧(x.mp=false→x'.cells.length=x.cells.length)))
 size:∀ b k o,β b=some (k,o)→Bw w k≤Bw w' k
mutual
theorem Rep.ext {J J':Bool→Nat→Prop} {β β':C8} {h h':Am} {w w':World} (E:Ext J β h w J' β' h' w'):∀ {x:AV} {v:Value},Rep J β h w x v→Rep J' β' h' w' x v
 | .own b off n,v,hr=>by
  rw[Rep] at hr ⊢
  obtain⟨x,A,cap,⟨hx,hm⟩,h1,h2,hr⟩:=hr
  obtain⟨x',⟨hx',hm'⟩,hd⟩:=E.blk b x hx
  refine⟨x',A,cap,⟨hx',by rw[hm',hm]⟩,h1,h2,?_⟩
  rcases hr with hr | ⟨k,o,h3,hr⟩
  ·exact .inl hr
  ·refine .inr ⟨k,o,h3,?_⟩
   rcases hd with hd | ⟨hd,hβ,hs,hl⟩
   ·exact .inl hd
   ·rcases hr with hr | ⟨h4,h5,h6⟩
    ·simp[hd] at hr
    ·exact .inr ⟨by rw[hβ];exact h4,by rw[hs];exact Nat.le_trans h5 (E.size b k o h4),by rw[hs,hl hm];exact h6⟩
 | .optr b off,v,hr=>by
  rw[Rep] at hr ⊢
  obtain⟨x,k,o,⟨hx,hm⟩,h1,hr⟩:=hr
  obtain⟨x',⟨hx',hm'⟩,hd⟩:=E.blk b x hx
  refine⟨x',k,o,⟨hx',by rw[hm',hm]⟩,h1,?_⟩
  rcases hd with hd | ⟨hd,hβ,hs,hl⟩
  ·exact .inl hd
  ·rcases hr with hr | hr
   ·simp[hd] at hr
   ·exact .inr (by rw[hβ];exact hr)
 | .omap b,v,hr=>by
  rw[Rep] at hr ⊢
  obtain⟨x,k,⟨hx,hm⟩,h1,hr⟩:=hr
  obtain⟨x',⟨hx',hm'⟩,hd⟩:=E.blk b x hx
  refine⟨x',k,⟨hx',by rw[hm',hm]⟩,h1,?_⟩
  rcases hd with hd | ⟨hd,hβ,hs,hl⟩
  ·exact .inl hd
  ·rcases hr with hr | hr
   ·simp[hd] at hr
   ·exact .inr (by rw[hβ];exact hr)
 | .pagg c org,v,hr=>by
  rw[Rep] at hr ⊢
  obtain⟨cs,h1,h2,h3⟩:=hr
  exact⟨cs,h1,h2,RepCs.keep (E.jsub org) (E.keep org) (fun _=>rfl) h3⟩
 | .agg c,v,hr=>by
  rw[Rep] at hr ⊢
  obtain⟨cs,h1,h2⟩:=hr
  exact⟨cs,h1,Reps.ext E (c:=c) h2⟩
 | .tup c,v,hr=>by
  rw[Rep] at hr ⊢
  obtain⟨cs,h1,h2⟩:=hr
  exact⟨cs,h1,Reps.ext E (c:=c) h2⟩
 | .fn f c,v,hr=>by
  rw[Rep] at hr ⊢
  obtain⟨cs,h1,h2⟩:=hr
  exact⟨cs,h1,Reps.ext E (c:=c) h2⟩
 | .undef,_,_=>by rw[Rep];trivial
 | .imm c n sz t org,v,hr=>by rw[Rep] at hr ⊢;exact RepC.keep (E.jsub org) (E.keep org) hr
 | .iptr c org,v,hr=>by rw[Rep] at hr ⊢;exact RepC.keep (E.jsub org) (E.keep org) hr
 | .int ..,_,hr=>hr
 | .bool _,_,hr=>hr
 | .str _,_,hr=>hr
 | .nsl,_,hr=>hr
 | .nilptr,_,hr=>hr
 | .nilfn,_,hr=>hr
theorem Reps.ext {J J':Bool→Nat→Prop} {β β':C8} {h h':Am} {w w':World} (E:Ext J β h w J' β' h' w'):∀ {c:List AV} {cs:List Value},Reps J β h w c cs→Reps J' β' h' w' c cs
 | [],_,hr=>hr
 | x::r,cs,hr=>by
  rw[Reps] at hr ⊢
  obtain⟨u,us,h1,h2,h3⟩:=hr
  exact⟨u,us,h1,Rep.ext E (x:=x) h2,Reps.ext E (c:=r) h3⟩
end
end Gx

namespace Gx
open Go
def CellsRep (J:Bool→Nat→Prop) (β:C8) (h:Am) (w:World) (x:Blk) (rd:Nat→Option Value):Prop :=
 (x.pure=true→RepCs (J x.taint) w x.cells rd 0) ∧
 (x.pure=false→∀ j c,x.cells[j]?=some c→∃ u,rd j=some u∧Rep J β h w c u∧u.oneCell'=true)
def FrOk (n:Nat) (fr:Nat×Nat):Prop:=fr.1=fr.2∨n≤fr.1
theorem FrOk.at {n:Nat} {fr:Nat×Nat} (h:FrOk n fr) (j:Nat) (k:j<n):¬ (fr.1≤j∧j<fr.2):=by rcases h with h | h<;>omega
def Beu (J:Bool→Nat→Prop) (β:C8) (h:Am) (w:World) (b:Nat) (x:Blk):Prop :=
 (β b=none∧x.cells=[])∨∃ k o cs ty fr,β b=some (k,o)∧w.heap[k]?=some (.cells cs ty fr) ∧
  FrOk cs.size fr∧o+x.cells.length≤cs.size∧CellsRep J β h w x (fun j=>cs[o+j]?) ∧
  (x.sealed=false→∀ g,¬ J g k)∧(x.sealed=true→J x.taint k)
def Bcg (c:LA) (es:Array MapEntry):Prop:=∃ l:List Int,c=l.map (fun n=>.int .i64 n)∧es.toList.map (fun e=>(e.key,e.val))=l.map (fun n=>(.int .i64 n,.bool true))
def MapRep (J:Bool→Nat→Prop) (β:C8) (w:World) (b:Nat) (x:Blk):Prop :=
 x.pure=true∧x.sealed=false∧∃ k es clk,β b=some (k,0)∧w.heap[k]?=some (.map es clk)∧Bcg x.cells es∧∀ g,¬ J g k
structure SimH (J:Bool→Nat→Prop) (β:C8) (h:Am) (w:World):Prop where
 jlt:∀ o k,J o k→k<w.heap.size
 jft:∀ k,J false k→J true k
 blk:∀ b x,Au h b=some x→x.dead=false→x.mp=false→Beu J β h w b x
 mblk:∀ b x,Au h b=some x→x.dead=false→x.mp=true→MapRep J β w b x
 sep:∀ b b' x x' k o o',Au h b=some x→Au h b'=some x'→x.dead=false→x'.dead=false→x.sealed=false→β b=some (k,o)→β b'=some (k,o')→b=b'
mutual
theorem ge {J:Bool→Nat→Prop} {β:C8} {h:Am} {w:World}:∀ v:Value,Rep J β h w (v_ v) v
 | .int ..=>by simp[v_,Rep]
 | .bool _=>by simp[v_,Rep]
 | .string ⟨⟨s⟩⟩=>by simp[v_,Rep]
 | .slice none 0 0=>by simp[v_,Rep]
 | .slice none 0 (_+1)=>by simp[v_,Rep]
 | .slice none (_+1) _=>by simp[v_,Rep]
 | .slice (some _) _ _=>by simp[v_,Rep]
 | .pointer none=>by simp[v_,Rep]
 | .pointer (some _)=>by simp[v_,Rep]
 | .nilFunc=>by simp[v_,Rep]
 | .agg ⟨cs⟩=>by rw[v_,Rep];exact⟨cs,rfl,gf cs⟩
 | .float ..=>by simp[v_,Rep]
 | .complex ..=>by simp[v_,Rep]
 | .map _=>by simp[v_,Rep]
 | .chan _=>by simp[v_,Rep]
 | .func ..=>by simp[v_,Rep]
 | .iface ..=>by simp[v_,Rep]
 | .nilIface=>by simp[v_,Rep]
 | .tuple _=>by simp[v_,Rep]
theorem gf {J:Bool→Nat→Prop} {β:C8} {h:Am} {w:World}:∀ cs:List Value,Reps J β h w (Ug cs) cs
 | []=>by simp[Ug,Reps]
 | v::r=>by rw[Ug,Reps];exact⟨v,r,rfl,ge v,gf r⟩
end
structure SimS (J:Bool→Nat→Prop) (β:C8) (h:Am) (w:World) (s:Hy) (t:Array Value):Prop where
 slot:∀ i v,t[i]?=some v→Rep J β h w (G3 s i) v
 out:∀ i,t.size≤i→G3 s i=.undef
theorem Br {J:Bool→Nat→Prop} {β:C8} {h:Am} {w:World} {s:Hy} {a:Act} (H:SimS J β h w s a.tmps) (x:Operand):Rep J β h w (ev s x) (a.eval x):=by
 cases x with
 | tmp t =>
  rw[ev,Act.eval,Array.getD_eq_getD_getElem?]
  cases k:a.tmps[t]? with
  | some v=>exact H.slot t v k
  | none =>
   have:a.tmps.size≤t:=by simpa using k
   rw[H.out t this];simp[Rep]
 | const v=>exact ge v
 | global g=>simp[ev,Rep]
 | func f =>
  rw[ev]
  cases C:Nat.blt f 1000000 with
  | false=>simp[Rep]
  | true =>
   have:f<1000000:=by simpa using C
   simp[Rep,Act.eval,Reps,Nat.mod_eq_of_lt this]
section
variable {R:Type} {r:R} {P:Program} {J:Bool→Nat→Prop} {β:C8} {h:Am} {w:World}
theorem Asb {t:TypeId} {op:BinOp} {k:IntKind} {a b:Int} {v:AV} (C:tE op k a b=some v) :
  ∃ vc,(binOp op t (.int k a) (.int k b)).run P w=.ok vc w∧Rep J β h w v vc:=by
 cases op<;>simp[tE] at C<;>subst C<;>simp[binOp,Op.intArith,Op.intBits,Op.intCmp,Rep]
theorem A09 {op:BinOp} {t:TypeId} {x y:AV} {k:AV→O R} {vx vy:Value} (C:A6q P t op x y k=some r) (S:Rep J β h w x vx) (T:Rep J β h w y vy) (ox oy:Operand) :
  ∃ v vc,k v=some r∧(do eqGuard op t ox oy vx vy;binOp op t vx vy:Sem Value).run P w=.ok vc w∧Rep J β h w v vc:=by
 unfold A6q at C
 split at C
 ·rename_i I a M b
  rw[Rep] at S T;subst S T
  have F:(eqGuard op t ox oy (.int I a) (.int M b)).run P w=.ok () w:=by
   unfold eqGuard;cases op<;>simp
  split at C
  ·cases D:decide (b<0)<;>rw[D] at C<;>simp at C D
   refine⟨_,_,C,?_,by rw[Rep]⟩
   simp[F,binOp,Op.shift];intro Y;omega
  ·cases D:decide (b<0)<;>rw[D] at C<;>simp at C D
   refine⟨_,_,C,?_,by rw[Rep]⟩
   simp[F,binOp,Op.shift];intro Y;omega
  ·cases L:Uh I M<;>rw[L] at C<;>simp at C
   have G:I=M:=by simpa[Uh] using L
   subst G
   cases D:(b==0)<;>rw[D] at C<;>simp at C D
   refine⟨_,_,C,?_,by rw[Rep]⟩
   simp[F,binOp,Op.intDiv,D]
  ·cases L:Uh I M<;>rw[L] at C<;>simp at C
   have G:I=M:=by simpa[Uh] using L
   subst G
   cases D:(b==0)<;>rw[D] at C<;>simp at C D
   refine⟨_,_,C,?_,by rw[Rep]⟩
   simp[F,binOp,Op.intDiv,D]
  ·cases L:Uh I M<;>rw[L] at C<;>simp at C
   have G:I=M:=by simpa[Uh] using L
   subst G
   cases hi:tE op I a b with
   | none=>rw[hi] at C;simp at C
   | some v =>
    rw[hi] at C
    obtain⟨vc,h1,h2⟩:=Asb (P:=P) (J:=J) (β:=β) (h:=h) (w:=w) (t:=t) hi
    exact⟨v,vc,by simpa using C,by simp[F,h1],h2⟩
 ·rename_i a b
  rw[Rep] at S T;subst S T
  split at C
  ·cases D:gZ P t<;>rw[D] at C<;>simp at C
   have U:P.underlying t=some .bool:=by unfold gZ at D;split at D<;>simp_all
   refine⟨_,_,C,?_,by rw[Rep]⟩
   have V:(Op.equal t (.bool a) (.bool b)).run P w=.ok (a==b) w:=by
    have:∀ d,(Op.equalIn (d+1) t (.bool a) (.bool b)).run P w=.ok (a==b) w:=fun d=>by
     unfold Op.equalIn;simp only[Sem.run_bind,run_underlying U,Result.andThen_ok,Sem.run_pure]
    exact this 9999
   have F:∀ op,(eqGuard op t ox oy (.bool a) (.bool b)).run P w=.ok () w:=fun op=>by unfold eqGuard;cases op<;>simp
   simp only[Sem.run_bind,F,Result.andThen_ok,binOp,V,Sem.run_pure]
  ·cases D:gZ P t<;>rw[D] at C<;>simp at C
   have U:P.underlying t=some .bool:=by unfold gZ at D;split at D<;>simp_all
   refine⟨_,_,C,?_,by rw[Rep]⟩
   have V:(Op.equal t (.bool a) (.bool b)).run P w=.ok (a==b) w:=by
    have:∀ d,(Op.equalIn (d+1) t (.bool a) (.bool b)).run P w=.ok (a==b) w:=fun d=>by
     unfold Op.equalIn;simp only[Sem.run_bind,run_underlying U,Result.andThen_ok,Sem.run_pure]
    exact this 9999
   have F:∀ op,(eqGuard op t ox oy (.bool a) (.bool b)).run P w=.ok () w:=fun op=>by unfold eqGuard;cases op<;>simp
   simp only[Sem.run_bind,F,Result.andThen_ok,binOp,V,Sem.run_pure]
  ·simp at C
 ·rename_i a b
  rw[Rep] at S T;subst S T
  have ea:(⟨⟨a⟩⟩:ByteArray).toList=a:=by simp[ByteArray.toList_eq]
  have eb:(⟨⟨b⟩⟩:ByteArray).toList=b:=by simp[ByteArray.toList_eq]
  have F:∀ op,(eqGuard op t ox oy (.string ⟨⟨a⟩⟩) (.string ⟨⟨b⟩⟩)).run P w=.ok () w:=fun op=>by unfold eqGuard;cases op<;>simp
  split at C
  ·cases D:Nat.ble (a.length+b.length) 140737488355328<;>rw[D] at C<;>simp at C D
   refine⟨_,_,C,?_,by rw[Rep]⟩
   have hl:¬ (((⟨⟨a⟩⟩:ByteArray).size+(⟨⟨b⟩⟩:ByteArray).size:Nat):Int)>IntKind.i64.max:=by
    show ¬ ((a.length+b.length:Nat):Int)>9223372036854775807
    omega
   have ec:(⟨⟨a⟩⟩:ByteArray)++⟨⟨b⟩⟩=⟨⟨a++b⟩⟩:=by
    apply ByteArray.ext;simp[ByteArray.data_append]
   simp only[Sem.run_bind,F,Result.andThen_ok,binOp,Op.stringOp,if_neg hl,Sem.run_pure,ec]
  all_goals first
   | (refine⟨_,_,C,?_,by rw[Rep]⟩;simp only[Sem.run_bind,F,Result.andThen_ok,binOp,Op.stringOp,Sem.run_pure,ea,eb];done)
   | simp at C
 ·simp at C
end
end Gx

namespace Gx
open Go
section
variable {R:Type} {r:R} {P:Program} {J:Bool→Nat→Prop} {β:C8} {h:Am} {w:World}
theorem ub {α:Type} {o:Option α} {f:α→O R} (k:o.bind f=some r):∃ x,o=some x∧f x=some r:=by
 cases o with
 | none=>simp at k
 | some x=>exact⟨x,rfl,by simpa using k⟩
theorem uc {b:Bool} {x:O R} (k:cond b x none=some r):b=true∧x=some r:=by
 cases b<;>simp at k;exact⟨rfl,k⟩
theorem A5b {b:Bool} {x:O R} (k:cond b none x=some r):b=false∧x=some r:=by
 cases b<;>simp at k;exact⟨rfl,k⟩
theorem A6w {op:UnOp} {x v:AV} {vx:Value} (C:Bha op x=some v) (F:Rep J β h w x vx) :
  ∃ vc,(Op.unary op vx).run P w=.ok vc w∧Rep J β h w v vc:=by
 unfold Bha at C
 split at C
 ·rename_i k n
  rw[Rep] at F;subst F;simp at C;subst C
  refine⟨.int k (k.wrap (-n)),by simp[Op.unary,Op.intArith],?_⟩
  rw[Rep]
 ·rename_i k n
  rw[Rep] at F;subst F
  have D:=C
  rw[tE] at D
  simp only[Option.some.injEq] at D;subst D
  refine⟨_,rfl,?_⟩
  rw[Rep];cases k.signed<;>rfl
 ·rename_i b
  rw[Rep] at F;subst F;simp at C;subst C
  exact⟨.bool (!b),by simp[Op.unary],by rw[Rep]⟩
 ·simp at C
def vj (P:Program) (J:Bool→Nat→Prop) (β:C8) (h:Am) (w:World) (t:TypeId) (rd:Nat→Option Value) (v:AV):Prop :=
 (∃ d,P.underlying t=some d∧d.isRow=false∧∃ u,rd 0=some u∧Rep J β h w v u) ∨
 (∃ d,P.underlying t=some d∧d.isRow=true∧∃ us:List Value,(P.info? t).map (·.size)=some us.length∧(∀ j u,us[j]?=some u→rd j=some u)∧Rep J β h w v (.agg us.toArray))
theorem RepCs.at {J:Nat→Prop} {c:LA} {rd:Nat→Option Value} (k:RepCs J w c rd 0) {j:Nat} {x:AV} (C:c[j]?=some x):∃ u,rd j=some u∧RepC J w x u:=by
 have:=Df.1 k j x C;simpa using this
theorem RepCs.drop {J:Nat→Prop} {c:LA} {rd:Nat→Option Value} (k:RepCs J w c rd 0) (n:Nat):RepCs J w (c.drop n) (fun j=>rd (n+j)) 0:=by
 rw[Df] at k ⊢
 intro j x C
 rw[List.getElem?_drop] at C
 simpa using k (n+j) x C
theorem RepCs.take {J:Nat→Prop} {c:LA} {rd:Nat→Option Value} (C:RepCs J w c rd 0) (n:Nat):RepCs J w (c.take n) rd 0:=by
 rw[Df] at C ⊢
 intro j x k
 rw[List.getElem?_take] at k
 split at k
 ·exact C j x k
 ·simp at k
theorem RepCs.list {J:Nat→Prop} {c:LA} {rd:Nat→Option Value} (F:RepCs J w c rd 0) :
  ∃ us:List Value,us.length=c.length∧(∀ j u,us[j]?=some u→rd j=some u)∧RepCs J w c (fun j=>us[j]?) 0:=by
 refine⟨c.zipIdx.map fun p=>(rd p.2).getD undef,by simp,fun j u k=>?_,?_⟩
 ·rw[List.getElem?_map,List.getElem?_zipIdx] at k
  cases D:c[j]? with
  | none=>rw[D] at k;simp at k
  | some x =>
   rw[D] at k
   obtain⟨G,C,_⟩:=F.at D
   simp[C] at k
   rw[C,k]
 ·rw[Df]
  intro j x k
  obtain⟨u,C,hr⟩:=F.at k
  refine⟨u,?_,hr⟩
  simp[k,C]
theorem vn {J1 J2:Nat→Prop}:∀ {c:LA} {rd:Nat→Option Value} {i:Nat},Ba c=true→RepCs J1 w c rd i→RepCs J2 w c rd i
 | [],_,_,_,_=>trivial
 | x::r,rd,i,k,C=>by
  rw[RepCs] at C ⊢
  obtain⟨⟨u,D,G⟩,F⟩:=C
  have hr:Ba r=true:=by unfold Ba at k;split at k<;>simp_all
  refine⟨⟨u,D,?_⟩,vn hr F⟩
  unfold Ba at k
  split at k<;>simp_all[RepC]
theorem jK {t:TypeId} {c:LA} {org:Bool} {k:Bool→O R} {rd:Nat→Option Value} {i:Nat} (C:CK P t c org k=some r) (D:RepCs (J org) w c rd i):∃ o,k o=some r∧RepCs (J o) w c rd i:=by
 unfold CK at C
 cases F:A41 P t with
 | true=>rw[F] at C;exact⟨org,C,D⟩
 | false =>
  rw[F,cond_false] at C
  obtain⟨G,I⟩:=uc C
  refine⟨false,I,?_⟩
  cases org with
  | false=>exact D
  | true=>exact vn (by simpa using G) D
theorem Yy {t:TypeId} {c:LA} {org:Bool} {k:AV→O R} {rd:Nat→Option Value} (C:bZ P t c org k=some r) (M:RepCs (J org) w c rd 0) :
  ∃ v,k v=some r∧vj P J β h w t rd v:=by
 unfold bZ at C
 have agg:∀ {d:TypeDesc},P.underlying t=some d→d.isRow=true→((D1 P t).bind fun n=>cond (Nat.ble n c.length) (CK P t (c.take n) org fun o=>k (.pagg (c.take n) o)) none)=some r →
   ∃ v,k v=some r∧vj P J β h w t rd v:=by
  intro d F hd C
  obtain⟨n,hn,C⟩:=ub C
  obtain⟨V,C⟩:=uc C
  have hle':n≤c.length:=by simpa using V
  obtain⟨us,G,D,Y⟩:=(M.take n).list
  have hl:us.length=n:=by rw[G];simp;omega
  obtain⟨o,C,h4⟩:=jK C Y
  refine⟨_,C,.inr ⟨d,F,hd,us,?_,D,?_⟩⟩
  ·rw[hl];exact hn
  ·rw[Rep];exact⟨us,rfl,by rw[G],h4⟩
 split at C
 ·rename_i kd F
  obtain⟨x,I,C⟩:=ub C
  obtain⟨n,hn,C⟩:=ub C
  obtain⟨u,G,D⟩:=M.at (by rw[←List.head?_eq_getElem?];exact I)
  refine⟨_,C,.inl ⟨_,F,rfl,u,G,?_⟩⟩
  unfold va at hn
  split at hn
  ·obtain⟨S,T⟩:=uc hn
   simp[Uh] at S T;subst S;subst T
   rw[RepC] at D;rw[Rep];exact D
  ·simp at hn
 ·rename_i F
  obtain⟨x,I,C⟩:=ub C
  obtain⟨n,hn,C⟩:=ub C
  obtain⟨u,G,D⟩:=M.at (by rw[←List.head?_eq_getElem?];exact I)
  refine⟨_,C,.inl ⟨_,F,rfl,u,G,?_⟩⟩
  unfold asBool at hn
  split at hn
  ·simp at hn;subst hn
   rw[RepC] at D;rw[Rep];exact D
  ·simp at hn
 ·rename_i F
  obtain⟨x,I,C⟩:=ub C
  obtain⟨n,hn,C⟩:=ub C
  obtain⟨u,G,D⟩:=M.at (by rw[←List.head?_eq_getElem?];exact I)
  refine⟨_,C,.inl ⟨_,F,rfl,u,G,?_⟩⟩
  unfold vd at hn
  split at hn
  ·simp at hn;subst hn
   rw[RepC] at D;rw[Rep];exact D
  ·simp at hn
 ·rename_i e F
  obtain⟨sz,hsz,C⟩:=ub C
  obtain⟨x,I,C⟩:=ub C
  obtain⟨p,L,C⟩:=ub C
  obtain⟨u,G,D⟩:=M.at (by rw[←List.head?_eq_getElem?];exact I)
  refine⟨_,C,.inl ⟨_,F,rfl,u,G,?_⟩⟩
  unfold A6r at L
  rw[Rep,RepC]
  split at L
  ·obtain⟨S,U⟩:=uc L
   simp at S U;subst S;subst U
   rw[RepC] at D
   obtain⟨Y,A,cap,h4,h5,h6,h7⟩:=D
   exact⟨Y,A,cap,h4,h5,by simp,h7⟩
  ·simp at L;subst L
   rw[RepC] at D
   exact⟨by simp,none,0,D,by simp,by simp,.inl rfl⟩
  ·simp at L
 ·rename_i F;exact agg F rfl C
 ·rename_i F;exact agg F rfl C
 ·simp at C
theorem C9:∀ {c:LA} {cs:List Value},Reps J β h w c cs↔cs.length=c.length∧∀ (j:Nat) (x:AV) (u:Value),c[j]?=some x→cs[j]?=some u→Rep J β h w x u
 | [],cs=>by rw[Reps];simp
 | x::r,cs=>by
  rw[Reps]
  constructor
  ·rintro⟨u,us,rfl,D,F⟩
   rw[C9] at F
   refine⟨by simp[F.1],fun j y v k C=>?_⟩
   cases j with
   | zero=>simp at k C;subst k C;exact D
   | succ j=>exact F.2 j y v (by simpa using k) (by simpa using C)
  ·rintro⟨G,D⟩
   cases cs with
   | nil=>simp at G
   | cons u us =>
    refine⟨u,us,rfl,D 0 x u (by simp) (by simp),?_⟩
    rw[C9]
    exact⟨by simpa using G,fun j y v k C=>D (j+1) y v (by simpa using k) (by simpa using C)⟩
theorem cC {t:TypeId} {c:LA} {k:AV→O R} {rd:Nat→Option Value} (C:ve P t c k=some r)
  (M:∀ j x,c[j]?=some x→∃ u,rd j=some u∧Rep J β h w x u) :
  ∃ v,k v=some r∧vj P J β h w t rd v:=by
 unfold ve at C
 have agg:∀ {d:TypeDesc},P.underlying t=some d→d.isRow=true→((D1 P t).bind fun n=>cond (Nat.ble n c.length) (k (.agg (c.take n))) none)=some r →
   ∃ v,k v=some r∧vj P J β h w t rd v:=by
  intro d F T C
  obtain⟨n,hn,C⟩:=ub C
  obtain⟨S,C⟩:=uc C
  have L:n≤c.length:=by simpa using S
  refine⟨_,C,.inr ⟨d,F,T,(c.take n).zipIdx.map fun p=>(rd p.2).getD undef,?_,fun j u I=>?_,?_⟩⟩
  ·simp;rw[Nat.min_eq_left L];exact Option.map_eq_some_iff.1 hn
  ·rw[List.getElem?_map,List.getElem?_zipIdx] at I
   cases D:(c.take n)[j]? with
   | none=>rw[D] at I;simp at I
   | some x =>
    rw[D] at I
    rw[List.getElem?_take] at D
    split at D
    ·obtain⟨U,G,_⟩:=M j x D
     simp[G] at I
     rw[G,I]
    ·simp at D
  ·rw[Rep]
   refine⟨_,rfl,C9.2 ⟨by simp,fun j x u D F=>?_⟩⟩
   simp[D] at F
   rw[List.getElem?_take] at D
   split at D
   ·obtain⟨U,G,hr⟩:=M j x D
    simp[G] at F;subst F;exact hr
   ·simp at D
 split at C
 ·rename_i F;exact agg F rfl C
 ·rename_i F;exact agg F rfl C
 ·rename_i d _ _ F
  obtain⟨x,D,C⟩:=ub C
  obtain⟨u,V,Y⟩:=M 0 x (by rw[←List.head?_eq_getElem?];exact D)
  refine⟨x,C,.inl ⟨d,F,?_,u,V,Y⟩⟩
  cases d<;>simp_all
 ·simp at C
theorem Aop {n:Nat} {k:AV→O R}:∀ {c:LA} {i:Nat},TE n k c i=some r→i≤n∧∃ x,c[n - i]?=some x∧k x=some r
 | [],i,C=>by simp[TE] at C
 | v::c,i,C=>by
  rw[TE] at C
  cases D:Nat.beq n i with
  | true =>
   rw[D] at C
   have:n=i:=Nat.eq_of_beq_eq_true D
   subst this
   exact⟨Nat.le_refl _,v,by simp,C⟩
  | false =>
   rw[D] at C
   obtain⟨I,x,F,G⟩:=Aop (c:=c) C
   refine⟨by omega,x,?_,G⟩
   rw[show n - i=(n - (i+1))+1 by omega];simpa using F
theorem oP {t:TypeId} {c:LA} {off:Nat} {k:AV→O R} (C:b6 P t c off k=some r):ve P t (c.drop off) k=some r:=by
 unfold b6 at C
 unfold ve
 split at C
 ·exact C
 ·exact C
 ·rename_i d I L M
  obtain⟨_,x,D,F⟩:=Aop C
  have G:(c.drop off).head?=some x:=by rw[List.head?_eq_getElem?,List.getElem?_drop];simpa using D
  rw[G];exact F
 ·simp at C
theorem gh {t:TypeId} {d:TypeDesc} (k:P.underlying t=some d):(isAgg t).run P w=.ok d.isRow w:=by
 unfold isAgg
 rw[Sem.run_bind,run_underlying k w]
 cases d<;>simp
theorem jL {t:TypeId} {a:Addr} {v:AV} (hr:vj P J β h w t (fun j=>w.cell? (a.add j)) v):∃ vc,(loadVar t a).run P w=.ok vc w∧Rep J β h w v vc:=by
 rcases hr with⟨d,C,D,u,k,F⟩ | ⟨d,C,D,us,k,F,I⟩
 ·refine⟨u,?_,F⟩
  have G:w.cell? a=some u:=by simpa[Addr.add] using k
  simp[loadVar,gh C,D,G]
 ·refine⟨_,?_,I⟩
  have L:=run_loadCells_list (P:=P) w a us F
  cases hq:P.info? t with
  | none=>simp[hq] at k
  | some i =>
   have hs:i.size=us.length:=by simpa[hq] using k
   simp[loadVar,Sem.run_bind,gh C,D,Go.sizeOf,typeInfo,hq,hs,L]
theorem Xv {t:TypeId} {cs:List Value} {off:Nat} {v:AV} (hr:vj P J β h w t (fun j=>cs[off+j]?) v):∃ vc,(part t ⟨cs⟩ off).run P w=.ok vc w∧Rep J β h w v vc:=by
 rcases hr with⟨d,C,D,u,k,F⟩ | ⟨d,C,D,us,k,F,I⟩
 ·refine⟨u,?_,F⟩
  simp at k
  simp[part,gh C,D,k]
 ·refine⟨_,?_,I⟩
  cases hq:P.info? t with
  | none=>simp[hq] at k
  | some i =>
   have hs:i.size=us.length:=by simpa[hq] using k
   have:(⟨cs⟩:Array Value).extract off (off+us.length)=us.toArray:=by
    apply Array.ext'
    simp
    apply List.ext_getElem?
    intro j
    rw[List.getElem?_take,List.getElem?_drop]
    split
    ·rename_i G
     rw[List.getElem?_eq_getElem G]
     exact F j _ (List.getElem?_eq_getElem G)
    ·rename_i G
     rw[List.getElem?_eq_none (by omega)]
   simp only[part,Sem.run_bind,gh C,D,Go.sizeOf,typeInfo,run_program,Result.andThen_ok,hq,Sem.run_pure,hs,if_true,this]
end
end Gx

namespace Gx
open Go
section
variable {R:Type} {r:R} {P:Program} {J:Bool→Nat→Prop} {β:C8} {h:Am} {w:World} {g:Cb}
theorem Yz {k:Nat} {cs:Array Value} {ty:TypeId} {fr:Nat×Nat} (C:w.heap[k]?=some (.cells cs ty fr)) (i:Nat):w.cell? ⟨k,i,none⟩=cs[i]?:=by
 simp[World.cell?,C]
def Looks (g:Cb) (h:Am):Prop:=∀ b x,g b=some x→Au h b=some x
theorem Py {b:Nat} {x:Blk} (C:Looks g h) (k:Lf g b=some x):Au h b=some x∧x.dead=false:=by
 unfold Lf at k
 obtain⟨y,D,k⟩:=ub k
 obtain⟨F,k⟩:=A5b k
 simp at k;subst k
 exact⟨C b _ D,F⟩
theorem Asc {b off:Nat} {x:Blk} {v:Value} (S:SimH J β h w) (G:Au h b=some x) (I:x.dead=false) (hr:Rep J β h w (.optr b off) v) :
  ∃ k o cs ty fr,β b=some (k,o)∧v=.pointer (some ⟨k,o+off,none⟩)∧w.heap[k]?=some (.cells cs ty fr) ∧
  FrOk cs.size fr∧o+x.cells.length≤cs.size∧CellsRep J β h w x (fun j=>cs[o+j]?) ∧
  (x.sealed=false→∀ g,¬ J g k)∧(x.sealed=true→J x.taint k):=by
 rw[Rep] at hr
 obtain⟨y,k,o,⟨D,L⟩,M,hr⟩:=hr
 rw[G] at D;simp at D;subst D
 rcases hr with hr | F
 ·simp[I] at hr
 ·rcases S.blk b x G I L with⟨hn,_⟩ | ⟨k',o',cs,ty,fr,C,T,U,V,Y,h5,h6⟩
  ·rw[F] at hn;simp at hn
  ·rw[F] at C;simp at C;obtain⟨rfl,rfl⟩:=C
   exact⟨k,o,cs,ty,fr,F,M,T,U,V,Y,h5,h6⟩
theorem CellsRep.reads {t:TypeId} {x:Blk} {cs:Array Value} {o off:Nat} {k:AV→O R} (I:CellsRep J β h w x (fun j=>cs[o+j]?))
  (C:cond x.pure (bZ P t (x.cells.drop off) x.taint k) (b6 P t x.cells off k)=some r) :
  ∃ v,k v=some r∧vj P J β h w t (fun j=>cs[o+off+j]?) v:=by
 cases D:x.pure with
 | true =>
  rw[D] at C
  have:=(I.1 D).drop off
  obtain⟨v,F,G⟩:=Yy (β:=β) (h:=h) C this
  exact⟨v,F,by simpa[Nat.add_assoc] using G⟩
 | false =>
  rw[D] at C
  obtain⟨v,F,G⟩:=cC (J:=J) (β:=β) (h:=h) (w:=w) (rd:=fun j=>cs[o+(off+j)]?) (oP C) (fun j y L=>by
   rw[List.getElem?_drop] at L
   obtain⟨u,M,hr,_⟩:=I.2 D _ _ L
   exact⟨u,M,hr⟩)
  exact⟨v,F,by simpa[Nat.add_assoc] using G⟩
theorem vq {t:TypeId} {p:AV} {vp:Value} {k:AV→O R} (S:SimH J β h w) (U:Looks g h) (C:Ace P g t p k=some r) (D:Rep J β h w p vp) :
  ∃ v vc,k v=some r∧(Instr.loadAt t vp).run P w=.ok vc w∧Rep J β h w v vc:=by
 unfold Ace at C
 split at C
 ·rename_i c org
  rw[Rep,RepC] at D
  obtain⟨a,rfl,_,F⟩:=D
  obtain⟨v,G,I⟩:=Yy (β:=β) (h:=h) C F
  obtain⟨vc,L,M⟩:=jL I
  exact⟨v,vc,G,by simp[Instr.loadAt,Instr.sureAddr,L],M⟩
 ·rename_i b off
  obtain⟨x,V,C⟩:=ub C
  obtain⟨Y,hd⟩:=Py U V
  obtain⟨kk,o,cs,ty,fr,hβ,rfl,hk,_,_,F,_⟩:=Asc S Y hd D
  obtain⟨v,G,I⟩:=F.reads C
  have T:vj P J β h w t (fun j=>w.cell? ((⟨kk,o+off,none⟩:Addr).add j)) v:=by
   simpa only[Addr.add_mid,Yz hk] using I
  obtain⟨vc,L,M⟩:=jL T
  exact⟨v,vc,G,by simp[Instr.loadAt,Instr.sureAddr,L],M⟩
 ·simp at C
theorem Ff {t:TypeId} {n:Nat} (hs:D1 P t=some n) (w:World):(Go.sizeOf t).run P w=.ok n w:=by
 unfold D1 at hs
 cases hq:P.info? t with
 | none=>simp[hq] at hs
 | some i=>simp[hq] at hs;simp[Go.sizeOf,typeInfo,hq,hs]
theorem Wu {i:Int} {n:Nat} (hi:Ac i n=true):0≤i∧i<(n:Int):=by simpa[Ac] using hi
theorem oQ {J:Nat→Prop} {c:LA} {a:Addr} (k:RepCs J w c (fun j=>w.cell? (a.add j)) 0) (n:Nat):RepCs J w (c.drop n) (fun j=>w.cell? ((a.add n).add j)) 0:=by
 have e:∀ j,(a.add n).add j=a.add (n+j):=fun j=>by
  unfold Addr.add
  by_cases C:n=0<;>by_cases D:j=0<;>simp[C,D,Nat.add_assoc]
 simpa[e] using k.drop n
theorem Bch {b off n:Nat} {v:Value} (m:Nat) (hr:Rep J β h w (.own b off n) v) (hn:n≠0) :
  ∃ k o cap,v=.slice (some ⟨k,o,none⟩) n cap∧Rep J β h w (.optr b (off+m)) (.pointer (some ⟨k,o+m,none⟩)):=by
 rw[Rep] at hr
 obtain⟨x,A,cap,C,rfl,D,hr⟩:=hr
 rcases hr with hr | ⟨k,o,rfl,hr⟩
 ·omega
 ·refine⟨k,o+off,cap,rfl,?_⟩
  rw[Rep];exact⟨x,k,o,C,by rw[Nat.add_assoc],hr.imp id (·.1)⟩
theorem jM {t k:TypeId} {C:IntKind} {i:Int} {len cap sz:Nat} {a:Addr} (D:P.underlying t=some (.slice k)) (hs:D1 P k=some sz) (F:Ac i len=true) :
  (Instr.indexAt t (.slice (some a) len cap) (.int C i)).run P w=.ok (.pointer (some (a.add (i.toNat*sz)))) w:=by
 obtain⟨G,I⟩:=Wu F
 simp[Instr.indexAt,asIntOf,run_underlying D,G,I,Ff hs]
theorem jN {t k:TypeId} {C:IntKind} {i:Int} {len sz:Nat} {a:Addr} (D:P.underlying t=some (.array len k)) (hs:D1 P k=some sz) (F:Ac i len=true) :
  (Instr.indexAt t (.pointer (some a)) (.int C i)).run P w=.ok (.pointer (some (a.add (i.toNat*sz)))) w:=by
 obtain⟨G,I⟩:=Wu F
 simp[Instr.indexAt,asIntOf,run_underlying D,G,I,Ff hs,Instr.sureAddr]
theorem tO {t:TypeId} {x i:AV} {vx vi:Value} {k:AV→O R} (D:Wq P t x i k=some r) (F:Rep J β h w x vx) (hi:Rep J β h w i vi) :
  ∃ v vc,k v=some r∧(Instr.indexAt t vx vi).run P w=.ok vc w∧Rep J β h w v vc:=by
 unfold Wq at D
 split at D
 ·rename_i M c len sz tight org S i G
  obtain⟨T,hs,I⟩:=ub D
  obtain⟨he,h2⟩:=uc I
  obtain⟨C,L⟩:=uc h2
  have U:T=sz:=by simp at he;exact he.symm
  subst U
  rw[Rep] at hi;subst hi
  rw[Rep,RepC] at F
  obtain⟨hlen,A,cap,rfl,hcap,_,hA⟩:=F
  rcases hA with hA | ⟨a,rfl,V,Y⟩
  ·have:=Wu C;omega
  refine⟨_,_,L,jM G hs C,?_⟩
  rw[Rep,RepC]
  exact⟨_,rfl,by rw[Wt];exact V,oQ Y _⟩
 ·rename_i M b off len S i G
  obtain⟨sz,hs,I⟩:=ub D
  obtain⟨C,L⟩:=uc I
  rw[Rep] at hi;subst hi
  obtain⟨kk,o,cap,rfl,h4⟩:=Bch (i.toNat*sz) F (by have:=Wu C;omega)
  exact⟨_,_,L,jM G hs C,by rw[Addr.add_mid];exact h4⟩
 ·rename_i len M c org S i G
  obtain⟨sz,hs,I⟩:=ub D
  obtain⟨C,L⟩:=uc I
  rw[Rep] at hi;subst hi
  rw[Rep,RepC] at F
  obtain⟨a,rfl,V,Y⟩:=F
  refine⟨_,_,L,jN G hs C,?_⟩
  rw[Rep,RepC]
  exact⟨_,rfl,by rw[Wt];exact V,oQ Y _⟩
 ·rename_i len M b off S i G
  obtain⟨sz,hs,I⟩:=ub D
  obtain⟨C,L⟩:=uc I
  rw[Rep] at hi;subst hi
  rw[Rep] at F
  obtain⟨y,kk,o,hy,rfl,h4⟩:=F
  refine⟨_,_,L,jN G hs C,?_⟩
  rw[Rep,Addr.add_mid]
  exact⟨y,kk,o,hy,by rw[Nat.add_assoc],h4⟩
 ·simp at D
theorem oR {t:TypeId} {f:Nat} {p:Nat×TypeId} (k:Ab0 P t f=some p):∃ fs fd,P.underlying t=some (.struct fs)∧fs[f]?=some fd∧fd.offset=p.1∧fd.type=p.2:=by
 unfold Ab0 at k
 split at k
 ·rename_i fs C
  cases hq:fs[f]? with
  | none=>simp[hq] at k
  | some fd=>simp[hq] at k;subst k;exact⟨fs,fd,C,hq,rfl,rfl⟩
 ·simp at k
theorem tP {t:TypeId} {x:AV} {f:Nat} {vx:Value} {k:AV→O R} (G:Wr P t x f k=some r) (C:Rep J β h w x vx) :
  ∃ v vc,k v=some r∧(Instr.fieldAt t vx f).run P w=.ok vc w∧Rep J β h w v vc:=by
 unfold Wr at G
 obtain⟨p,I,L⟩:=ub G
 obtain⟨n,hn,M⟩:=ub L
 obtain⟨S,D⟩:=A5b M
 obtain⟨fs,fd,T,U,V,Y⟩:=oR I
 have F:n≠0:=by intro e;subst e;simp at S
 have run:∀ a:Addr,(Instr.fieldAt t (.pointer (some a)) f).run P w=.ok (.pointer (some (a.add p.1))) w:=fun a=>by
  simp[Instr.fieldAt,run_underlying T,U,Instr.sureAddr,fieldPlace,Y,Ff hn,F,V]
 split at D
 ·rw[Rep,RepC] at C
  obtain⟨a,rfl,hj,hc⟩:=C
  refine⟨_,_,D,run a,?_⟩
  rw[Rep,RepC]
  exact⟨_,rfl,by rw[Wt];exact hj,oQ hc _⟩
 ·rw[Rep] at C
  obtain⟨y,kk,o,hy,rfl,h4⟩:=C
  refine⟨_,_,D,run _,?_⟩
  rw[Rep,Addr.add_mid]
  exact⟨y,kk,o,hy,by rw[Nat.add_assoc],h4⟩
 ·simp at D
theorem Asd {t:TypeId} {x:AV} {f:Nat} {vx:Value} {k:AV→O R} (T:tF P t x f k=some r) (D:Rep J β h w x vx) :
  ∃ v vc,k v=some r∧(Instr.field t vx f).run P w=.ok vc w∧Rep J β h w v vc:=by
 unfold tF at T
 obtain⟨p,hp,F⟩:=ub T
 obtain⟨fs,fd,U,V,Y,ht⟩:=oR hp
 split at F
 ·rename_i c org
  rw[Rep] at D
  obtain⟨cs,rfl,hl,C⟩:=D
  obtain⟨v,G,I⟩:=Yy (β:=β) (h:=h) F (C.drop p.1)
  obtain⟨vc,L,M⟩:=Xv I
  exact⟨v,vc,G,by simp[Instr.field,run_underlying U,V,asAgg,ht,Y,L],M⟩
 ·rename_i c
  rw[Rep] at D
  obtain⟨cs,rfl,C⟩:=D
  rw[C9] at C
  obtain⟨v,G,I⟩:=cC (J:=J) (β:=β) (h:=h) (w:=w) (rd:=fun j=>cs[p.1+j]?) F (fun j y S=>by
   rw[List.getElem?_drop] at S
   have:p.1+j<cs.length:=by
    rw[C.1];exact(List.getElem?_eq_some_iff.1 S).1
   exact⟨cs[p.1+j],List.getElem?_eq_getElem this,C.2 _ _ _ S (List.getElem?_eq_getElem this)⟩)
  obtain⟨vc,L,M⟩:=Xv I
  exact⟨v,vc,G,by simp[Instr.field,run_underlying U,V,asAgg,ht,Y,L],M⟩
 ·simp at F
theorem Ase {t:TypeId} {x i:AV} {vx vi:Value} {k:AV→O R} (C:tG P t x i k=some r) (D:Rep J β h w x vx) (hi:Rep J β h w i vi) :
  ∃ v vc,k v=some r∧(Instr.index t vx vi).run P w=.ok vc w∧Rep J β h w v vc:=by
 unfold tG at C
 split at C
 ·rename_i s kd i F
  obtain⟨G,I⟩:=uc C
  obtain⟨L,T⟩:=Wu G
  rw[Rep] at hi;rw[Rep] at D;subst hi D
  have M:i.toNat<s.length:=by omega
  refine⟨_,.int .u8 ((s.getD i.toNat 0).toNat:Int),I,?_,by rw[Rep]⟩
  have hg:(⟨⟨s⟩⟩:ByteArray)[i.toNat]?=some s[i.toNat]:=by
   have:i.toNat<(⟨⟨s⟩⟩:ByteArray).size:=M
   rw[getElem?_pos (⟨⟨s⟩⟩:ByteArray) i.toNat this];rfl
  simp only[Instr.index,asIntOf,Sem.run_bind,Sem.run_pure,Result.andThen_ok,run_underlying F,L,if_true,hg,List.getD_eq_getElem?_getD,List.getElem?_eq_getElem M,Option.getD_some]
 ·rename_i len el c org kd i F
  obtain⟨sz,hs,I⟩:=ub C
  obtain⟨G,T⟩:=uc I
  obtain⟨L,U⟩:=Wu G
  rw[Rep] at hi;rw[Rep] at D;subst hi
  obtain⟨cs,rfl,hl,S⟩:=D
  obtain⟨v,V,Y⟩:=Yy (β:=β) (h:=h) T (S.drop (i.toNat*sz))
  obtain⟨vc,h6,h7⟩:=Xv Y
  exact⟨v,vc,V,by simp[Instr.index,asIntOf,run_underlying F,L,U,Ff hs,h6],h7⟩
 ·rename_i len el c kd i F
  obtain⟨sz,hs,I⟩:=ub C
  obtain⟨G,T⟩:=uc I
  obtain⟨L,U⟩:=Wu G
  rw[Rep] at hi;rw[Rep] at D;subst hi
  obtain⟨cs,rfl,S⟩:=D
  rw[C9] at S
  obtain⟨v,V,Y⟩:=cC (J:=J) (β:=β) (h:=h) (w:=w) (rd:=fun j=>cs[i.toNat*sz+j]?) (oP T) (fun j y hj=>by
   rw[List.getElem?_drop] at hj
   have:i.toNat*sz+j<cs.length:=by
    rw[S.1];exact(List.getElem?_eq_some_iff.1 hj).1
   exact⟨cs[i.toNat*sz+j],List.getElem?_eq_getElem this,S.2 _ _ _ hj (List.getElem?_eq_getElem this)⟩)
  obtain⟨vc,h6,h7⟩:=Xv Y
  exact⟨v,vc,V,by simp[Instr.index,asIntOf,run_underlying F,L,U,Ff hs,h6],h7⟩
 ·simp at C
end
end Gx

namespace Gx
open Go
section
variable {R:Type} {r:R} {P:Program} {J:Bool→Nat→Prop} {β:C8} {h:Am} {w:World} {g:Cb}
def IN (J:Bool→Nat→Prop) (β:C8) (h:Am) (w:World):Option AV→Option Value→Prop
 | none,none=>True
 | some x,some v=>Rep J β h w x v
 | _,_=>False
theorem cD {o:Option AV} {vo:Option Value} {d:Nat} {i:Int} (C:oG o d=some i) (D:IN J β h w o vo) :
  (o=none∧vo=none∧i=d)∨∃ k,vo=some (.int k i):=by
 unfold oG at C
 split at C
 ·simp at C;subst C
  cases vo with
  | none=>exact .inl ⟨rfl,rfl,rfl⟩
  | some v=>simp[IN] at D
 ·rename_i k j
  simp at C;subst C
  cases vo with
  | none=>simp[IN] at D
  | some v=>rw[IN,Rep] at D;subst D;exact .inr ⟨k,rfl⟩
 ·simp at C
theorem Xw {lo hi mx:Option AV} {vlo vhi vmx:Option Value} {n cap:Nat} {k:Nat→Nat→O R} {isSlice:Bool} (T:CL lo hi mx n k=some r)
  (M:IN J β h w lo vlo)
  (G:IN J β h w hi vhi)
  (I:IN J β h w mx vmx) (U:n≤cap) :
  ∃ l D m,k l D=some r∧l≤D∧D≤n∧D≤m∧m≤cap∧(mx=none→m=cap)∧(∀ F i,vmx=some (.int F i)→(m:Int)=i)∧(∀ F i,vhi=some (.int F i)→(D:Int)=i)∧(hi=none→D=n) ∧
   (Instr.sliceBounds isSlice n cap vlo vhi vmx).run P w=.ok (l,D,m) w:=by
 unfold CL at T
 obtain⟨l,h1,h2⟩:=ub T
 obtain⟨C,h3,h4⟩:=ub h2
 obtain⟨m,h5,S⟩:=ub h4
 obtain⟨V,S⟩:=A5b S
 obtain⟨Y,h7⟩:=uc S
 simp at Y V
 obtain⟨c1,c2,c3,c4⟩:=Y
 have run:∀ (F:IntKind) (i:Int) (y:Nat) (code:BoundsCode),0≤i→i≤(y:Int)→(Instr.sliceBound (.int F i) y code).run P w=.ok i.toNat w:=fun F i y code a b=>by
  simp[Instr.sliceBound,asIntOf,a,b]
 have bl:=cD (J:=J) (β:=β) (h:=h) (w:=w) h1 M
 have bh:=cD (J:=J) (β:=β) (h:=h) (w:=w) h3 G
 have bm:=cD (J:=J) (β:=β) (h:=h) (w:=w) h5 I
 rcases bm with⟨rfl,rfl,rfl⟩ | ⟨km,rfl⟩
 ·refine⟨l.toNat,C.toNat,cap,h7,by omega,by omega,by omega,by omega,fun _=>rfl,by simp,?_,?_,?_⟩
  ·intro F i L
   rcases bh with⟨_,rfl,_⟩ | ⟨kh,rfl⟩
   ·simp at L
   ·simp at L;omega
  ·intro hn
   rcases bh with⟨_,_,rfl⟩ | ⟨kh,rfl⟩
   ·simp
   ·subst hn;simp[IN] at G
  ·rcases bh with⟨_,rfl,rfl⟩ | ⟨kh,rfl⟩<;>rcases bl with⟨_,rfl,rfl⟩ | ⟨kl,rfl⟩
   ·simp[Instr.sliceBounds]
   ·simp[Instr.sliceBounds,run _ l n _ c1 (by omega)]
   ·simp[Instr.sliceBounds,run _ C cap _ (by omega) (by omega)]
   ·simp[Instr.sliceBounds,run _ C cap _ (by omega) (by omega),run _ l C.toNat _ c1 (by omega)]
 ·rcases bh with⟨rfl,rfl,rfl⟩ | ⟨kh,rfl⟩
  ·have:mx.isSome=true:=by
    cases mx with
    | none=>simp[IN] at I
    | some _=>rfl
   have:=V this;simp at this
  ·refine⟨l.toNat,C.toNat,m.toNat,h7,by omega,by omega,by omega,by omega,?_,?_,?_,?_,?_⟩
   ·intro hn;subst hn;simp[IN] at I
   ·intro F i L;simp at L;omega
   ·intro F i L;simp at L;omega
   ·intro hn;subst hn;simp[IN] at G
   ·rcases bl with⟨_,rfl,rfl⟩ | ⟨kl,rfl⟩
    ·simp[Instr.sliceBounds,run _ m cap _ (by omega) (by omega),run _ C m.toNat _ (by omega) (by omega)]
    ·simp[Instr.sliceBounds,run _ m cap _ (by omega) (by omega),run _ C m.toNat _ (by omega) (by omega),run _ l C.toNat _ c1 (by omega)]
theorem Asf {t:TypeId} {x:AV} {lo hi mx:Option AV} {vx:Value} {vlo vhi vmx:Option Value} {k:AV→O R} (hl:Looks g h) (L:tH P g t x lo hi mx k=some r)
  (T:Rep J β h w x vx) (M:IN J β h w lo vlo) (D:IN J β h w hi vhi) (F:IN J β h w mx vmx) :
  ∃ v vc,k v=some r∧(Instr.sliceAt t vx vlo vhi vmx).run P w=.ok vc w∧Rep J β h w v vc:=by
 unfold tH at L
 split at L
 ·rename_i s U
  obtain⟨hm,h1⟩:=A5b L
  have hmn:mx=none:=by cases mx<;>simp_all
  subst hmn
  have hv:vmx=none:=by cases vmx<;>simp_all[IN]
  subst hv
  rw[Rep] at T;subst T
  obtain⟨l,C,m,V,h3,h4,_,_,h5,_,_,_,h6⟩:=Xw (P:=P) (isSlice:=false) h1 M D (vmx:=none) (by simp[IN]) (Nat.le_refl _)
  refine⟨_,_,V,?_,by rw[Rep]⟩
  have hs:(⟨⟨s⟩⟩:ByteArray).size=s.length:=rfl
  have he:(⟨⟨s⟩⟩:ByteArray).extract l C=⟨⟨(s.drop l).take (C - l)⟩⟩:=by
   apply ByteArray.ext
   rw[ByteArray.data_extract]
   simp
  simp[Instr.sliceAt,Instr.slice,run_underlying U,hs,h6,he]
 ·rename_i el U
  rw[Rep] at T;subst T
  obtain⟨sz,hs,L⟩:=ub L
  obtain⟨l,C,m,V,h3,h4,h5,h6,_,_,_,_,h7⟩:=Xw (P:=P) (isSlice:=true) L M D F (Nat.le_refl _)
  have:l=0:=by omega
  have:C=0:=by omega
  have:m=0:=by omega
  subst l;subst C;subst m
  refine⟨_,.slice none 0 0,V,?_,by rw[Rep]⟩
  simp[Instr.sliceAt,Instr.slice,run_underlying U,h7,Ff hs]
 ·rename_i el c n sz tight org U
  obtain⟨Y,hs,h1⟩:=ub L
  obtain⟨he,V⟩:=uc h1
  have S:Y=sz:=by simp at he;exact he.symm
  subst S
  rw[Rep,RepC] at T
  obtain⟨hlen,A,cap,rfl,G,ht,hA⟩:=T
  obtain⟨l,C,m,h3,h4,h5,h6,h7,h8,h9,h10,h11,h12⟩:=Xw (P:=P) (isSlice:=true) V M D F G
  refine⟨_,.slice (if m=l then A else A.map (·.add (l*Y))) (C - l) (m - l),h3,?_,?_⟩
  ·simp[Instr.sliceAt,Instr.slice,run_underlying U,h12,Ff hs]
  ·rw[Rep,RepC]
   refine⟨?_,_,_,rfl,by omega,?_,?_⟩
   ·simp;rw[hlen,←Nat.sub_mul]
    exact Nat.min_eq_left (Nat.mul_le_mul_right _ (by omega))
   ·intro I
    unfold A42 at I
    split at I
    ·have:=ht I
     have:=h8 rfl
     have:=h11 rfl
     omega
    ·rename_i ka a kb b
     cases vhi with
     | none=>simp[IN] at D
     | some u1=>cases vmx with
      | none=>simp[IN] at F
      | some u2 =>
       rw[IN,Rep] at D F;subst D F
       have e1:=h10 _ _ rfl
       have e2:=h9 _ _ rfl
       simp at I
       omega
    ·simp at I
   ·by_cases hz:C - l=0
    ·exact .inl hz
    ·right
     rcases hA with hA | ⟨a,rfl,hj,hc⟩
     ·omega
     ·refine⟨a.add (l*Y),by rw[if_neg (by omega)];rfl,by rw[Wt];exact hj,(oQ hc _).take _⟩
 ·rename_i el b off n U
  obtain⟨sz,hs,h1⟩:=ub L
  obtain⟨y,hy,V⟩:=ub h1
  obtain⟨he,h3⟩:=uc V
  obtain⟨hb,hd⟩:=Py hl hy
  have S:sz=y.sz:=by simpa using he
  rw[Rep] at T
  obtain⟨x,A,cap,⟨hx1,hmp⟩,rfl,G,hr⟩:=T
  rw[hb] at hx1;simp at hx1;subst hx1
  obtain⟨l,C,m,h4,h5,h6,h7,h8,_,_,_,_,h9⟩:=Xw (P:=P) (isSlice:=true) h3 M D F G
  refine⟨_,.slice (if m=l then A else A.map (·.add (l*sz))) (C - l) (m - l),h4,?_,?_⟩
  ·simp[Instr.sliceAt,Instr.slice,run_underlying U,h9,Ff hs]
  ·rw[Rep]
   refine⟨y,_,_,⟨hb,hmp⟩,rfl,by omega,?_⟩
   by_cases hz:m - l=0
   ·exact .inl hz
   ·right
    rcases hr with hr | ⟨kk,o,rfl,hr⟩
    ·omega
    ·refine⟨kk,o,by rw[if_neg (by omega)];simp[Addr.add_mid,Nat.add_assoc],?_⟩
     rcases hr with hr | ⟨r1,r2,r3⟩
     ·simp[hd] at hr
     ·refine .inr ⟨r1,?_,?_⟩
      ·have:l*sz+(m - l)*y.sz≤cap*y.sz:=by
        rw[S,←Nat.add_mul];exact Nat.mul_le_mul_right _ (by omega)
       omega
      ·have:l*sz+(C - l)*y.sz≤n*y.sz:=by
        rw[S,←Nat.add_mul];exact Nat.mul_le_mul_right _ (by omega)
       omega
 ·simp at L
theorem A1a {t:TypeId} {x v:AV} {vx:Value} {ty:TypeId} (k:Ber P t x=some v) (D:Rep J β h w x vx) :
  ∃ vc,(Builtin.len_ #[t] ty #[vx]).run P w=.ok vc w∧Rep J β h w v vc:=by
 unfold Ber at k
 split at k
 ·rename_i C
  simp at k;subst k;rw[Rep] at D;subst D
  exact⟨.int .i64 0,by simp[Builtin.len_,run_underlying C,goInt],by rw[Rep]⟩
 ·rename_i n _ _ _ C
  simp at k;subst k;rw[Rep,RepC] at D
  obtain⟨_,A,cap,rfl,_⟩:=D
  exact⟨.int .i64 n,by simp[Builtin.len_,run_underlying C,goInt],by rw[Rep]⟩
 ·rename_i n C
  simp at k;subst k;rw[Rep] at D
  obtain⟨_,A,cap,_,rfl,_⟩:=D
  exact⟨.int .i64 n,by simp[Builtin.len_,run_underlying C,goInt],by rw[Rep]⟩
 ·rename_i s C
  simp at k;subst k;rw[Rep] at D;subst D
  refine⟨.int .i64 s.length,?_,by rw[Rep]⟩
  have hs:(⟨⟨s⟩⟩:ByteArray).size=s.length:=rfl
  simp[Builtin.len_,run_underlying C,goInt,hs]
 ·rename_i n _ C
  simp at k;subst k
  exact⟨.int .i64 n,by simp[Builtin.len_,run_underlying C,goInt],by rw[Rep]⟩
 ·simp at k
theorem Acm {J:Nat→Prop}:∀ {x:AV} {u:Value},RepC J w x u→u.oneCell'=true
 | .int ..,_,hr=>by rw[RepC] at hr;subst hr;rfl
 | .bool _,_,hr=>by rw[RepC] at hr;subst hr;rfl
 | .str _,_,hr=>by rw[RepC] at hr;subst hr;rfl
 | .nsl,_,hr=>by rw[RepC] at hr;subst hr;rfl
 | .imm ..,_,hr=>by rw[RepC] at hr;obtain⟨_,A,cap,rfl,_⟩:=hr;rfl
 | .iptr ..,_,hr=>by rw[RepC] at hr;obtain⟨a,rfl,_⟩:=hr;rfl
 | .nilptr,_,hr=>by rw[RepC] at hr;subst hr;rfl
 | .nilfn,_,hr=>by rw[RepC] at hr;subst hr;rfl
 | .fn _ [],_,hr=>by rw[RepC] at hr;subst hr;rfl
 | .fn _ (_::_),_,hr=>by simp[RepC] at hr
 | .pagg ..,_,hr=>by simp[RepC] at hr
 | .agg _,_,hr=>by simp[RepC] at hr
 | .tup _,_,hr=>by simp[RepC] at hr
 | .own ..,_,hr=>by simp[RepC] at hr
 | .optr ..,_,hr=>by simp[RepC] at hr
 | .undef,_,hr=>by simp[RepC] at hr
 | .omap _,_,hr=>by simp[RepC] at hr
theorem RepCs.one {J:Nat→Prop} {c:LA} {us:List Value} (D:RepCs J w c (fun j=>us[j]?) 0) (I:us.length=c.length):∀ u ∈ us,u.oneCell'=true:=by
 intro u F
 obtain⟨j,G,rfl⟩:=List.getElem_of_mem F
 have C:j<c.length:=by omega
 obtain⟨L,k,hr⟩:=D.at (List.getElem?_eq_getElem C)
 simp[List.getElem?_eq_getElem G] at k
 rw[k];exact Acm hr
structure Yield (P:Program) (w:World) (sz:Nat) (vx:Value) (n:Nat) (us:List Value):Prop where
 len:∀ w':World,(Builtin.lenOf vx).run P w'=.ok n w'
 cells:∀ (w':World) (m:Nat),(∀ a,w'.cell? a=w.cell? a)→m≤n→(Builtin.firstCells sz m vx).run P w'=.ok (us.take (m*sz)).toArray w'
 length:us.length=n*sz
theorem Awm {sz:Nat} {x:AV} {vx:Value} {q:LA×Nat×Bool} (S:SimH J β h w) (hl:Looks g h) (F:A43 g sz x=some q) (G:Rep J β h w x vx) :
  ∃ us:List Value,Yield P w sz vx q.2.1 us∧q.1.length=us.length∧RepCs (J q.2.2) w q.1 (fun j=>us[j]?) 0:=by
 have ofSlice:∀ (a:Addr) (n cap:Nat) (us:List Value),us.length=n*sz→(∀ j u,us[j]?=some u→w.cell? (a.add j)=some u)→Yield P w sz (.slice (some a) n cap) n us:=fun a n cap us C hu =>
  ⟨fun _=>rfl,fun w' m D hm=>by
   have hle:m*sz≤n*sz:=Nat.mul_le_mul_right _ hm
   refine run_firstCells_some (P:=P) w' sz m a n cap (us.take (m*sz)) (by simp;omega) (fun j v U=>?_)
   rw[D]
   rw[List.getElem?_take] at U
   split at U
   ·exact hu j v U
   ·simp at U,C⟩
 have ofEmpty:∀ (A:Option Addr) (cap:Nat),Yield P w sz (.slice A 0 cap) 0 []:=fun A cap =>
  ⟨fun _=>rfl,fun w' m D hm=>by
   have:m=0:=by omega
   subst this
   cases A with
   | none=>simp[run_firstCells_none]
   | some a=>have:=run_firstCells_some (P:=P) w' sz 0 a 0 cap [] (by simp) (fun j v U=>by simp at U);simpa using this,by simp⟩
 unfold A43 at F
 split at F
 ·simp at F;subst F;rw[Rep] at G;subst G
  exact⟨[],ofEmpty _ _,rfl,by simp[RepCs]⟩
 ·rename_i c n sz' tight org
  obtain⟨D,L⟩:=uc F
  have he':sz'=sz:=by simp at D;exact D.symm
  subst he'
  simp at L;subst L
  rw[Rep,RepC] at G
  obtain⟨C,A,cap,rfl,V,ht,hA⟩:=G
  rcases hA with rfl | ⟨a,rfl,Y,hc⟩
  ·have:c=[]:=by simpa using C
   subst this
   exact⟨[],ofEmpty _ _,rfl,by simp[RepCs]⟩
  ·obtain⟨us,I,h3,h4⟩:=hc.list
   exact⟨us,ofSlice a n cap us (by rw[I,C]) h3,I.symm,h4⟩
 ·rename_i b off n
  obtain⟨y,hy,L⟩:=ub F
  obtain⟨D,I⟩:=uc L
  obtain⟨hb,hd⟩:=Py hl hy
  simp at D I
  obtain⟨hp,D⟩:=D
  subst I;subst D
  rw[Rep] at G
  obtain⟨x,A,cap,⟨M,hmp⟩,rfl,V,hr⟩:=G
  rw[hb] at M;simp at M;subst M
  rcases hr with hr | ⟨kk,o,rfl,hr⟩
  ·have:n=0:=by omega
   subst this
   exact⟨[],ofEmpty _ _,by simp,by simp[RepCs]⟩
  ·rcases hr with hr | ⟨r1,r2,r3⟩
   ·simp[hd] at hr
   ·rcases S.blk b y hb hd hmp with⟨hn,_⟩ | ⟨k',o',cs,ty,fr,T,g1,g2,g3,g4,g5,g6⟩
    ·rw[r1] at hn;simp at hn
    ·rw[r1] at T;simp at T;obtain⟨rfl,rfl⟩:=T
     obtain⟨us,I,h3,h4⟩:=(((g4.1 hp).drop off).take (n*y.sz)).list
     have C:us.length=n*y.sz:=by rw[I];simp;omega
     refine⟨us,ofSlice _ n cap us C (fun j u Y=>?_),I.symm,h4⟩
     have:=h3 j u Y
     rw[Addr.add_mid,Yz g1,Nat.add_assoc];exact this
 ·rename_i s
  obtain⟨D,L⟩:=uc F
  simp at D L
  subst D;subst L
  rw[Rep] at G;subst G
  refine⟨s.map fun b=>.int .u8 (b.toNat:Int),⟨fun _=>rfl,fun w' m _ hm=>?_,by simp⟩,by simp,?_⟩
  ·simp[Builtin.firstCells]
  ·rw[Df]
   intro j x Y
   simp at Y
   obtain⟨b,hb,rfl⟩:=Y
   exact⟨_,by simp[hb];rfl,by rw[RepC]⟩
 ·simp at F
theorem TK {G:TypeId} {sz:Nat} {x:AV} {vx:Value} {k:LA×Nat×Bool→O R} (S:SimH J β h w) (I:Looks g h) (F:mK P G g sz x k=some r) (L:Rep J β h w x vx) :
  ∃ (q:LA×Nat×Bool) (us:List Value),k q=some r∧Yield P w sz vx q.2.1 us∧q.1.length=us.length∧RepCs (J q.2.2) w q.1 (fun j=>us[j]?) 0:=by
 unfold mK at F
 obtain⟨q,hq,M⟩:=ub F
 obtain⟨us,Y,C,D⟩:=Awm (P:=P) S I hq L
 obtain⟨o,T,U⟩:=jK M D
 exact⟨_,us,T,Y,C,U⟩
end
end Gx

namespace Gx
open Go
theorem iZ {a b:Nat} (h:a≠b):Nat.beq a b=false:=by
 cases k:Nat.beq a b with
 | false=>rfl
 | true=>exact absurd (Nat.eq_of_beq_eq_true k) h
theorem AR {a b:Nat} (h:Nat.beq a b=false):a≠b:=fun e=>by subst e;rw[Nat.beq_refl] at h;cases h
theorem Ai:∀ (h:Am) (b:Nat) (y:Blk) (c:Nat),Au (G9 h b y) c=if c=b then some y else Au h c
 | [],b,y,c=>by
  by_cases e:c=b
  ·subst e;simp[G9,Au]
  ·have:Nat.beq b c=false:=iZ (fun e'=>e e'.symm)
   simp[G9,Au,e,this]
 | (i,x)::r,b,y,c=>by
  rw[G9]
  cases D:Nat.beq i b with
  | true =>
   have k:i=b:=by simpa using D
   subst k
   by_cases e:c=i
   ·subst e;simp[Au]
   ·have:Nat.beq i c=false:=iZ (fun e'=>e e'.symm)
    simp[Au,e,this]
  | false =>
   have k:i≠b:=AR D
   cases G:Nat.blt b i with
   | true =>
    by_cases e:c=b
    ·subst e;simp[Au]
    ·have:Nat.beq b c=false:=iZ (fun e'=>e e'.symm)
     simp[Au,e,this]
   | false =>
    simp only[cond_false]
    rw[Au]
    cases F:Nat.beq i c with
    | true =>
     have C:i=c:=by simpa using F
     subst C
     simp[Au,k]
    | false=>simp[Au,F,Ai r b y c]
theorem Pz:∀ (h:Hy) (b:Nat) (y:AV) (c:Nat),G3 (mJ h b y) c=if c=b then y else G3 h c
 | [],b,y,c=>by
  by_cases e:c=b
  ·subst e;simp[mJ,G3]
  ·have:Nat.beq b c=false:=iZ (fun e'=>e e'.symm)
   simp[mJ,G3,e,this]
 | (i,x)::r,b,y,c=>by
  rw[mJ]
  cases D:Nat.beq i b with
  | true =>
   have k:i=b:=by simpa using D
   subst k
   by_cases e:c=i
   ·subst e;simp[G3]
   ·have:Nat.beq i c=false:=iZ (fun e'=>e e'.symm)
    simp[G3,e,this]
  | false =>
   have k:i≠b:=AR D
   cases G:Nat.blt b i with
   | true =>
    by_cases e:c=b
    ·subst e;simp[G3]
    ·have:Nat.beq b c=false:=iZ (fun e'=>e e'.symm)
     simp[G3,e,this]
   | false =>
    simp only[cond_false]
    rw[G3]
    cases F:Nat.beq i c with
    | true =>
     have C:i=c:=by simpa using F
     subst C
     simp[G3,k]
    | false=>simp[G3,F,Pz r b y c]
def Awn (β:C8) (h:Am) (k:Nat):Prop:=∃ b x o,Au h b=some x∧x.dead=false∧x.sealed=false∧β b=some (k,o)
structure Step (J:Bool→Nat→Prop) (β:C8) (h:Am) (w:World) (J':Bool→Nat→Prop) (β':C8) (h':Am) (w':World):Prop where
 ext:Ext J β h w J' β' h' w'
 sim:SimH J' β' h' w'
 os:w'.os=w.os
 tape:w'.tape=w.tape
 output:w'.output=w.output
 size:w.heap.size≤w'.heap.size
 frame:∀ k,k<w.heap.size→¬ Awn β h k→w'.heap[k]?=w.heap[k]?
 wr:∀ k,Awn β' h' k→k<w.heap.size→Awn β h k
 jup:∀ o k,J' o k→J o k∨Awn β h k∨w.heap.size≤k
section
variable {J J' J'':Bool→Nat→Prop} {β β' β'':C8} {h h' h'':Am} {w w' w'':World}
theorem Ext.refl:Ext J β h w J β h w:=⟨fun _ _ k=>k,fun _ _ _=>rfl,fun b x C=>⟨x,⟨C,rfl⟩,by cases D:x.dead<;>simp⟩,fun _ _ _ _=>Nat.le_refl _⟩
theorem Ext.trans (A:Ext J β h w J' β' h' w') (B:Ext J' β' h' w' J'' β'' h'' w'') (hs:∀ b k o,β b=some (k,o)→Bw w k≤Bw w'' k):Ext J β h w J'' β'' h'' w'' where
 jsub o k D:=B.jsub o k (A.jsub o k D)
 keep o k D:=(B.keep o k (A.jsub o k D)).trans (A.keep o k D)
 blk b x I:=by
  obtain⟨x',⟨L,m1⟩,F⟩:=A.blk b x I
  obtain⟨x'',⟨M,m3⟩,C⟩:=B.blk b x' L
  refine⟨x'',⟨M,m3.trans m1⟩,?_⟩
  rcases C with C | ⟨C,S,T,U⟩
  ·exact .inl C
  ·rcases F with F | ⟨V,Y,g3,g4⟩
   ·simp[C] at F
   ·exact .inr ⟨V,S.trans Y,T.trans g3,fun G=>(U (m1.trans G)).trans (g4 G)⟩
 size:=hs
theorem Step.refl (S:SimH J β h w):Step J β h w J β h w:=⟨Ext.refl,S,rfl,rfl,rfl,Nat.le_refl _,fun _ _ _=>rfl,fun _ k _=>k,fun _ _ C=>.inl C⟩
theorem Step.trans (A:Step J β h w J' β' h' w') (B:Step J' β' h' w' J'' β'' h'' w'') (hs:∀ b k o,β b=some (k,o)→Bw w k≤Bw w'' k):Step J β h w J'' β'' h'' w'' where
 ext:=A.ext.trans B.ext hs
 sim:=B.sim
 os:=B.os.trans A.os
 tape:=B.tape.trans A.tape
 output:=B.output.trans A.output
 size:=Nat.le_trans A.size B.size
 frame k C F:=(B.frame k (Nat.lt_of_lt_of_le C A.size) (fun G=>F (A.wr k G C))).trans (A.frame k C F)
 wr k F C:=A.wr k (B.wr k F (Nat.lt_of_lt_of_le C A.size)) C
 jup o k I:=by
  rcases B.jup o k I with D | D | D
  ·exact A.jup o k D
  ·by_cases C:k<w.heap.size
   ·exact .inr (.inl (A.wr k D C))
   ·exact .inr (.inr (by omega))
  ·exact .inr (.inr (Nat.le_trans A.size D))
theorem CellsRep.ext (E:Ext J β h w J' β' h' w') {x:Blk} {rd:Nat→Option Value} (C:CellsRep J β h w x rd):CellsRep J' β' h' w' x rd :=
 ⟨fun k=>RepCs.keep (E.jsub _) (E.keep _) (fun _=>rfl) (C.1 k),fun k j c D=>by
  obtain⟨u,F,G,I⟩:=C.2 k j c D
  exact⟨u,F,Rep.ext E G,I⟩⟩
theorem H0 {k:Nat} {cs:Array Value} {ty:TypeId} {fr:Nat×Nat} (C:w.heap[k]?=some (.cells cs ty fr)):Bw w k=cs.size:=by simp[Bw,C]
theorem gi {k:Nat} {o:Obj} (F:w.heap[k]?=some o):k<w.heap.size:=by
 rcases Nat.lt_or_ge k w.heap.size with C | D
 ·exact C
 ·rw[Array.getElem?_eq_none D] at F;cases F
theorem MapRep.keep {b:Nat} {x:Blk} (M:MapRep J β w b x) (D:β' b=β b) (F:∀ k o,β b=some (k,o)→w'.heap[k]?=w.heap[k]?) (G:∀ g k o,β b=some (k,o)→J' g k→J g k):MapRep J' β' w' b x:=by
 obtain⟨I,L,k,es,clk,C,S,T,U⟩:=M
 exact⟨I,L,k,es,clk,by rw[D];exact C,by rw[F k 0 C];exact S,T,fun g V=>U g (G g k 0 C V)⟩
theorem Step.drew (S:SimH J β h w):Step J β h w J β h w.drew where
 ext:=⟨fun _ _ C=>C,fun _ _ _=>rfl,fun b x D=>⟨x,⟨D,rfl⟩,by cases F:x.dead<;>simp⟩,fun _ _ _ _=>Nat.le_refl _⟩
 sim:=by
  have E:Ext J β h w J β h w.drew:=⟨fun _ _ C=>C,fun _ _ _=>rfl,fun b x D=>⟨x,⟨D,rfl⟩,by cases F:x.dead<;>simp⟩,fun _ _ _ _=>Nat.le_refl _⟩
  refine⟨S.jlt,S.jft,fun b x D F G=>?_,fun b x D F G=>(S.mblk b x D F G).keep rfl (fun _ _ _=>rfl) (fun _ _ _ _ C=>C),S.sep⟩
  rcases S.blk b x D F G with I | ⟨k,o,cs,ty,fr,I,L,M,T,U,V⟩
  ·exact .inl I
  ·exact .inr ⟨k,o,cs,ty,fr,I,L,M,T,U.ext E,V⟩
 os:=rfl
 tape:=rfl
 output:=rfl
 size:=Nat.le_refl _
 frame _ _ _:=rfl
 wr _ G _:=G
 jup _ _ C:=.inl C
theorem Ej (w:World) (o:Obj) {k:Nat} (C:k<w.heap.size):(w.alloc o).heap[k]?=w.heap[k]?:=by
 show(w.heap.push o)[k]?=_
 rw[Array.getElem?_push,if_neg (by omega)]
theorem AD (S:SimH J β h w) {b:Nat} {x:Blk} {k o:Nat} (G:Au h b=some x) (I:x.dead=false) (D:β b=some (k,o)):k<w.heap.size:=by
 cases L:x.mp with
 | false =>
  rcases S.blk b x G I L with⟨hn,_⟩ | ⟨M,o',cs,ty,fr,C,F,_⟩
  ·rw[D] at hn;simp at hn
  ·rw[D] at C;simp at C;obtain⟨rfl,rfl⟩:=C;exact gi F
 | true =>
  obtain⟨_,_,M,es,clk,C,F,_⟩:=S.mblk b x G I L
  rw[D] at C;simp at C;obtain⟨rfl,_⟩:=C;exact gi F
theorem Step.new (S:SimH J β h w) {d:Nat} {x:Blk} {cs:Array Value} {ty:TypeId} {fr:Nat×Nat} (hn:Au h d=none) (hxd:x.dead=false) (hxs:x.sealed=false)
  (hfr:FrOk cs.size fr) (hlen:x.cells.length≤cs.size) (hc:CellsRep J β h w x (fun j=>cs[j]?)) (hxm:x.mp=false:=by rfl) :
  Step J β h w J (fun b=>if b=d then some (w.heap.size,0) else β b) (G9 h d x) (w.alloc (.cells cs ty fr)):=by
 have ne:∀ {b y},Au h b=some y→b≠d:=fun C e=>by subst e;rw[hn] at C;cases C
 have E:Ext J β h w J (fun b=>if b=d then some (w.heap.size,0) else β b) (G9 h d x) (w.alloc (.cells cs ty fr)):=by
  refine⟨fun _ _ F=>F,fun o k F=>Ej w _ (S.jlt o k F),fun b y C=>⟨y,⟨by rw[Ai,if_neg (ne C)];exact C,rfl⟩,?_⟩,fun b k o D=>?_⟩
  ·cases L:y.dead
   ·exact .inr ⟨rfl,by simp[ne C],rfl,fun _=>rfl⟩
   ·exact .inl rfl
  ·by_cases M:k<w.heap.size
   ·simp[Bw,Ej w _ M]
   ·simp[Bw,Array.getElem?_eq_none (Nat.le_of_not_lt M)]
 have T:(w.alloc (.cells cs ty fr)).heap[w.heap.size]?=some (.cells cs ty fr):=by
  show(w.heap.push _)[_]?=_;simp
 have hsz:(w.alloc (.cells cs ty fr)).heap.size=w.heap.size+1:=by show(w.heap.push _).size=_;simp
 refine⟨E,⟨fun o k F=>by have:=S.jlt o k F;omega,S.jft,fun b y C L V=>?_,fun b y C L V=>by
   rw[Ai] at C
   by_cases e:b=d
   ·rw[if_pos e] at C;simp at C;subst C;simp[hxm] at V
   ·rw[if_neg e] at C
    exact(S.mblk b y C L V).keep (by simp[e]) (fun k o D=>Ej w _ (AD S C L D)) (fun _ _ _ _ F=>F),?_⟩,rfl,rfl,rfl,by omega,fun k M _=>Ej w _ M,?_,fun _ _ F=>.inl F⟩
 ·rw[Ai] at C
  by_cases e:b=d
  ·subst e;simp at C;subst C
   exact .inr ⟨w.heap.size,0,cs,ty,fr,by simp,T,hfr,by omega,by simpa using hc.ext E,fun _ g F=>by have:=S.jlt g _ F;omega,fun hs=>by simp[hxs] at hs⟩
  ·rw[if_neg e] at C
   rcases S.blk b y C L V with Y | ⟨k,o,cs',ty',fr',Y,h2,h3,h4,h5,h6⟩
   ·exact .inl ⟨by simp[e,Y.1],Y.2⟩
   ·exact .inr ⟨k,o,cs',ty',fr',by simp[e,Y],by rw[Ej w _ (gi h2)];exact h2,h3,h4,h5.ext E,h6⟩
 ·intro b b' y y' k o o' C G L U hs D I
  rw[Ai] at C G
  by_cases e:b=d<;>by_cases e':b'=d
  ·rw[e,e']
  ·rw[if_neg e'] at G
   simp[e] at D;simp[e'] at I
   have:=AD S G U I;omega
  ·rw[if_neg e] at C
   simp[e'] at I;simp[e] at D
   have:=AD S C L D;omega
  ·rw[if_neg e] at C;rw[if_neg e'] at G
   simp[e] at D;simp[e'] at I
   exact S.sep b b' y y' k o o' C G L U hs D I
 ·rintro k ⟨b,y,o,C,L,hs,D⟩ M
  rw[Ai] at C
  by_cases e:b=d
  ·simp[e] at D;omega
  ·rw[if_neg e] at C;simp[e] at D
   exact⟨b,y,o,C,L,hs,D⟩
theorem Step.newNone (S:SimH J β h w) {d:Nat} {x:Blk} (hn:Au h d=none) (hc:x.cells=[]) (U:x.mp=false:=by rfl) :
  Step J β h w J (fun b=>if b=d then none else β b) (G9 h d x) w:=by
 have ne:∀ {b y},Au h b=some y→b≠d:=fun C e=>by subst e;rw[hn] at C;cases C
 have E:Ext J β h w J (fun b=>if b=d then none else β b) (G9 h d x) w:=by
  refine⟨fun _ _ L=>L,fun o k L=>rfl,fun b y C=>⟨y,⟨by rw[Ai,if_neg (ne C)];exact C,rfl⟩,?_⟩,fun b k o D=>Nat.le_refl _⟩
  cases F:y.dead
  ·exact .inr ⟨rfl,by simp[ne C],rfl,fun _=>rfl⟩
  ·exact .inl rfl
 refine⟨E,⟨S.jlt,S.jft,fun b y C F M=>?_,fun b y C F M=>by
   rw[Ai] at C
   by_cases e:b=d
   ·rw[if_pos e] at C;simp at C;subst C;simp[U] at M
   ·rw[if_neg e] at C
    exact(S.mblk b y C F M).keep (by simp[e]) (fun k o D=>rfl) (fun _ _ _ _ L=>L),?_⟩,rfl,rfl,rfl,Nat.le_refl _,fun k hk _=>rfl,?_,fun _ _ L=>.inl L⟩
 ·rw[Ai] at C
  by_cases e:b=d
  ·subst e;simp at C;subst C
   exact .inl ⟨by simp,hc⟩
  ·rw[if_neg e] at C
   rcases S.blk b y C F M with T | ⟨k,o,V,Y,fr',T,h2,h3,h4,h5,h6⟩
   ·exact .inl ⟨by simp[e,T.1],T.2⟩
   ·exact .inr ⟨k,o,V,Y,fr',by simp[e,T],h2,h3,h4,h5.ext E,h6⟩
 ·intro b b' y y' k o o' C G F hd' hs D I
  rw[Ai] at C G
  by_cases e:b=d
  ·simp[e] at D
  ·by_cases e':b'=d
   ·simp[e'] at I
   ·rw[if_neg e] at C;rw[if_neg e'] at G
    simp[e] at D;simp[e'] at I
    exact S.sep b b' y y' k o o' C G F hd' hs D I
 ·rintro k ⟨b,y,o,C,F,hs,D⟩ hk
  rw[Ai] at C
  by_cases e:b=d
  ·simp[e] at D
  ·rw[if_neg e] at C;simp[e] at D
   exact⟨b,y,o,C,F,hs,D⟩
theorem Step.newMap (S:SimH J β h w) {d:Nat} {x:Blk} (hn:Au h d=none) (hxd:x.dead=false) (hxs:x.sealed=false) (hxp:x.pure=true) (hxc:x.cells=[]) (hxm:x.mp=true) :
  Step J β h w J (fun b=>if b=d then some (w.heap.size,0) else β b) (G9 h d x) (w.alloc (.map #[] 0)):=by
 have ne:∀ {b y},Au h b=some y→b≠d:=fun C e=>by subst e;rw[hn] at C;cases C
 have E:Ext J β h w J (fun b=>if b=d then some (w.heap.size,0) else β b) (G9 h d x) (w.alloc (.map #[] 0)):=by
  refine⟨fun _ _ F=>F,fun o k F=>Ej w _ (S.jlt o k F),fun b y C=>⟨y,⟨by rw[Ai,if_neg (ne C)];exact C,rfl⟩,?_⟩,fun b k o D=>?_⟩
  ·cases L:y.dead
   ·exact .inr ⟨rfl,by simp[ne C],rfl,fun _=>rfl⟩
   ·exact .inl rfl
  ·by_cases M:k<w.heap.size
   ·simp[Bw,Ej w _ M]
   ·simp[Bw,Array.getElem?_eq_none (Nat.le_of_not_lt M)]
 have T:(w.alloc (.map #[] 0)).heap[w.heap.size]?=some (.map #[] 0):=by
  show(w.heap.push _)[_]?=_;simp
 have hsz:(w.alloc (.map #[] 0)).heap.size=w.heap.size+1:=by show(w.heap.push _).size=_;simp
 refine⟨E,⟨fun o k F=>by have:=S.jlt o k F;omega,S.jft,fun b y C L V=>?_,fun b y C L V=>?_,?_⟩,rfl,rfl,rfl,by omega,fun k M _=>Ej w _ M,?_,fun _ _ F=>.inl F⟩
 ·rw[Ai] at C
  by_cases e:b=d
  ·rw[if_pos e] at C;simp at C;subst C;simp[hxm] at V
  ·rw[if_neg e] at C
   rcases S.blk b y C L V with Y | ⟨k,o,cs',ty',fr',Y,h2,h3,h4,h5,h6⟩
   ·exact .inl ⟨by simp[e,Y.1],Y.2⟩
   ·exact .inr ⟨k,o,cs',ty',fr',by simp[e,Y],by rw[Ej w _ (gi h2)];exact h2,h3,h4,h5.ext E,h6⟩
 ·rw[Ai] at C
  by_cases e:b=d
  ·rw[if_pos e] at C;simp at C;subst C
   exact⟨hxp,hxs,w.heap.size,#[],0,by simp[e],T,⟨[],by simp[hxc],by simp⟩,fun g F=>by have:=S.jlt g _ F;omega⟩
  ·rw[if_neg e] at C
   exact(S.mblk b y C L V).keep (by simp[e]) (fun k o D=>Ej w _ (AD S C L D)) (fun _ _ _ _ F=>F)
 ·intro b b' y y' k o o' C G L U hs D I
  rw[Ai] at C G
  by_cases e:b=d<;>by_cases e':b'=d
  ·rw[e,e']
  ·rw[if_neg e'] at G
   simp[e] at D;simp[e'] at I
   have:=AD S G U I;omega
  ·rw[if_neg e] at C
   simp[e'] at I;simp[e] at D
   have:=AD S C L D;omega
  ·rw[if_neg e] at C;rw[if_neg e'] at G
   simp[e] at D;simp[e'] at I
   exact S.sep b b' y y' k o o' C G L U hs D I
 ·rintro k ⟨b,y,o,C,L,hs,D⟩ M
  rw[Ai] at C
  by_cases e:b=d
  ·simp[e] at D;omega
  ·rw[if_neg e] at C;simp[e] at D
   exact⟨b,y,o,C,L,hs,D⟩
theorem Step.kill (S:SimH J β h w) {d:Nat} {x y:Blk} (hx:Au h d=some x) (G:y.dead=true) (T:y.mp=x.mp:=by rfl):Step J β h w J β (G9 h d y) w:=by
 have E:Ext J β h w J β (G9 h d y) w:=by
  refine⟨fun _ _ I=>I,fun o k I=>rfl,fun b z C=>?_,fun b k o L=>Nat.le_refl _⟩
  by_cases e:b=d
  ·subst e;rw[hx] at C;simp at C;subst C;exact⟨y,⟨by rw[Ai,if_pos rfl],T⟩,.inl G⟩
  ·refine⟨z,⟨by rw[Ai,if_neg e];exact C,rfl⟩,?_⟩
   cases F:z.dead
   ·exact .inr ⟨rfl,rfl,rfl,fun _=>rfl⟩
   ·exact .inl rfl
 refine⟨E,⟨S.jlt,S.jft,fun b z C F U=>?_,fun b z C F U=>by
   rw[Ai] at C
   by_cases e:b=d
   ·rw[if_pos e] at C;simp at C;subst C;simp[G] at F
   ·rw[if_neg e] at C
    exact(S.mblk b z C F U).keep rfl (fun k o L=>rfl) (fun _ _ _ _ I=>I),?_⟩,rfl,rfl,rfl,Nat.le_refl _,fun k hk _=>rfl,?_,fun _ _ I=>.inl I⟩
 ·rw[Ai] at C
  by_cases e:b=d
  ·rw[if_pos e] at C;simp at C;subst C;simp[G] at F
  ·rw[if_neg e] at C
   rcases S.blk b z C F U with V | ⟨k,o,Y,ty',fr',V,h2,h3,h4,h5,h6⟩
   ·exact .inl V
   ·exact .inr ⟨k,o,Y,ty',fr',V,h2,h3,h4,h5.ext E,h6⟩
 ·intro b b' z z' k o o' C D F M hs L hβ'
  rw[Ai] at C D
  by_cases e:b=d
  ·rw[if_pos e] at C;simp at C;subst C;simp[G] at F
  ·by_cases e':b'=d
   ·rw[if_pos e'] at D;simp at D;subst D;simp[G] at M
   ·rw[if_neg e] at C;rw[if_neg e'] at D
    exact S.sep b b' z z' k o o' C D F M hs L hβ'
 ·rintro k ⟨b,z,o,C,F,hs,L⟩ hk
  rw[Ai] at C
  by_cases e:b=d
  ·rw[if_pos e] at C;simp at C;subst C;simp[G] at F
  ·rw[if_neg e] at C
   exact⟨b,z,o,C,F,hs,L⟩
end
end Gx

namespace Gx
open Go
section
variable {J J' J'':Bool→Nat→Prop} {β β' β'':C8} {h h' h'':Am} {w w' w'':World}
theorem Step.shutB (S:SimH J β h w) {d:Nat} {x:Blk} (Y:Au h d=some x) (L:x.dead=false) (hxm:x.mp=false) :
  Step J β h w (fun o k=>J o k∨∃ o',β d=some (k,o')∧(x.taint=true→o=true)) β (G9 h d { x with sealed:=true }) w:=by
 have E:Ext J β h w (fun o k=>J o k∨∃ o',β d=some (k,o')∧(x.taint=true→o=true)) β (G9 h d { x with sealed:=true }) w:=by
  refine⟨fun _ _ F=>.inl F,fun o k F=>rfl,fun b z C=>?_,fun b k o D=>Nat.le_refl _⟩
  by_cases e:b=d
  ·subst e;rw[Y] at C;simp at C;subst C
   exact⟨{ x with sealed:=true },⟨by rw[Ai,if_pos rfl],rfl⟩,.inr ⟨L,rfl,rfl,fun _=>rfl⟩⟩
  ·refine⟨z,⟨by rw[Ai,if_neg e];exact C,rfl⟩,?_⟩
   cases L:z.dead
   ·exact .inr ⟨rfl,rfl,rfl,fun _=>rfl⟩
   ·exact .inl rfl
 refine⟨E,⟨?_,?_,fun b z C I hm=>?_,fun b z C I hm=>by
   rw[Ai] at C
   by_cases e:b=d
   ·rw[if_pos e] at C;simp at C;subst C;simp[hxm] at hm
   ·rw[if_neg e] at C
    have M:=S.mblk b z C I hm
    refine M.keep rfl (fun k o D=>rfl) (fun g k o D F=>?_)
    rcases F with F | ⟨o',hβ',_⟩
    ·exact F
    ·exact absurd (S.sep b d z x k o o' C Y I L M.2.1 D hβ') e,?_⟩,rfl,rfl,rfl,Nat.le_refl _,fun k hk _=>rfl,?_,?_⟩
 ·rintro o k (F | ⟨o',D,_⟩)
  ·exact S.jlt o k F
  ·exact AD S Y L D
 ·rintro k (F | ⟨o',D,ht⟩)
  ·exact .inl (S.jft k F)
  ·exact .inr ⟨o',D,fun _=>rfl⟩
 ·rw[Ai] at C
  by_cases e:b=d
  ·rw[if_pos e] at C;simp at C;subst C;subst e
   rcases S.blk b x Y L hxm with G | ⟨k,o,T,U,V,G,h2,h3,h4,h5,h6,h7⟩
   ·exact .inl G
   ·exact .inr ⟨k,o,T,U,V,G,h2,h3,h4,h5.ext E,fun hs=>by simp at hs,fun _=>.inr ⟨o,G,id⟩⟩
  ·rw[if_neg e] at C
   rcases S.blk b z C I hm with G | ⟨k,o,T,U,V,G,h2,h3,h4,h5,h6,h7⟩
   ·exact .inl G
   ·refine .inr ⟨k,o,T,U,V,G,h2,h3,h4,h5.ext E,fun hs g F=>?_,fun hs=>.inl (h7 hs)⟩
    rcases F with F | ⟨o',D,_⟩
    ·exact h6 hs g F
    ·exact e (S.sep b d z x k o o' C Y I L hs G D)
 ·intro b b' z z' k o o' C hb' hd1 hd2 hs D hβ'
  have get:∀ {c y},Au (G9 h d { x with sealed:=true }) c=some y→y.dead=false→∃ y',Au h c=some y'∧y'.dead=false∧(y.sealed=false→y'.sealed=false):=by
   intro c y hc hyd
   rw[Ai] at hc
   by_cases e:c=d
   ·subst e;exact⟨x,Y,L,fun hs=>by simp at hc;subst hc;simp at hs⟩
   ·rw[if_neg e] at hc;exact⟨y,hc,hyd,id⟩
  obtain⟨y1,g1,g2,g3⟩:=get C hd1
  obtain⟨y2,g4,g5,g6⟩:=get hb' hd2
  exact S.sep b b' y1 y2 k o o' g1 g4 g2 g5 (g3 hs) D hβ'
 ·rintro k ⟨b,z,o,C,I,hs,D⟩ hk
  rw[Ai] at C
  by_cases e:b=d
  ·rw[if_pos e] at C;simp at C;subst C;simp at hs
  ·rw[if_neg e] at C
   exact⟨b,z,o,C,I,hs,D⟩
 ·rintro o k (F | ⟨o',D,ht⟩)
  ·exact .inl F
  ·cases hs:x.sealed with
   | false=>exact .inr (.inl ⟨d,x,o',Y,L,hs,D⟩)
   | true =>
    left
    rcases S.blk d x Y L hxm with⟨G,_⟩ | ⟨k',o1,T,U,V,G,h2,h3,h4,h5,h6,h7⟩
    ·rw[D] at G;simp at G
    ·rw[D] at G;simp at G;obtain⟨rfl,rfl⟩:=G
     have:=h7 hs
     cases htt:x.taint with
     | true=>rw[htt] at this;rw[ht htt];exact this
     | false =>
      rw[htt] at this
      cases o
      ·exact this
      ·exact S.jft _ this
structure OnlyBlk (w w':World) (k:Nat) (cs cs':Array Value) (ty:TypeId) (fr:Nat×Nat):Prop where
 old:w.heap[k]?=some (.cells cs ty fr)
 new:w'.heap[k]?=some (.cells cs' ty fr)
 sz:cs'.size=cs.size
 other:∀ j,j≠k→w'.heap[j]?=w.heap[j]?
 size:w'.heap.size=w.heap.size
 os:w'.os=w.os
 tape:w'.tape=w.tape
 output:w'.output=w.output
theorem OnlyBlk.setCell {k i:Nat} {cs:Array Value} {ty:TypeId} {fr:Nat×Nat} (C:w.heap[k]?=some (.cells cs ty fr)) (u:Value) :
  OnlyBlk w (w.setCell ⟨k,i,none⟩ u) k cs (cs.setIfInBounds i u) ty fr:=by
 refine⟨C,?_,by simp,fun j D=>?_,by simp[World.setCell],rfl,rfl,rfl⟩
 ·simp[World.setCell,Array.getElem?_modify,C]
 ·simp only[World.setCell,Array.getElem?_modify];rw[if_neg (fun e=>D e.symm)]
theorem OnlyBlk.setCells {k:Nat} {ty:TypeId} {fr:Nat×Nat}:∀ (us:List Value) (i:Nat) (w:World) (cs:Array Value),w.heap[k]?=some (.cells cs ty fr) →
  ∃ C,OnlyBlk w (w.setCells k i us) k cs C ty fr∧∀ j,C[j]?=if i≤j∧j<i+us.length∧j<cs.size then us[j - i]? else cs[j]?
 | [],i,w,cs,D=>⟨cs,⟨D,D,rfl,fun _ _=>rfl,rfl,rfl,rfl,rfl⟩,fun j=>by rw[if_neg (by simp;omega)]⟩
 | u::us,i,w,cs,D=>by
  have A:=OnlyBlk.setCell (i:=i) D u
  obtain⟨C,B,hB⟩:=OnlyBlk.setCells us (i+1) (w.setCell ⟨k,i,none⟩ u) _ A.new
  refine⟨C,⟨D,B.new,B.sz.trans A.sz,fun j F=>(B.other j F).trans (A.other j F),B.size.trans A.size,B.os.trans A.os,B.tape.trans A.tape,B.output.trans A.output⟩,fun j=>?_⟩
  rw[hB j]
  simp only[Array.size_setIfInBounds,List.length_cons]
  by_cases F:j=i
  ·subst F
   rw[if_neg (by omega)]
   by_cases hs:j<cs.size
   ·rw[if_pos (by omega)];simp[hs]
   ·rw[if_neg (by omega)];simp[hs]
  ·by_cases G:i+1≤j∧j<i+1+us.length∧j<cs.size
   ·rw[if_pos G,if_pos (by omega),show j - i=(j - (i+1))+1 by omega];simp
   ·rw[if_neg G,if_neg (by omega),Array.getElem?_setIfInBounds_ne (by omega)]
theorem Step.set (S:SimH J β h w) {d k o:Nat} {x x':Blk} {cs L:Array Value} {ty:TypeId} {fr:Nat×Nat} (M:Au h d=some x) (G:x.dead=false) (hs:x.sealed=false) (Y:β d=some (k,o))
  (O:OnlyBlk w w' k cs L ty fr) (hd':x'.dead=false) (hs':x'.sealed=false) (hz:x'.sz=x.sz) (hl:x'.cells.length=x.cells.length) (hc:CellsRep J β h w x' (fun j=>L[o+j]?)) (hxm:x.mp=false) (I:x'.mp=x.mp:=by rfl) :
  Step J β h w J β (G9 h d x') w':=by
 obtain⟨k',o',cs0,ty0,fr0,T,h2,h3,h4,h5,h6,h7⟩:∃ k' o' cs0 ty0 fr0,β d=some (k',o')∧w.heap[k']?=some (.cells cs0 ty0 fr0) ∧
   FrOk cs0.size fr0∧o'+x.cells.length≤cs0.size∧CellsRep J β h w x (fun j=>cs0[o'+j]?)∧(x.sealed=false→∀ g,¬ J g k')∧(x.sealed=true→J x.taint k'):=by
  rcases S.blk d x M G hxm with⟨h1,_⟩ | h1
  ·rw[Y] at h1;simp at h1
  ·exact h1
 rw[Y] at T;simp at T;obtain⟨rfl,rfl⟩:=T
 rw[O.old] at h2;simp at h2;obtain⟨rfl,rfl,rfl⟩:=h2
 have nj:∀ g j,J g j→j≠k:=fun g j F e=>by subst e;exact h6 hs g F
 have E:Ext J β h w J β (G9 h d x') w':=by
  refine⟨fun _ _ F=>F,fun o j F=>O.other j (nj o j F),fun b z C=>?_,fun b j oo C=>?_⟩
  ·by_cases e:b=d
   ·subst e;rw[M] at C;simp at C;subst C
    exact⟨_,⟨by rw[Ai,if_pos rfl],I⟩,.inr ⟨G,rfl,hz,fun _=>hl⟩⟩
   ·refine⟨z,⟨by rw[Ai,if_neg e];exact C,rfl⟩,?_⟩
    cases G:z.dead
    ·exact .inr ⟨rfl,rfl,rfl,fun _=>rfl⟩
    ·exact .inl rfl
  ·by_cases e:j=k
   ·subst e;rw[H0 O.old,H0 O.new,O.sz];exact Nat.le_refl _
   ·simp[Bw,O.other j e]
 refine⟨E,⟨fun g j F=>by rw[O.size];exact S.jlt g j F,S.jft,fun b z C D hm=>?_,fun b z C D hm=>by
   rw[Ai] at C
   by_cases e:b=d
   ·rw[if_pos e] at C;simp at C;subst C;simp[I,hxm] at hm
   ·rw[if_neg e] at C
    exact(S.mblk b z C D hm).keep rfl (fun U o2 V=>O.other U (fun e2=>by subst e2;exact e (S.sep d b x z U o o2 M C G D hs Y V).symm)) (fun _ _ _ _ F=>F),?_⟩,O.os,O.tape,O.output,by rw[O.size];exact Nat.le_refl _,fun j F hm=>?_,?_,fun _ _ F=>.inl F⟩
 ·rw[Ai] at C
  by_cases e:b=d
  ·rw[if_pos e] at C;simp at C;subst C;subst e
   refine .inr ⟨k,o,L,ty,fr,Y,O.new,?_,by rw[hl,O.sz];exact h4,hc.ext E,fun _=>h6 hs,fun hh=>by simp[hs'] at hh⟩
   rw[O.sz];exact h3
  ·rw[if_neg e] at C
   rcases S.blk b z C D hm with g1 | ⟨U,o2,cs2,ty2,fr2,g1,g2,g3,g4,g5,g6,g7⟩
   ·exact .inl g1
   ·have hne:U≠k:=fun e2=>by
     subst e2;exact e (S.sep d b x z U o o2 M C G D hs Y g1).symm
    exact .inr ⟨U,o2,cs2,ty2,fr2,g1,by rw[O.other U hne];exact g2,g3,g4,g5.ext E,g6,g7⟩
 ·intro b b' z z' kk oo oo' C hb' hd1 hd2 hs1 hβ1 V
  have get:∀ {c y},Au (G9 h d x') c=some y→y.dead=false→∃ y',Au h c=some y'∧y'.dead=false∧(y.sealed=false→y'.sealed=false):=by
   intro c y hc hyd
   rw[Ai] at hc
   by_cases e:c=d
   ·subst e;exact⟨x,M,G,fun _=>hs⟩
   ·rw[if_neg e] at hc;exact⟨y,hc,hyd,id⟩
  obtain⟨y1,g1,g2,g3⟩:=get C hd1
  obtain⟨y2,g4,g5,g6⟩:=get hb' hd2
  exact S.sep b b' y1 y2 kk oo oo' g1 g4 g2 g5 (g3 hs1) hβ1 V
 ·exact O.other j (fun e=>hm (by subst e;exact⟨d,x,o,M,G,hs,Y⟩))
 ·rintro j ⟨b,z,oo,C,D,hsz,hβz⟩ F
  rw[Ai] at C
  by_cases e:b=d
  ·subst e;exact⟨b,x,oo,M,G,hs,hβz⟩
  ·rw[if_neg e] at C
   exact⟨b,z,oo,C,D,hsz,hβz⟩
theorem Step.setMap (S:SimH J β h w) {d k:Nat} {x x':Blk} {es L:Array MapEntry} {clk clk':Nat} (V:Au h d=some x) (T:x.dead=false) (hm:x.mp=true) (hβ:β d=some (k,0))
  (old:w.heap[k]?=some (.map es clk)) (new:w'.heap[k]?=some (.map L clk')) (other:∀ j,j≠k→w'.heap[j]?=w.heap[j]?) (size:w'.heap.size=w.heap.size) (os:w'.os=w.os) (tape:w'.tape=w.tape) (output:w'.output=w.output)
  (hc:Bcg x'.cells L) (hx'd:x'.dead=false) (hx's:x'.sealed=false) (hx'p:x'.pure=true) (hx'z:x'.sz=x.sz) (I:x'.mp=true):Step J β h w J β (G9 h d x') w':=by
 have M:=S.mblk d x V T hm
 have nJ:∀ g,¬ J g k:=by
  obtain⟨_,_,k',_,_,h1,_,_,h2⟩:=M
  rw[hβ] at h1;simp at h1;subst h1;exact h2
 have nj:∀ g j,J g j→j≠k:=fun g j D e=>by subst e;exact nJ g D
 have E:Ext J β h w J β (G9 h d x') w':=by
  refine⟨fun _ _ D=>D,fun o j D=>other j (nj o j D),fun b z C=>?_,fun b j oo C=>?_⟩
  ·by_cases e:b=d
   ·subst e;rw[V] at C;simp at C;subst C
    exact⟨_,⟨by rw[Ai,if_pos rfl],by rw[I,hm]⟩,.inr ⟨T,rfl,hx'z,fun h=>by simp[hm] at h⟩⟩
   ·refine⟨z,⟨by rw[Ai,if_neg e];exact C,rfl⟩,?_⟩
    cases T:z.dead
    ·exact .inr ⟨rfl,rfl,rfl,fun _=>rfl⟩
    ·exact .inl rfl
  ·by_cases e:j=k
   ·subst e;simp[Bw,old,new]
   ·simp[Bw,other j e]
 refine⟨E,⟨fun g j D=>by rw[size];exact S.jlt g j D,S.jft,fun b z C F G=>?_,fun b z C F G=>?_,?_⟩,os,tape,output,by rw[size];exact Nat.le_refl _,fun j D hm=>?_,?_,fun _ _ D=>.inl D⟩
 ·rw[Ai] at C
  by_cases e:b=d
  ·rw[if_pos e] at C;simp at C;subst C;simp[I] at G
  ·rw[if_neg e] at C
   rcases S.blk b z C F G with g1 | ⟨Y,o2,cs2,ty2,fr2,g1,g2,g3,g4,g5,g6,g7⟩
   ·exact .inl g1
   ·have hne:Y≠k:=fun e2=>by
     subst e2;rw[old] at g2;cases g2
    exact .inr ⟨Y,o2,cs2,ty2,fr2,g1,by rw[other Y hne];exact g2,g3,g4,g5.ext E,g6,g7⟩
 ·rw[Ai] at C
  by_cases e:b=d
  ·rw[if_pos e] at C;simp at C;subst C;subst e
   exact⟨hx'p,hx's,k,L,clk',hβ,new,hc,nJ⟩
  ·rw[if_neg e] at C
   exact(S.mblk b z C F G).keep rfl (fun Y o2 U=>other Y (fun e2=>by subst e2;exact e (S.sep d b x z Y 0 o2 V C T F M.2.1 hβ U).symm)) (fun _ _ _ _ D=>D)
 ·intro b b' z z' kk oo oo' C hb' hd1 hd2 hs1 hβ1 U
  have get:∀ {c y},Au (G9 h d x') c=some y→y.dead=false→∃ y',Au h c=some y'∧y'.dead=false∧(y.sealed=false→y'.sealed=false):=by
   intro c y hc hyd
   rw[Ai] at hc
   by_cases e:c=d
   ·subst e;exact⟨x,V,T,fun _=>M.2.1⟩
   ·rw[if_neg e] at hc;exact⟨y,hc,hyd,id⟩
  obtain⟨y1,g1,g2,g3⟩:=get C hd1
  obtain⟨y2,g4,g5,g6⟩:=get hb' hd2
  exact S.sep b b' y1 y2 kk oo oo' g1 g4 g2 g5 (g3 hs1) hβ1 U
 ·exact other j (fun e=>hm (by subst e;exact⟨d,x,0,V,T,M.2.1,hβ⟩))
 ·rintro j ⟨b,z,oo,C,F,hsz,hβz⟩ D
  rw[Ai] at C
  by_cases e:b=d
  ·subst e;exact⟨b,x,oo,V,T,M.2.1,hβz⟩
  ·rw[if_neg e] at C
   exact⟨b,z,oo,C,F,hsz,hβz⟩
theorem Step.mark (S:SimH J β h w) {d k o:Nat} {x:Blk} {cs:Array Value} {ty:TypeId} {fr I:Nat×Nat} (U:Au h d=some x) (V:x.dead=false) (hs:x.sealed=false) (Y:β d=some (k,o))
  (old:w.heap[k]?=some (.cells cs ty fr)) (new:w'.heap[k]?=some (.cells cs ty I)) (hf:FrOk cs.size I) (other:∀ j,j≠k→w'.heap[j]?=w.heap[j]?) (size:w'.heap.size=w.heap.size) (os:w'.os=w.os) (tape:w'.tape=w.tape) (output:w'.output=w.output) (T:x.mp=false) :
  Step J β h w J β h w':=by
 have nj:∀ g j,J g j→j≠k:=fun g j C e=>by
  subst e
  rcases S.blk d x U V T with⟨h1,_⟩ | ⟨k',o',cs0,ty0,fr0,L,h2,h3,h4,h5,h6,h7⟩
  ·rw[Y] at h1;simp at h1
  ·rw[Y] at L;simp at L;obtain⟨rfl,rfl⟩:=L
   exact h6 hs g C
 have E:Ext J β h w J β h w':=by
  refine⟨fun _ _ C=>C,fun o j C=>other j (nj o j C),fun b z D=>⟨z,⟨D,rfl⟩,?_⟩,fun b j oo D=>?_⟩
  ·cases V:z.dead
   ·exact .inr ⟨rfl,rfl,rfl,fun _=>rfl⟩
   ·exact .inl rfl
  ·by_cases e:j=k
   ·subst e;rw[H0 old,H0 new];exact Nat.le_refl _
   ·simp[Bw,other j e]
 refine⟨E,⟨fun g j C=>by rw[size];exact S.jlt g j C,S.jft,fun b z D F G=>?_,fun b z D F G=>by
   refine(S.mblk b z D F G).keep rfl (fun M o2 hβ2=>other M (fun e2=>?_)) (fun _ _ _ _ C=>C)
   subst e2
   have:=(S.sep d b x z M o o2 U D V F hs Y hβ2)
   subst this
   rw[U] at D;simp at D;subst D;simp[T] at G,S.sep⟩,os,tape,output,by rw[size];exact Nat.le_refl _,fun j C G=>?_,fun _ G _=>G,fun _ _ C=>.inl C⟩
 ·rcases S.blk b z D F G with g1 | ⟨M,o2,cs2,ty2,fr2,g1,g2,g3,g4,g5,g6,g7⟩
  ·exact .inl g1
  ·by_cases e:M=k
   ·subst e
    rw[old] at g2;simp at g2;obtain⟨rfl,rfl,rfl⟩:=g2
    exact .inr ⟨M,o2,cs,ty,I,g1,new,hf,g4,g5.ext E,g6,g7⟩
   ·exact .inr ⟨M,o2,cs2,ty2,fr2,g1,by rw[other M e];exact g2,g3,g4,g5.ext E,g6,g7⟩
 ·exact other j (fun e=>G (by subst e;exact⟨d,x,o,U,V,hs,Y⟩))
theorem Step.move (S:SimH J β h w) {d d' k o o':Nat} {x x' y:Blk} {cs cs':Array Value} {ty:TypeId} {fr:Nat×Nat} (L:Au h d=some x) (U:x.dead=false) (hs:x.sealed=false) (V:β d=some (k,o))
  (hn:Au h d'=none) (hy:y.dead=true)
  (O:OnlyBlk w w' k cs cs' ty fr) (hd':x'.dead=false) (hs':x'.sealed=false) (hl:o'+x'.cells.length≤cs.size) (hc:CellsRep J β h w x' (fun j=>cs'[o'+j]?)) (hxm:x.mp=false) (hym:y.mp=x.mp:=by rfl) (hxm':x'.mp=false:=by rfl) :
  Step J β h w J (fun b=>if b=d' then some (k,o') else β b) (G9 (G9 h d y) d' x') w':=by
 obtain⟨k',o1,cs0,ty0,fr0,hβ',h2,h3,h4,h5,h6,h7⟩:∃ k' o' cs0 ty0 fr0,β d=some (k',o')∧w.heap[k']?=some (.cells cs0 ty0 fr0) ∧
   FrOk cs0.size fr0∧o'+x.cells.length≤cs0.size∧CellsRep J β h w x (fun j=>cs0[o'+j]?)∧(x.sealed=false→∀ g,¬ J g k')∧(x.sealed=true→J x.taint k'):=by
  rcases S.blk d x L U hxm with⟨h1,_⟩ | h1
  ·rw[V] at h1;simp at h1
  ·exact h1
 rw[V] at hβ';simp at hβ';obtain⟨rfl,rfl⟩:=hβ'
 rw[O.old] at h2;simp at h2;obtain⟨rfl,rfl,rfl⟩:=h2
 have nj:∀ g j,J g j→j≠k:=fun g j G e=>by subst e;exact h6 hs g G
 have ndd:d≠d':=fun e=>by subst e;rw[hn] at L;cases L
 have ne:∀ {b z},Au h b=some z→b≠d':=fun C e=>by subst e;rw[hn] at C;cases C
 have get:∀ b,Au (G9 (G9 h d y) d' x') b=if b=d' then some x' else if b=d then some y else Au h b:=fun b=>by rw[Ai,Ai]
 have E:Ext J β h w J (fun b=>if b=d' then some (k,o') else β b) (G9 (G9 h d y) d' x') w':=by
  refine⟨fun _ _ G=>G,fun o j G=>O.other j (nj o j G),fun b z C=>?_,fun b j oo C=>?_⟩
  ·by_cases e:b=d
   ·have hb0:=C;subst e;rw[L] at C;simp at C;subst C;exact⟨y,⟨by rw[get,if_neg (ne hb0),if_pos rfl],hym⟩,.inl hy⟩
   ·refine⟨z,⟨by rw[get,if_neg (ne C),if_neg e];exact C,rfl⟩,?_⟩
    cases U:z.dead
    ·exact .inr ⟨rfl,by simp[ne C],rfl,fun _=>rfl⟩
    ·exact .inl rfl
  ·by_cases e:j=k
   ·subst e;rw[H0 O.old,H0 O.new,O.sz];exact Nat.le_refl _
   ·simp[Bw,O.other j e]
 have live:∀ {b z},Au (G9 (G9 h d y) d' x') b=some z→z.dead=false→(b=d'∧z=x')∨(b≠d'∧b≠d∧Au h b=some z):=by
  intro b z C hz
  rw[get] at C
  by_cases e:b=d'
  ·rw[if_pos e] at C;simp at C;exact .inl ⟨e,C.symm⟩
  ·rw[if_neg e] at C
   by_cases M:b=d
   ·rw[if_pos M] at C;simp at C;subst C;simp[hy] at hz
   ·rw[if_neg M] at C;exact .inr ⟨e,M,C⟩
 refine⟨E,⟨fun g j G=>by rw[O.size];exact S.jlt g j G,S.jft,fun b z C D hm=>?_,fun b z C D hm=>by
   rcases live C D with⟨rfl,rfl⟩ | ⟨e1,M,C⟩
   ·simp[hxm'] at hm
   ·exact(S.mblk b z C D hm).keep (by simp[e1]) (fun k2 o2 F=>O.other k2 (fun e=>by subst e;exact M (S.sep d b x z k2 o o2 L C U D hs V F).symm)) (fun _ _ _ _ G=>G),?_⟩,O.os,O.tape,O.output,by rw[O.size];exact Nat.le_refl _,fun j G hm=>?_,?_,fun _ _ G=>.inl G⟩
 ·rcases live C D with⟨rfl,rfl⟩ | ⟨e1,M,C⟩
  ·refine .inr ⟨k,o',cs',ty,fr,by simp,O.new,?_,by rw[O.sz];exact hl,hc.ext E,fun _=>h6 hs,fun hh=>by simp[hs'] at hh⟩
   rw[O.sz];exact h3
  ·rcases S.blk b z C D hm with g1 | ⟨k2,o2,cs2,ty2,fr2,g1,g2,g3,g4,g5,g6,g7⟩
   ·exact .inl ⟨by simp[e1,g1.1],g1.2⟩
   ·have hne:k2≠k:=fun e=>by
     subst e;exact M (S.sep d b x z k2 o o2 L C U D hs V g1).symm
    exact .inr ⟨k2,o2,cs2,ty2,fr2,by simp[e1,g1],by rw[O.other k2 hne];exact g2,g3,g4,g5.ext E,g6,g7⟩
 ·intro b b' z z' kk oo oo' C hb' hd1 hd2 hs1 I F
  rcases live C hd1 with⟨e0,_⟩ | ⟨e1,M,hbb⟩<;>rcases live hb' hd2 with⟨e0',_⟩ | ⟨e3,e4,Y⟩
  ·rw[e0,e0']
  ·simp[e0] at I;simp[e3] at F
   obtain⟨rfl,rfl⟩:=I
   exact absurd (S.sep d b' x z' k o oo' L Y U hd2 hs V F).symm e4
  ·simp[e0'] at F;simp[e1] at I
   obtain⟨rfl,rfl⟩:=F
   exact absurd (S.sep d b x z k o oo L hbb U hd1 hs V I).symm M
  ·simp[e1] at I;simp[e3] at F
   exact S.sep b b' z z' kk oo oo' hbb Y hd1 hd2 hs1 I F
 ·exact O.other j (fun e=>hm (by subst e;exact⟨d,x,o,L,U,hs,V⟩))
 ·rintro j ⟨b,z,oo,C,D,hsz,T⟩ G
  rcases live C D with⟨rfl,rfl⟩ | ⟨e1,M,C⟩
  ·simp at T;obtain⟨rfl,rfl⟩:=T
   exact⟨d,x,o,L,U,hs,V⟩
  ·simp[e1] at T;exact⟨b,z,oo,C,D,hsz,T⟩
end
end Gx

namespace Gx
open Go
theorem C1:∀ (a b:Ip) (h:Am),At (a++b) h=At b (At a h)
 | [],_,_=>rfl
 | (_,some _)::r,b,h=>by simp only[List.cons_append,At];exact C1 r b _
 | (_,none)::r,b,h=>by simp only[List.cons_append,At];exact C1 r b _
def LooksS (g:Cb) (h:Am):Prop:=∀ b x,g b=some x→∃ y,Au h b=some y∧{ y with sealed:=true }={ x with sealed:=true }
theorem Looks.s {g:Cb} {h:Am} (k:Looks g h):LooksS g h:=fun b x C=>⟨x,k b x C,rfl⟩
section
variable {R:Type} {r:R} {P:Program} {J J':Bool→Nat→Prop} {β:C8} {h:Am} {w:World} {g:Cb}
theorem LooksS.shutB (C:LooksS g h) {b:Nat} {x:Blk} (D:g b=some x):LooksS g (G9 h b { x with sealed:=true }):=by
 intro c y k
 rw[Ai]
 by_cases e:c=b
 ·subst e;rw[D] at k;simp at k;subst k
  exact⟨{ x with sealed:=true },by simp,rfl⟩
 ·rw[if_neg e];exact C c y k
theorem A5c (S:SimH J β h w) {b off n:Nat} {y:Blk} {v:Value} (V:Au h b=some y) (Y:y.dead=false) (hp:y.pure=true) (hr:Rep J β h w (.own b off n) v)
  (hJ:∀ k o,β b=some (k,o)→J' y.taint k) (G:∀ o k,J o k→J' o k) (t o:Bool):RepC (J' y.taint) w (.imm ((y.cells.drop off).take (n*y.sz)) n y.sz t o) v↔(t=true→∃ A cap,v=.slice A n cap∧cap=n):=by
 rw[Rep] at hr
 obtain⟨x,A,cap,⟨D,L⟩,rfl,C,hr⟩:=hr
 rw[V] at D;simp at D;subst D
 rw[RepC]
 constructor
 ·rintro⟨_,A',cap',M,_,T,_⟩ U
  exact⟨A',cap',M,T U⟩
 ·intro T
  have I:t=true→cap=n:=fun U=>by
   obtain⟨A',cap',M,hc⟩:=T U
   simp at M;omega
  rcases hr with hr | ⟨kk,oo,rfl,hr⟩
  ·have:n=0:=by omega
   subst this
   exact⟨by simp,A,cap,rfl,C,I,.inl rfl⟩
  ·rcases hr with hr | ⟨r1,r2,r3⟩
   ·simp[Y] at hr
   ·rcases S.blk b y V Y L with⟨hn,_⟩ | ⟨k',o',cs,ty,fr,F,g1,g2,g3,g4,g5,g6⟩
    ·rw[r1] at hn;simp at hn
    ·rw[r1] at F;simp at F;obtain⟨rfl,rfl⟩:=F
     refine⟨by simp;omega,_,cap,rfl,C,I,.inr ⟨_,rfl,hJ _ _ r1,?_⟩⟩
     have:=((g4.1 hp).drop off).take (n*y.sz)
     refine RepCs.keep (fun k hk=>G _ k hk) (fun _ _=>rfl) (fun j=>?_) this
     rw[Addr.add_mid,Yz g1,Nat.add_assoc]
theorem Bad {b off n:Nat} {y:Blk} {v:Value} (D:Au h b=some y) (hr:Rep J β h w (.own b off n) v):y.mp=false:=by
 rw[Rep] at hr
 obtain⟨x,A,cap,⟨k,C⟩,_⟩:=hr
 rw[D] at k;simp at k;subst k;exact C
theorem Bci {b off:Nat} {y:Blk} {v:Value} (F:Au h b=some y) (hr:Rep J β h w (.optr b off) v):y.mp=false:=by
 rw[Rep] at hr
 obtain⟨x,k,o,⟨C,D⟩,_⟩:=hr
 rw[F] at C;simp at C;subst C;exact D
theorem cE {v v':AV} {ups:Ip} {org:Bool} {vc:Value} (S:SimH J β h w) (L:LooksS g h) (F:jI g v=some (v',ups,org)) (G:Rep J β h w v vc) :
    ∃ J',Step J β h w J' β (At ups h) w∧RepC (J' org) w v' vc∧LooksS g (At ups h):=by
  unfold jI at F
  split at F
  · rename_i b off n
    obtain⟨x,D,V⟩:=ub F
    obtain⟨Y,T⟩:=uc V
    simp at T
    obtain⟨rfl,rfl,rfl⟩:=T
    unfold Lf at D
    obtain⟨x0,I,D⟩:=ub D
    obtain⟨U,D⟩:=A5b D
    simp at D;subst D
    obtain⟨y,M,C⟩:=L b _ I
    have e1:y.cells=x0.cells:=by have:=congrArg Blk.cells C;simpa using this
    have e2:y.sz=x0.sz:=by have:=congrArg Blk.sz C;simpa using this
    have e3:y.taint=x0.taint:=by have:=congrArg Blk.taint C;simpa using this
    have e4:y.dead=x0.dead:=by have:=congrArg Blk.dead C;simpa using this
    have e5:y.pure=x0.pure:=by have:=congrArg Blk.pure C;simpa using this
    have A:=Step.shutB S M (by rw[e4];exact U) (Bad M G)
    refine⟨_,by simp only[At];rw[←C];exact A,?_,by simp only[At];exact L.shutB I⟩
    have:=(A5c (J':=fun o k=>J o k∨∃ o',β b=some (k,o')∧(y.taint=true→o=true)) S M (by rw[e4];exact U) (by rw[e5];exact Y) G (fun k o hβ=>.inr ⟨o,hβ,id⟩) (fun o k hj=>.inl hj) false x0.taint).2 (by simp)
    rw[e1,e2,e3] at this
    rw[e3]
    exact this
  all_goals first
    | (simp at F;done)
    | (simp at F; obtain ⟨rfl, rfl, rfl⟩ := F
       refine⟨J,Step.refl S,?_,L⟩
       first
         | (rw[Rep] at G;exact G)
         | skip)
  · cases v
    case imm=>rename_i hi _ _;exact absurd rfl (hi _ _ _ _ _)
    case iptr=>rename_i hi _;exact absurd rfl (hi _ _)
    case pagg=>rename_i hi;exact absurd rfl (hi _ _)
    all_goals first | (rw[Rep] at G;rw[RepC];exact G) | simp_all
theorem Ui:∀ {c c':LA} {ups:Ip} {org:Bool} {cs:List Value} {J:Bool→Nat→Prop} {h:Am},SimH J β h w→LooksS g h→EQ g c=some (c',ups,org)→Reps J β h w c cs →
  ∃ J',Step J β h w J' β (At ups h) w∧RepCs (J' org) w c' (fun j=>cs[j]?) 0∧c'.length=cs.length∧LooksS g (At ups h)
 | [],c',ups,org,cs,J,h,S,I,D,F=>by
  simp[EQ] at D;obtain⟨rfl,rfl,rfl⟩:=D
  rw[Reps] at F;subst F
  exact⟨J,Step.refl S,by simp[RepCs],rfl,I⟩
 | v::r,c',ups,org,cs,J,h,S,I,D,F=>by
  rw[EQ] at D
  obtain⟨⟨v1,u1,o1⟩,hp,h1⟩:=ub D
  obtain⟨⟨r2,u2,o2⟩,hq,V⟩:=ub h1
  simp at V
  obtain⟨rfl,rfl,rfl⟩:=V
  rw[Reps] at F
  obtain⟨u,us,rfl,L,M⟩:=F
  obtain⟨J1,A,hA,T⟩:=cE S I hp L
  obtain⟨J2,B,hB,G,U⟩:=Ui A.sim T hq (Reps.ext A.ext M)
  refine⟨J2,by rw[C1];exact A.trans B (fun _ _ _ _=>Nat.le_refl _),?_,by simp[G],by rw[C1];exact U⟩
  have mono:∀ {a b:Bool} (k:Nat),J2 a k→J2 (a||b) k:=fun {a b} k C=>by
   cases a
   ·cases b
    ·exact C
    ·exact B.sim.jft k C
   ·exact C
  have mono':∀ {a b:Bool} (k:Nat),J2 b k→J2 (a||b) k:=fun {a b} k C=>by rw[Bool.or_comm];exact mono k C
  rw[RepCs]
  refine⟨⟨u,by simp,?_⟩,?_⟩
  ·exact RepC.keep (J:=J1 o1) (fun k C=>mono k (B.ext.jsub _ k C)) (fun _ _=>rfl) hA
  ·have:=RepCs.keep (J':=J2 (o1||o2)) (w':=w) (fun k C=>mono' k C) (fun _ _=>rfl) (rd':=fun j=>us[j]?) (fun _=>rfl) hB
   rw[Df] at this ⊢
   intro j x hj
   have Y:=this j x hj
   simp only[Nat.zero_add] at Y
   rw[show 1+j=j+1 by omega]
   simpa using Y
theorem XH {v:AV} {c':LA} {ups:Ip} {org:Bool} {vc:Value} (S:SimH J β h w) (G:LooksS g h) (C:DV g v=some (c',ups,org)) (D:Rep J β h w v vc) :
  ∃ J',Step J β h w J' β (At ups h) w∧RepCs (J' org) w c' (fun j=>vc.cells.toList[j]?) 0∧c'.length=vc.cells.toList.length∧LooksS g (At ups h):=by
 unfold DV at C
 split at C
 ·rename_i c org'
  simp at C;obtain⟨rfl,rfl,rfl⟩:=C
  rw[Rep] at D
  obtain⟨cs,rfl,M,F⟩:=D
  exact⟨J,Step.refl S,F,by simp[Value.cells,M],G⟩
 ·rename_i c
  rw[Rep] at D
  obtain⟨cs,rfl,F⟩:=D
  exact Ui S G C F
 ·rename_i v M F
  obtain⟨J',A,hA,k,I⟩:=Ui (cs:=[vc]) S G C (by rw[Reps];exact⟨vc,[],rfl,D,by rw[Reps]⟩)
  have Y:vc.oneCell'=true:=by
   have L:c'.length=1:=k
   cases T:c' with
   | nil=>simp[T] at L
   | cons x r =>
    obtain⟨u,U,hr⟩:=hA.at (j:=0) (x:=x) (by simp[T])
    simp at U;subst U
    exact Acm hr
  have V:vc.cells=#[vc]:=by cases vc<;>simp_all[Value.cells,Value.oneCell']
  rw[V]
  exact⟨J',A,hA,k,I⟩
end
end Gx

namespace Gx
open Go
theorem Dp:∀ (ups:Ip) (h:Am) (b:Nat),Bj ups b=false→Au (At ups h) b=Au h b
 | [],_,_,_=>rfl
 | (i,some x)::r,h,b,hi=>by
  rw[Bj] at hi
  cases k:Nat.beq i b with
  | true=>rw[k] at hi;simp at hi
  | false =>
   rw[k] at hi
   rw[At,Dp r _ b hi,Ai,if_neg (fun e=>AR k e.symm)]
 | (i,none)::r,h,b,hi=>by
  rw[Bj] at hi
  cases k:Nat.beq i b with
  | true=>rw[k] at hi;simp at hi
  | false =>
   rw[k] at hi
   rw[At,Dp r _ b hi]
   split
   ·rw[Ai,if_neg (fun e=>AR k e.symm)]
   ·rfl
theorem mN {c vs:LA} {off:Nat} (D:off+vs.length≤c.length) (j:Nat):(C0 c off vs)[j]?=if off≤j∧j<off+vs.length then vs[j - off]? else c[j]?:=by
 unfold C0
 rw[List.append_assoc,List.getElem?_append]
 simp only[List.length_take,Nat.min_eq_left (show off≤c.length by omega)]
 by_cases k:j<off
 ·rw[if_pos k,if_neg (by omega),List.getElem?_take,if_pos k]
 ·rw[if_neg k,List.getElem?_append]
  by_cases C:j - off<vs.length
  ·rw[if_pos C,if_pos (by omega)]
  ·rw[if_neg C,if_neg (by omega),List.getElem?_drop];congr 1;omega
theorem MX {c vs:LA} {off:Nat} (k:off+vs.length≤c.length):(C0 c off vs).length=c.length:=by
 unfold C0;simp;omega
theorem TL {c vs:LA} {off:Nat} (k:off+vs.length≤c.length) (j:Nat):(setCells c off vs)[j]?=if off≤j∧j<off+vs.length then vs[j - off]? else c[j]?:=by
 unfold setCells
 split
 ·rename_i y
  simp at k
  rw[List.getElem?_set]
  by_cases e:off=j
  ·subst e;simp;omega
  ·rw[if_neg e,if_neg (by simp;omega)]
 ·exact mN k j
theorem AE {c vs:LA} {off:Nat} (k:off+vs.length≤c.length):(setCells c off vs).length=c.length:=by
 unfold setCells
 split
 ·simp
 ·exact MX k
section
variable {R:Type} {r:R} {P:Program} {J J':Bool→Nat→Prop} {β:C8} {h:Am} {w w':World} {g:Cb}
theorem CN {v:AV} {vc:Value} (hs:N' g v=true) (C:Rep J β h w v vc):vc.oneCell'=true:=by
 cases v<;>simp[N'] at hs
 case own=>rw[Rep] at C;obtain⟨x,A,cap,_,rfl,_⟩:=C;rfl
 case optr=>rw[Rep] at C;obtain⟨x,k,o,_,rfl,_⟩:=C;rfl
 case fn=>rw[Rep] at C;obtain⟨cs,rfl,_⟩:=C;rfl
 case imm=>rw[Rep,RepC] at C;obtain⟨_,A,cap,rfl,_⟩:=C;rfl
 case iptr=>rw[Rep,RepC] at C;obtain⟨a,rfl,_⟩:=C;rfl
 all_goals (rw[Rep] at C;subst C;rfl)
theorem TM:∀ {c:LA},OA g c=true→∀ (j:Nat) (x:AV),c[j]?=some x→N' g x=true
 | [],_,j,x,k=>by simp at k
 | v::r,hs,j,x,k=>by
  rw[OA] at hs;simp at hs
  cases j with
  | zero=>simp at k;subst k;exact hs.1
  | succ j=>exact TM hs.2 j x (by simpa using k)
theorem A1b {k:Nat} {cs C:Array Value} {ty:TypeId} {fr:Nat×Nat} (O:OnlyBlk w w' k cs C ty fr):∀ j,Bw w j≤Bw w' j:=fun j=>by
 by_cases e:j=k
 ·subst e;rw[H0 O.old,H0 O.new,O.sz];exact Nat.le_refl _
 ·simp[Bw,O.other j e]
theorem cF {t:TypeId} {k o:Nat} {vc:Value} {cs:Array Value} {ty:TypeId} {fr:Nat×Nat} (F:w.heap[k]?=some (.cells cs ty fr)) (G:FrOk cs.size fr)
  (hs:D1 P t=some vc.cells.toList.length) (I:o+vc.cells.toList.length≤cs.size) (L:∀ u ∈ vc.cells.toList,u.oneCell'=true) :
  (Instr.storeAt t (.pointer (some ⟨k,o,none⟩)) vc).run P w=.ok () (w.setCells k o vc.cells.toList):=by
 have C:=run_storeCells_cells (P:=P) k o vc.cells.toList 0 w (fun j M=>by
   rw[Nat.add_zero,Yz F];simp;omega)
  (fun j M=>by
   rw[Nat.add_zero];simp only[World.frozen?,F]
   have:=G.at (o+j) (by omega)
   cases fr;simp at this ⊢;omega) L
 simp only[Nat.add_zero] at C
 have D:=Ff hs w
 simp only[Array.length_toList] at D
 simp[Instr.storeAt,Instr.sureAddr,storeVar,D,C]
theorem Asg {t:TypeId} {p v:AV} {vp vv:Value} {k:AV→Ip→O R} (S:SimH J β h w) (hl:Looks g h) (hh:tI P g t p v k=some r) (hp:Rep J β h w p vp) (hv:Rep J β h w v vv) :
  ∃ val ups,k val ups=some r∧∃ J' β' w',(Instr.storeAt t vp vv).run P w=.ok () w'∧Step J β h w J' β' (At ups h) w'∧val=.undef:=by
 unfold tI at hh
 split at hh
 ·rename_i b off
  obtain⟨x,hx,h1⟩:=ub hh
  obtain⟨n,hn,h2⟩:=ub h1
  obtain⟨hs,h3⟩:=A5b h2
  obtain⟨hb,hd⟩:=Py hl hx
  have M:=Bci hb hp
  cases hpu:x.pure with
  | true =>
   rw[hpu] at h3
   obtain⟨⟨c',u1,org⟩,hq,h4⟩:=ub h3
   obtain⟨G,h5⟩:=uc h4
   simp at G
   obtain⟨T,U,hc3⟩:=G
   obtain⟨J1,A,hA,I,_⟩:=XH S hl.s hq hv
   have hb1:Au (At u1 h) b=some x:=by rw[Dp _ _ _ hc3];exact hb
   obtain⟨kk,o,cs,ty,fr,hβ,rfl,F,hf,hle,hcr,_,_⟩:=Asc A.sim hb1 hd (Rep.ext A.ext hp)
   obtain⟨V,O,hO⟩:=OnlyBlk.setCells (k:=kk) vv.cells.toList (o+off) w cs F
   have Y:off+c'.length≤x.cells.length:=by omega
   have hone:=RepCs.one hA I.symm
   have B:=Step.set (x':={ x with pure:=true,cells:=setCells x.cells off c',taint:=x.taint||org }) A.sim hb1 hd hs hβ O hd hs rfl (AE Y) (by
    refine⟨fun _=>?_,fun hh=>by simp at hh⟩
    have hold:=hcr.1 hpu
    rw[Df]
    intro j y C
    simp only[TL Y] at C
    simp only[Nat.zero_add]
    have mono:∀ {a b:Bool} (k:Nat),J1 a k→J1 (a||b) k:=fun {a b} k F=>by
     cases a
     ·cases b
      ·exact F
      ·exact A.sim.jft k F
     ·exact F
    split at C
    ·rename_i hj'
     obtain⟨u,hu,hr⟩:=hA.at C
     refine⟨u,?_,RepC.keep (J:=J1 org) (fun k F=>by rw[Bool.or_comm];exact mono k F) (fun _ _=>rfl) hr⟩
     rw[hO,if_pos (by omega),←hu];congr 1;omega
    ·rename_i hj'
     obtain⟨u,hu,hr⟩:=hold.at C
     refine⟨u,?_,RepC.keep (J:=J1 x.taint) (fun k F=>mono k F) (fun _ _=>rfl) hr⟩
     rw[hO,if_neg (by omega)];exact hu)
   refine⟨_,_,h5,J1,β,_,cF F hf (by rw[←I,T];exact hn) (by omega) hone,?_,rfl⟩
   rw[C1]
   exact A.trans (B M) (fun _ k _ _=>A1b O k)
  | false =>
   rw[hpu] at h3
   obtain⟨kk,o,cs,ty,fr,hβ,rfl,F,hf,hle,hcr,_,_⟩:=Asc S hb hd hp
   have go:∀ (c:LA) (cells':LA),(∀ (j:Nat) (y:AV),c[j]?=some y→∃ u,vv.cells.toList[j]?=some u∧Rep J β h w y u∧u.oneCell'=true)→c.length=vv.cells.toList.length→c.length=n→off+c.length≤x.cells.length →
     cells'.length=x.cells.length→(∀ j:Nat,cells'[j]?=if off≤j∧j<off+c.length then c[j - off]? else x.cells[j]?) →
     ∃ J' β' w',(Instr.storeAt t (.pointer (some ⟨kk,o+off,none⟩)) vv).run P w=.ok () w'∧Step J β h w J' β' (At [(b,some { x with pure:=false,cells:=cells' })] h) w':=by
    intro c cells' G I hcn hoff hcl hget'
    obtain⟨V,O,hO⟩:=OnlyBlk.setCells (k:=kk) vv.cells.toList (o+off) w cs F
    have B:=Step.set (x':={ x with pure:=false,cells:=cells' }) S hb hd hs hβ O hd hs rfl hcl (by
     refine⟨fun hh=>by simp at hh,fun _ j y C=>?_⟩
     simp only[hget'] at C
     split at C
     ·rename_i hj'
      obtain⟨u,hu,hr,ho⟩:=G _ _ C
      refine⟨u,?_,hr,ho⟩
      show V[o+j]?=some u
      rw[hO,if_pos (by omega),←hu];congr 1;omega
     ·rename_i hj'
      obtain⟨u,hu,hr⟩:=hcr.2 hpu j y C
      refine⟨u,?_,hr⟩
      show V[o+j]?=some u
      rw[hO,if_neg (by omega)];exact hu)
    refine⟨J,β,_,cF F hf (by rw[hn,←hcn,I]) (by omega) (fun u hu=>?_),B M⟩
    obtain⟨j,C,rfl⟩:=List.getElem_of_mem hu
    obtain⟨u',hu',_,ho⟩:=G j c[j] (List.getElem?_eq_getElem (by omega))
    rw[List.getElem?_eq_getElem C] at hu';simp only[Option.some.injEq] at hu';rw[hu'];exact ho
   simp only[cond_false] at h3
   split at h3
   ·rename_i c
    obtain⟨G,h5⟩:=uc h3
    simp at G
    obtain⟨T,U,hc3⟩:=G
    rw[Rep] at hv
    obtain⟨us,rfl,D⟩:=hv
    rw[C9] at D
    obtain⟨J',β',w',g1,g2⟩:=go c (C0 x.cells off c) (fun j y C=>by
      have hlt:j<us.length:=by rw[D.1];exact(List.getElem?_eq_some_iff.1 C).1
      refine⟨us[j],by simp[Value.cells,List.getElem?_eq_getElem hlt],D.2 j y _ C (List.getElem?_eq_getElem hlt),CN (TM T j y C) (D.2 j y _ C (List.getElem?_eq_getElem hlt))⟩)
     (by simp[Value.cells,D.1]) U (by omega) (MX (by omega)) (mN (by omega))
    exact⟨_,_,h5,J',β',w',g1,g2,rfl⟩
   ·rename_i c org
    obtain⟨G,h5⟩:=uc h3
    simp at G
    obtain⟨rfl,U,hc3⟩:=G
    rw[Rep] at hv
    obtain⟨us,rfl,D,hrc⟩:=hv
    obtain⟨V,O,hO⟩:=OnlyBlk.setCells (k:=kk) us (o+0) w cs F
    have B:=Step.set (x':={ x with pure:=true,taint:=org,cells:=c }) S hb hd hs hβ O hd hs rfl (by simp;omega) (by
     refine⟨fun _=>?_,fun hh=>by simp at hh⟩
     rw[Df]
     intro j y C
     obtain⟨u,hu,hr⟩:=hrc.at C
     have hlt:j<us.length:=by rw[D];exact(List.getElem?_eq_some_iff.1 C).1
     refine⟨u,?_,hr⟩
     show V[o+(0+j)]?=some u
     rw[hO,if_pos (by omega),←hu];congr 1;omega)
    exact⟨_,_,h5,J,β,_,cF (vc:=.agg ⟨us⟩) F hf (by simp[Value.cells];rw[D,U];exact hn) (by simp[Value.cells];omega) (by simpa[Value.cells] using RepCs.one hrc D),B M,rfl⟩
   ·rename_i hna
    obtain⟨G,h5⟩:=uc h3
    simp at G
    obtain⟨T,U,hc3⟩:=G
    have ho:=CN T hv
    have L:vv.cells=#[vv]:=by cases vv<;>simp_all[Value.cells,Value.oneCell']
    obtain⟨J',β',w',g1,g2⟩:=go [v] (x.cells.set off v) (fun j y C=>by
      cases j with
      | zero=>simp at C;subst C;exact⟨vv,by simp[L],hv,ho⟩
      | succ j=>simp at C) (by simp[L]) (by simp;omega) (by simp;omega) (by simp) (fun j=>by
      have:=TL (c:=x.cells) (vs:=[v]) (off:=off) (by simp;omega) j
      simpa[setCells] using this)
    exact⟨_,_,h5,J',β',w',g1,g2,rfl⟩
 ·simp at hh
end
end Gx

namespace Gx
open Go
section
variable {R:Type} {r:R} {P:Program} {J J':Bool→Nat→Prop} {β:C8} {h:Am} {w w':World} {g:Cb}
theorem Aoq {v v':AV} {ups:Ip} {org:Bool} (k:jI g v=some (v',ups,org)) (b:Nat) (F:Bj ups b=true):∃ x,g b=some x:=by
 unfold jI at k
 split at k
 ·rename_i G off n
  obtain⟨x,C,L⟩:=ub k
  obtain⟨M,I⟩:=uc L
  simp at I
  obtain⟨rfl,rfl,rfl⟩:=I
  unfold Lf at C
  obtain⟨x0,D,C⟩:=ub C
  have:G=b:=by
   cases e:Nat.beq G b with
   | true=>exact Nat.eq_of_beq_eq_true e
   | false=>simp[Bj,e] at F
  subst this;exact⟨x0,D⟩
 all_goals first
  | (simp at k;done)
  | (simp at k;obtain⟨rfl,rfl,rfl⟩:=k;simp[Bj] at F)
theorem P0:∀ (a b:Ip) (c:Nat),Bj (a++b) c=(Bj a c||Bj b c)
 | [],_,_=>by simp[Bj]
 | (i,_)::r,b,c=>by
  rw[List.cons_append,Bj,Bj,P0 r b c]
  cases Nat.beq i c<;>simp
theorem EW:∀ {c c':LA} {ups:Ip} {org:Bool},EQ g c=some (c',ups,org)→∀ b,Bj ups b=true→∃ x,g b=some x
 | [],c',ups,org,k,b,C=>by simp[EQ] at k;obtain⟨rfl,rfl,rfl⟩:=k;simp[Bj] at C
 | v::r,c',ups,org,k,b,C=>by
  rw[EQ] at k
  obtain⟨⟨v1,u1,o1⟩,G,I⟩:=ub k
  obtain⟨⟨L,u2,o2⟩,hq,D⟩:=ub I
  simp at D
  obtain⟨rfl,rfl,rfl⟩:=D
  rw[P0] at C
  cases F:Bj u1 b with
  | true=>exact Aoq G b F
  | false=>rw[F] at C;exact EW hq b (by simpa using C)
theorem Alo {v:AV} {c':LA} {ups:Ip} {org:Bool} (k:DV g v=some (c',ups,org)) (b:Nat) (C:Bj ups b=true):∃ x,g b=some x:=by
 unfold DV at k
 split at k
 ·simp at k;obtain⟨rfl,rfl,rfl⟩:=k;simp[Bj] at C
 ·exact EW k b C
 ·exact EW k b C
theorem A5d {ups:Ip} {d:Nat} (k:Looks g h) (C:∀ b,Bj ups b=true→∃ x,g b=some x) (hn:Au h (nid d)=none):Au (At ups h) (nid d)=none:=by
 rw[Dp]
 ·exact hn
 ·cases D:Bj ups (nid d) with
  | false=>rfl
  | true =>
   obtain⟨x,F⟩:=C _ D
   rw[k _ _ F] at hn;cases hn
def OpDone (J:Bool→Nat→Prop) (β:C8) (h:Am) (w:World) (ups:Ip) (val:AV) (vc:Value) (w':World):Prop :=
 ∃ J' β',Step J β h w J' β' (At ups h) w'∧Rep J' β' (At ups h) w' val vc
def UpsFree (d:Nat) (h:Am) (ups:Ip):Prop:=∀ b,Bj ups b=true→XF d b=true→Au h b=none
theorem UpsFree.nid {d:Nat} {h:Am} {ups:Ip} (k:UpsFree d h ups) (hi:Bj ups (nid d)=true):Au h (nid d)=none:=k _ hi (by
 have C:Nat.ble (Gx.nid d) (Gx.nid d)=true:=by simp
 have D:Nat.blt (Gx.nid d) (Gx.nid d+16)=true:=by simp
 rw[XF,C,D];rfl)
theorem oT {d:Nat} {x:Blk} {cs:Array Value} {ty:TypeId} (S:SimH J β h w) (hn:Au h (nid d)=none) (D:x.dead=false) (hs:x.sealed=false) (k:x.cells.length≤cs.size) (F:CellsRep J β h w x (fun j=>cs[j]?)) (C:x.mp=false:=by rfl) :
  OpDone J β h w [(nid d,some x)] (.optr (nid d) 0) (.pointer (some ⟨w.heap.size,0,none⟩)) (w.alloc (.cells cs ty)):=by
 have A:=Step.new (ty:=ty) (fr:=(0,0)) S hn D hs (.inl rfl) k F C
 refine⟨_,_,A,?_⟩
 rw[Rep]
 exact⟨x,w.heap.size,0,⟨by simp[At,Ai],C⟩,rfl,.inr (by simp)⟩
theorem OpDone.after {ups ups':Ip} {val:AV} {vc:Value} {J1:Bool→Nat→Prop} {β1:C8} {C:World} (A:Step J β h w J1 β1 (At ups h) C) (B:OpDone J1 β1 (At ups h) C ups' val vc w')
  (hs:∀ k,Bw w k≤Bw w' k):OpDone J β h w (ups++ups') val vc w':=by
 obtain⟨J2,β2,B1,B2⟩:=B
 exact⟨J2,β2,by rw[C1];exact A.trans B1 (fun _ k _ _=>hs k),by rw[C1];exact B2⟩
theorem EX (w:World) (o:Obj):∀ k,Bw w k≤Bw (w.alloc o) k:=fun k=>by
 by_cases C:k<w.heap.size
 ·simp[Bw,Ej w _ C]
 ·simp[Bw,Array.getElem?_eq_none (Nat.le_of_not_lt C)]
theorem gj {t:TypeId} {vc:Value}:(Instr.box t vc).run P w=.ok (.pointer (some ⟨w.heap.size,0,none⟩)) (w.alloc (.cells vc.cells t)):=by
 simp[Instr.box,newVar,newRow]
theorem vr {c:LA} {org:Bool} {cs:List Value} (T:RepCs (J org) w c (fun j=>cs[j]?) 0):∀ {L:List (Nat×TypeId)} {C:LA} {k:LA→O R},oJ P c org L C k=some r →
  (∀ (j:Nat) x,C[j]?=some x→∃ u,cs[j]?=some u∧Rep J β h w x u)→∃ l:LA,k l=some r∧∀ (j:Nat) x,l[j]?=some x→∃ u,cs[j]?=some u∧Rep J β h w x u
 | [],C,k,F,G=>⟨C,F,G⟩
 | (off,t)::L,C,k,F,G=>by
  rw[oJ] at F
  obtain⟨I,Y⟩:=uc F
  simp at I
  obtain⟨v,h2,h3⟩:=Yy (β:=β) (h:=h) Y (T.drop off)
  refine vr T h2 (fun j x D=>?_)
  rw[List.getElem?_append] at D
  split at D
  ·exact G j x D
  ·have M:j=C.length:=by
    have:=(List.getElem?_eq_some_iff.1 D).1
    simp at this;omega
   subst M
   simp at D;subst D
   rcases h3 with⟨d,U,hd,u,V,h5⟩ | ⟨d,U,hd,_⟩
   ·refine⟨u,?_,h5⟩
    rw[I.1] at V;simpa using V
   ·exfalso
    have S:=I.2
    unfold A99 at S
    rw[U] at S
    split at S<;>simp_all[TypeDesc.isRow]
theorem Ash {co:Bool} {t:TypeId} {v:AV} {vv:Value} {k:AV→O R} (D:tK P co t v k=some r) (F:Rep J β h w v vv):∃ v',k v'=some r∧Rep J β h w v' vv:=by
 unfold tK at D
 split at D
 ·rename_i c org
  rw[Rep] at F
  obtain⟨cs,rfl,Y,G⟩:=F
  obtain⟨l,I,L⟩:=vr (β:=β) (h:=h) G D (fun j x M=>by simp at M)
  obtain⟨S,T⟩:=uc I
  simp at S
  refine⟨_,T,?_⟩
  rw[Rep]
  refine⟨cs,rfl,C9.2 ⟨by omega,fun j x u U V=>?_⟩⟩
  obtain⟨u',C,hr⟩:=L j x U
  rw[V] at C;simp at C;subst C;exact hr
 ·exact⟨_,D,F⟩
theorem Acn {d:Nat} {t:TypeId} {v:AV} {vv:Value} {k:AV→Ip→O R} (S:SimH J β h w) (Y:Looks g h) (D:Awh P g d t v k=some r) (I:Rep J β h w v vv) :
  ∃ val ups,k val ups=some r∧(UpsFree d h ups→∃ vc w',(Instr.box t vv).run P w=.ok vc w'∧OpDone J β h w ups val vc w'):=by
 unfold Awh at D
 split at D
 ·rename_i c org
  refine⟨_,_,D,fun hn=>⟨_,_,gj,?_⟩⟩
  replace hn:=hn.nid (by simp[V4,Bj])
  rw[Rep] at I
  obtain⟨cs,rfl,V,F⟩:=I
  exact oT S hn rfl rfl (by simp[Value.cells,V]) ⟨fun _=>by simpa[Value.cells] using F,fun G=>by simp at G⟩
 ·rename_i c
  cases G:A41 P t with
  | true =>
   rw[G] at D
   obtain⟨M,D⟩:=uc D
   refine⟨_,_,D,fun hn=>⟨_,_,gj,?_⟩⟩
   replace hn:=hn.nid (by simp[V4,Bj])
   rw[Rep] at I
   obtain⟨cs,rfl,F⟩:=I
   rw[C9] at F
   refine oT S hn rfl rfl (by simp[Value.cells,F.1]) ⟨fun G=>by simp at G,fun _ j y L=>?_⟩
   have T:j<cs.length:=by rw[F.1];exact(List.getElem?_eq_some_iff.1 L).1
   exact⟨cs[j],by simp[Value.cells,T],F.2 j y _ L (List.getElem?_eq_getElem T),CN (TM M j y L) (F.2 j y _ L (List.getElem?_eq_getElem T))⟩
  | false =>
   rw[G] at D
   obtain⟨⟨c',u1,o1⟩,hq,V⟩:=ub D
   refine⟨_,_,V,fun hn=>⟨_,_,gj,?_⟩⟩
   replace hn:=hn.nid (by simp[P0,V4,Bj])
   rw[Rep] at I
   obtain⟨cs,rfl,F⟩:=I
   obtain⟨J1,A,hA,U,_⟩:=Ui S Y.s hq F
   refine OpDone.after A (oT A.sim (A5d Y (EW hq) hn) rfl rfl (by simp[Value.cells,U]) ⟨fun _=>?_,fun G=>by simp at G⟩) (EX _ _)
   simpa[Value.cells] using hA
 ·rename_i v V F
  obtain⟨M,D⟩:=uc D
  refine⟨_,_,D,fun hn=>⟨_,_,gj,?_⟩⟩
  replace hn:=hn.nid (by simp[V4,Bj])
  have ho:=CN M I
  have C:vv.cells=#[vv]:=by cases vv<;>simp_all[Value.cells,Value.oneCell']
  refine oT S hn rfl rfl (by simp[C]) ⟨fun G=>by simp at G,fun _ j y L=>?_⟩
  cases j with
  | zero=>simp at L;subst L;exact⟨vv,by simp[C],I,ho⟩
  | succ j=>simp at L
end
end Gx

namespace Gx
open Go
theorem Asi (z:LA):∀ (l j:Nat),j<l*z.length→(Rb l z)[j]?=z[j%z.length]?:=by
 have flat:∀ (l j:Nat),j<l*z.length→((List.replicate l z).flatten)[j]?=z[j%z.length]?:=by
  intro l
  induction l with
  | zero=>intro j k;simp at k
  | succ l D =>
   intro j k
   rw[List.replicate_succ,List.flatten_cons,List.getElem?_append]
   by_cases C:j<z.length
   ·rw[if_pos C,Nat.mod_eq_of_lt C]
   ·rw[if_neg C,D _ (by rw[Nat.succ_mul] at k;omega)]
    rw[Nat.mod_eq_sub_mod (a:=j) (by omega)]
 intro l j k
 unfold Rb
 split
 ·rename_i v
  simp at k
  simp[k,Nat.mod_one]
 ·exact flat l j k
theorem R8 (l:Nat) (z:LA):(Rb l z).length=l*z.length:=by
 unfold Rb
 split
 ·simp
 ·simp
section
variable {R:Type} {r:R} {P:Program} {J J':Bool→Nat→Prop} {β:C8} {h:Am} {w w':World} {g:Cb}
theorem mO {J:Nat→Prop}:∀ {cs:List Value},Ba (Ug cs)=true→∀ (j:Nat) (u:Value),cs[j]?=some u→∃ x,(Ug cs)[j]?=some x∧RepC J w x u
 | [],_,j,u,k=>by simp at k
 | v::r,C,j,u,k=>by
  have key:∃ x,v_ v=x∧Ba (Ug r)=true∧RepC J w x v:=by
   rw[Ug] at C
   have hr:=ge (J:=fun _=>J) (β:=fun _=>none) (h:=[]) (w:=w) v
   cases D:v_ v<;>rw[D] at C hr<;>simp[Ba] at C<;>refine⟨_,rfl,C,?_⟩<;>(rw[Rep] at hr;rw[RepC];exact hr)
  obtain⟨x,D,F,hr⟩:=key
  cases j with
  | zero=>simp at k;subst k;exact⟨x,by simp[Ug,D],hr⟩
  | succ j =>
   obtain⟨y,G,I⟩:=mO (J:=J) (cs:=r) F j u (by simpa using k)
   exact⟨y,by simpa[Ug] using G,I⟩
theorem IS:∀ cs:List Value,(Ug cs).length=cs.length
 | []=>rfl
 | v::r=>by simp[Ug,IS r]
theorem TN {t:TypeId} {z:LA} (C:Acd P t=some z):∃ i v,P.info? t=some i∧i.zero=some v∧z=Ug v.cells.toList∧Ba z=true∧v.cells.size=i.size∧z.length=i.size:=by
 unfold Acd at C
 obtain⟨i,hi,F⟩:=ub C
 obtain⟨v,G,I⟩:=ub F
 obtain⟨k,D⟩:=uc I
 simp at D k
 subst D
 exact⟨i,v,hi,G,rfl,k.1,by simpa using k.2,by rw[IS];simpa using k.2⟩
theorem Aco {J:Nat→Prop} {v:Value} (M:Ba (Ug v.cells.toList)=true) (l n:Nat) (T:l*v.cells.size≤n) :
  RepCs J w (Rb l (Ug v.cells.toList)) (fun j=>(madeCells v.cells n)[j]?) 0:=by
 rw[Df]
 intro j x F
 have C:(Ug v.cells.toList).length=v.cells.size:=by rw[IS];simp
 have k:j<l*(Ug v.cells.toList).length:=by
  have:=(List.getElem?_eq_some_iff.1 F).1
  rwa [R8] at this
 rw[Asi _ _ _ k] at F
 rw[C] at F k
 have D:0<v.cells.size:=by
  rcases Nat.eq_zero_or_pos v.cells.size with G | G
  ·rw[G] at k;simp at k
  ·exact G
 have L:j%v.cells.size<v.cells.size:=Nat.mod_lt _ D
 obtain⟨y,I,S⟩:=mO (w:=w) (J:=J) M (j%v.cells.size) v.cells[j%v.cells.size] (by simp[L])
 rw[F] at I;simp at I;subst I
 refine⟨_,?_,S⟩
 have:j<n:=by omega
 simp[madeCells,this,getElem!_pos,L]
theorem Asj {d n cap sz:Nat} {x:Blk} {cs:Array Value} {ty:TypeId} {fr:Nat×Nat} (S:SimH J β h w) (hn:Au h (nid d)=none) (M:x.dead=false) (hs:x.sealed=false) (I:x.sz=sz)
  (G:FrOk cs.size fr) (k:x.cells.length=n*sz) (L:cap*sz≤cs.size) (C:n≤cap) (T:CellsRep J β h w x (fun j=>cs[j]?)) (D:x.mp=false:=by rfl) :
  OpDone J β h w [(nid d,some x)] (.own (nid d) 0 n) (.slice (some ⟨w.heap.size,0,none⟩) n cap) (w.alloc (.cells cs ty fr)):=by
 have U:n*sz≤cap*sz:=Nat.mul_le_mul_right _ C
 have A:=Step.new (ty:=ty) (fr:=fr) S hn M hs G (by omega) T D
 refine⟨_,_,A,?_⟩
 rw[Rep]
 refine⟨x,_,cap,⟨by simp[At,Ai],D⟩,rfl,C,.inr ⟨w.heap.size,0,rfl,.inr ⟨by simp,?_,by rw[I,k];omega⟩⟩⟩
 have F:(w.alloc (.cells cs ty fr)).heap[w.heap.size]?=some (.cells cs ty fr):=by show(w.heap.push _)[_]?=_;simp
 rw[H0 F,I];omega
theorem Awo {d:Nat} {t:TypeId} {l c:AV} {vl vc:Value} {k:AV→Ip→O R} (S:SimH J β h w) (D:Aoh P d t l c k=some r) (L:Rep J β h w l vl) (M:Rep J β h w c vc) :
  ∃ val ups,k val ups=some r∧(UpsFree d h ups→∃ u w',(Instr.makeSlice t vl vc).run P w=.ok u w'∧OpDone J β h w ups val u w'):=by
 unfold Aoh at D
 split at D
 ·rename_i U l c V
  obtain⟨sz,hs,Y⟩:=ub D
  obtain⟨by_,T,h2⟩:=ub Y
  obtain⟨z,hz,h3⟩:=ub h2
  obtain⟨hq,h4⟩:=uc h3
  simp at hq
  obtain⟨q1,q2,q3,q4⟩:=hq
  rw[Rep] at L M;subst L M
  obtain⟨i,v,hi,hv,rfl,F,e1,e2⟩:=TN hz
  have C:i.size=sz:=by simp[D1,hi] at hs;exact hs
  have G:i.bytes=by_:=by simp[Ar0,hi] at T;exact T
  have I:Bj (V4 d true false sz (Rb l.toNat (Ug v.cells.toList))) (nid d)=true:=by simp[V4,Bj]
  refine⟨_,_,h4,fun hn=>⟨_,_,run_make w t U i v V hi hv _ _ l c q1 q2 (by rw[G,Int.mul_comm];omega) (by omega),?_⟩⟩
  refine Asj (sz:=sz) S (hn.nid I) rfl rfl rfl (.inl rfl) ?_ (by rw[size_madeCells,C];exact Nat.le_refl _) (by omega) ⟨fun _=>?_,fun F=>by simp at F⟩
  ·show(Rb l.toNat (Ug v.cells.toList)).length=_
   rw[R8,e2,C]
  ·exact Aco F _ _ (by rw[e1];exact Nat.mul_le_mul_right _ (by omega))
 ·simp at D
theorem Yield.src {sz n:Nat} {tx:TypeId} {vx:Value} {us:List Value} (Y:Yield P w sz vx n us) (k:Ar6 P tx=true) (D:∀ u ∈ us,u.oneCell'=true):Src P sz tx vx n us w:=by
 refine⟨?_,Y.len,?_,?_,Y.length,D⟩
 ·unfold Ar6 at k
  split at k
  ·rename_i e C;exact .inl ⟨e,C⟩
  ·rename_i C;exact .inr C
  ·simp at k
 ·have:=Y.cells w n (fun _=>rfl) (Nat.le_refl _)
  rwa [←Y.length,List.take_length] at this
 ·have:=Y.cells w.drew n (fun _=>rfl) (Nat.le_refl _)
  rwa [←Y.length,List.take_length] at this
theorem Ask {J:Nat→Prop} {a b:LA} {us vs:List Value} (F:RepCs J w a (fun j=>us[j]?) 0) (G:RepCs J w b (fun j=>vs[j]?) 0) (I:a.length=us.length) (tail:List Value) :
  RepCs J w (a++b) (fun j=>(us++vs++tail)[j]?) 0:=by
 rw[Df]
 intro j x k
 rw[List.getElem?_append] at k
 simp only[Nat.zero_add]
 by_cases D:j<a.length
 ·rw[if_pos D] at k
  obtain⟨u,C,hr⟩:=F.at k
  refine⟨u,?_,hr⟩
  rw[List.append_assoc,List.getElem?_append,if_pos (by omega)];exact C
 ·rw[if_neg D] at k
  obtain⟨u,C,hr⟩:=G.at k
  refine⟨u,?_,hr⟩
  have L:j - a.length<vs.length:=(List.getElem?_eq_some_iff.1 C).1
  rw[List.append_assoc,List.getElem?_append,if_neg (by omega),List.getElem?_append,if_pos (by omega),←I];exact C
theorem oU (w:World) (k:Nat):Bw w.drew k=Bw w k:=rfl
theorem Acp {d sz n1 n2 cap0:Nat} {t tx ty C:TypeId} {i:TypeInfo} {z vx:Value} {A:Option Addr} {olds news:List Value} {c1 D:LA} {o:Bool} (S:SimH J β h w) (hn:Au h (nid d)=none)
  (hu:P.underlying t=some (.slice C)) (hi:P.info? C=some i) (hz:i.zero=some z) (M:i.size=sz) (T:z.cells.size=sz)
  (F:∀ w':World,(∀ a,w'.cell? a=w.cell? a)→(Builtin.firstCells sz n1 (.slice A n1 cap0)).run P w'=.ok olds.toArray w') (G:olds.length=n1*sz)
  (Y:Yield P w sz vx n2 news) (ht:Ar6 P tx=true) (ho:∀ u ∈ news,u.oneCell'=true)
  (h1:RepCs (J o) w c1 (fun j=>olds[j]?) 0) (I:c1.length=olds.length) (h2:RepCs (J o) w D (fun j=>news[j]?) 0) (U:D.length=news.length)
  (hg:cap0<n1+n2) (hb1:n1+n2≤140737488355328) (V:(n1+n2)*i.bytes≤140737488355328) :
  ∃ u w',(Builtin.append_ #[t,tx] ty #[.slice A n1 cap0,vx]).run P w=.ok u w' ∧
   OpDone J β h w [(nid d,some { dead:=false,sealed:=false,pure:=true,taint:=o,sz:=sz,cells:=c1++D })] (.own (nid d) 0 (n1+n2)) u w'∧(∀ k,Bw w k≤Bw w' k):=by
 subst M
 have run:=run_append_grow_src (P:=P) w t tx ty C i z hu hi hz A n1 cap0 olds (F w.drew (fun _=>rfl)) vx n2 news (Y.src ht ho) hg (by omega) (growslice_fits hg V)
 have L:n1+n2≤grownCap w (n1+n2) cap0 C:=by
  unfold grownCap;simp[Question.cut]
 refine⟨_,_,run,?_,?_⟩
 ·obtain⟨J',β',B1,B2⟩:=Asj (d:=d) (n:=n1+n2) (cap:=grownCap w (n1+n2) cap0 C) (sz:=i.size) (ty:=C) (fr:=(0,0)) (x:={ dead:=false,sealed:=false,pure:=true,taint:=o,sz:=i.size,cells:=c1++D })
   (cs:=(olds++news).toArray++Builtin.zeroCells z.cells (grownCap w (n1+n2) cap0 C - (n1+n2))) (Step.drew S).sim hn rfl rfl rfl (.inl rfl)
   (by simp[I,U,G,Y.length,Nat.add_mul]) (by
    simp[Builtin.zeroCells,G,Y.length,T]
    rw[←Nat.add_mul,←Nat.add_mul];exact Nat.mul_le_mul_right _ (by omega)) L
   ⟨fun _=>by
    have:=Ask h1 h2 I (Builtin.zeroCells z.cells (grownCap w (n1+n2) cap0 C - (n1+n2))).toList
    show RepCs (J o) w.drew (c1++D) _ 0
    refine RepCs.keep (J:=J o) (w:=w) (w':=w.drew) (fun _ hj=>hj) (fun _ _=>rfl) (fun j=>?_) this
    rw[←Array.getElem?_toList]
    simp,fun hp=>by simp at hp⟩
  exact⟨J',β',(Step.drew S).trans B1 (fun _ k _ _=>by rw[←oU];exact EX _ _ k),B2⟩
 ·intro k;rw[←oU];exact EX _ _ k
theorem gk {J:Bool→Nat→Prop} (D:∀ k,J false k→J true k) (a b:Bool) (k:Nat) (C:J a k):J (a||b) k:=by
 cases a
 ·cases b
  ·exact C
  ·exact D k C
 ·exact C
theorem Acq {J:Bool→Nat→Prop} (C:∀ k,J false k→J true k) (a b:Bool) (k:Nat) (D:J b k):J (a||b) k:=by rw[Bool.or_comm];exact gk C b a k D
theorem Awp {d sz:Nat} {x:Blk} {A:Option Addr} (S:SimH J β h w) (hn:Au h (nid d)=none) (C:x.cells=[]) (k:x.mp=false:=by rfl) :
  OpDone J β h w [(nid d,some x)] (.own (nid d) 0 0) (.slice A 0 0) w:=by
 refine⟨_,_,Step.newNone S hn C k,?_⟩
 rw[Rep]
 exact⟨x,A,0,⟨by simp[At,Ai],k⟩,rfl,Nat.le_refl _,.inl rfl⟩
theorem Alp {d:Nat} {t tx ty:TypeId} {s x:AV} {vs vx:Value} {k:AV→Ip→O R} (S:SimH J β h w) (hl:Looks g h) (hh:g8 P g d t tx s x k=some r) (hs:Rep J β h w s vs) (hx:Rep J β h w x vx) :
  ∃ val ups,k val ups=some r∧(UpsFree d h ups→∃ u w',(Builtin.append_ #[t,tx] ty #[vs,vx]).run P w=.ok u w'∧OpDone J β h w ups val u w'):=by
 unfold g8 at hh
 split at hh
 ·rename_i el hu
  obtain⟨ht,V⟩:=uc hh
  obtain⟨sz,hsz,h1⟩:=ub V
  obtain⟨by_,hby,h2⟩:=ub h1
  obtain⟨zz,hz,h3⟩:=ub h2
  obtain⟨old,D,h4⟩:=ub h3
  obtain⟨new,us,h5,Y,G,hur⟩:=TK (P:=P) S hl h4 hx
  obtain⟨hq,h6⟩:=uc h5
  simp at hq
  obtain⟨q1,q2⟩:=hq
  obtain⟨i,z,hi,hiz,rfl,hp,e1,e2⟩:=TN hz
  have C:i.size=sz:=by simp[D1,hi] at hsz;exact hsz
  have hb':i.bytes=by_:=by simp[Ar0,hi] at hby;exact hby
  have F:=RepCs.one hur G.symm
  have T:RepCs (J (old.2.2.1||new.2.2)) w new.1 (fun j=>us[j]?) 0:=RepCs.keep (J:=J new.2.2) (w:=w) (Acq S.jft _ _) (fun _ _=>rfl) (fun _=>rfl) hur
  refine⟨_,_,h6,fun hn=>?_⟩
  replace hn:=hn.nid (by simp[P0,V4,Bj])
  have empty:∀ (A:Option Addr),vs=.slice A 0 0→old.1=[]→old.2.1=0→old.2.2.2=[] →
    ∃ u w',(Builtin.append_ #[t,tx] ty #[vs,vx]).run P w=.ok u w'∧OpDone J β h w (old.2.2.2++V4 d true (old.2.2.1||new.2.2) sz (old.1++new.1)) (.own (nid d) 0 (old.2.1+new.2.1)) u w':=by
   intro A hA o1 o2 o3
   subst hA
   rw[o1,o2,o3]
   rcases Nat.eq_zero_or_pos new.2.1 with V | V
   ·have hus:us=[]:=by have:=Y.length;rw[V] at this;simpa using this
    subst hus
    have I:=Y.src ht F
    rw[V] at I
    refine⟨_,_,run_append_nothing (P:=P) w t tx ty el i hu hi A 0 0 (Nat.le_refl _) vx (by rw[C];exact I),?_⟩
    rw[V]
    have hnc:new.1=[]:=by simpa using G
    exact Awp (sz:=sz) S hn (by simp[hnc])
   ·obtain⟨u,w',g1,g2,_⟩:=Acp (ty:=ty) (c1:=[]) (olds:=[]) (n1:=0) (cap0:=0) (A:=A) S hn hu hi hiz C (by rw[e1,C]) (fun w' _=>by
      cases A with
      | none=>exact run_firstCells_none (P:=P) w' sz 0 0 0
      | some a=>exact run_firstCells_some (P:=P) w' sz 0 a 0 0 [] (by simp) (fun j v U=>by simp at U)) (by simp) Y ht F (by simp[RepCs]) rfl T G (by omega) (by rw[o2] at q1;omega) (by rw[o2,←hb'] at q2;exact q2)
    exact⟨u,w',g1,g2⟩
  unfold A45 at D
  split at D
  ·simp at D;subst D
   rw[Rep] at hs
   exact empty none hs rfl rfl rfl
  ·rename_i c n sz' org
   obtain⟨hz0,h7⟩:=uc D
   simp at hz0 h7;subst hz0;subst h7
   rw[Rep,RepC] at hs
   obtain⟨_,A,cap,U,_,hcap,_⟩:=hs
   have:=hcap rfl;subst this
   exact empty A U rfl rfl rfl
  ·rename_i b off n
   obtain⟨y,hy,h7⟩:=ub D
   obtain⟨hc,h8⟩:=uc h7
   simp at hc h8
   obtain⟨c1,c2,c3⟩:=hc
   subst h8;subst c3
   obtain⟨hb,hd⟩:=Py hl hy
   simp only at *
   rw[Rep] at hs
   obtain⟨y',A,cap,⟨hy1,hmp⟩,rfl,hcap,hr⟩:=hs
   rw[hb] at hy1;simp at hy1;subst hy1
   have kill:=Step.kill (y:={ y with dead:=true,pure:=true,cells:=[] }) S hb rfl
   have hkn:Au (G9 h b { y with dead:=true,pure:=true,cells:=[] }) (nid d)=none:=by
    rw[Ai,if_neg (fun e=>by rw[←e,hn] at hb;cases hb)];exact hn
   have L:At [(b,none)] h=G9 h b { y with dead:=true,pure:=true,cells:=[] }:=by simp[At,hb]
   by_cases hc0:cap=0
   ·have hn0:n=0:=by omega
    subst hc0;subst hn0
    have S':=kill.sim
    rcases Nat.eq_zero_or_pos new.2.1 with V | V
    ·have hus:us=[]:=by have:=Y.length;rw[V] at this;simpa using this
     subst hus
     have I:=Y.src ht F
     rw[V] at I
     refine⟨_,_,run_append_nothing (P:=P) w t tx ty el i hu hi A 0 0 (Nat.le_refl _) vx (by rw[C];exact I),?_⟩
     rw[V]
     have hnc:new.1=[]:=by simpa using G
     refine OpDone.after (ups:=[(b,none)]) (by rw[L];exact kill) ?_ (fun _=>Nat.le_refl _)
     rw[L]
     exact Awp (sz:=y.sz) S' hkn (by simp[hnc])
    ·obtain⟨u,w',g1,g2,g3⟩:=Acp (ty:=ty) (c1:=[]) (olds:=[]) (n1:=0) (cap0:=0) (A:=A) S' hkn hu hi hiz C (by rw[e1,C]) (fun w' _=>by
       cases A with
       | none=>exact run_firstCells_none (P:=P) w' y.sz 0 0 0
       | some a=>exact run_firstCells_some (P:=P) w' y.sz 0 a 0 0 [] (by simp) (fun j v U=>by simp at U)) (by simp) Y ht F (by simp[RepCs]) rfl T G (by omega) (by omega) (by rw[←hb'] at q2;exact q2)
     refine⟨u,w',g1,OpDone.after (ups:=[(b,none)]) (by rw[L];exact kill) ?_ g3⟩
     rw[L];simpa[V4] using g2
   ·rcases hr with hr | ⟨kk,o,rfl,hr⟩
    ·exact absurd hr hc0
    ·rcases hr with hr | ⟨r1,r2,r3⟩
     ·simp[hd] at hr
     ·rcases S.blk b y hb hd hmp with⟨hn',_⟩ | ⟨k',o',cs,ty',fr,hβ',g1,g2,g3,g4,g5,g6⟩
      ·rw[r1] at hn';simp at hn'
      ·rw[r1] at hβ';simp at hβ';obtain⟨rfl,rfl⟩:=hβ'
       have hbs:=H0 g1
       have hpure:=((g4.1 c1).drop off).take (n*y.sz)
       have hpl:((y.cells.drop off).take (n*y.sz)).length=n*y.sz:=by simp;omega
       by_cases M:n+new.2.1≤cap
       ·
        have hle:(n+new.2.1)*y.sz≤cap*y.sz:=Nat.mul_le_mul_right _ M
        rw[Nat.add_mul] at hle
        have run:=run_append_room_src (P:=P) w t tx ty el i hu hi kk (o+off) n cap vx new.2.1 us (by rw[C];exact Y.src ht F) M (fun j hj=>by
          rw[C,Yz g1];have:=Y.length;simp;omega) (fun j hj=>by
          rw[C];simp only[World.frozen?,g1]
          have h9:=Y.length
          have:=g2.at (o+off+n*y.sz+j) (by omega)
          cases fr;simp at this ⊢;omega)
        rw[C] at run
        obtain⟨cs',O,hO⟩:=OnlyBlk.setCells (k:=kk) us (o+off+n*y.sz) w cs g1
        have h9:=Y.length
        have B:=Step.move (y:={ y with dead:=true,pure:=true,cells:=[] }) (o':=o+off) (x':={ dead:=false,sealed:=false,pure:=true,taint:=y.taint||new.2.2,sz:=y.sz,cells:=(y.cells.drop off).take (n*y.sz)++new.1 }) S hb hd c2 r1 hn rfl O rfl rfl
         (by rw[List.length_append,hpl,G];omega) ⟨fun _=>by
          show RepCs (J (y.taint||new.2.2)) w ((y.cells.drop off).take (n*y.sz)++new.1) _ 0
          rw[Df]
          intro j q hj
          rw[List.getElem?_append,hpl] at hj
          simp only[Nat.zero_add]
          by_cases hjn:j<n*y.sz
          ·rw[if_pos hjn] at hj
           obtain⟨v,U,hvr⟩:=hpure.at hj
           refine⟨v,?_,RepC.keep (J:=J y.taint) (w:=w) (gk S.jft _ _) (fun _ _=>rfl) hvr⟩
           rw[hO,if_neg (by omega),Nat.add_assoc];exact U
          ·rw[if_neg hjn] at hj
           obtain⟨v,U,hvr⟩:=T.at hj
           refine⟨v,?_,hvr⟩
           have:j - n*y.sz<us.length:=(List.getElem?_eq_some_iff.1 U).1
           rw[hO,if_pos (by omega),←U];congr 1;omega,fun hp=>by simp at hp⟩ hmp
        refine⟨_,_,run,J,(fun b=>if b=nid d then some (kk,o+off) else β b),?_,?_⟩
        ·rw[C1,L];exact B
        ·rw[C1,L,Rep]
         refine⟨_,_,cap,⟨by simp[V4,At,Ai];rfl,rfl⟩,rfl,M,.inr ⟨kk,o+off,rfl,.inr ⟨by simp,?_,?_⟩⟩⟩
         ·rw[H0 O.new,O.sz];simp;omega
         ·simp only[List.length_append,hpl,G,h9,Nat.zero_add];rw[Nat.add_mul];exact Nat.le_refl _
       ·
        obtain⟨olds,l1,l2,l3⟩:=hpure.list
        obtain⟨u,w',g1',g2',g3'⟩:=Acp (ty:=ty) (c1:=(y.cells.drop off).take (n*y.sz)) (olds:=olds) (n1:=n) (cap0:=cap) (A:=some ⟨kk,o+off,none⟩) kill.sim hkn hu hi hiz C (by rw[e1,C]) (fun w' he =>
          run_firstCells_some (P:=P) w' y.sz n _ n cap olds (by rw[l1,hpl]) (fun j v U=>by
           rw[he,Addr.add_mid,Yz g1,Nat.add_assoc];exact l2 j v U)) (by rw[l1,hpl]) Y ht F
          (RepCs.keep (J:=J y.taint) (w:=w) (gk S.jft _ _) (fun _ _=>rfl) (fun _=>rfl) l3) l1.symm T G (by omega) (by omega) (by rw[←hb'] at q2;exact q2)
        refine⟨u,w',g1',OpDone.after (ups:=[(b,none)]) (by rw[L];exact kill) ?_ g3'⟩
        rw[L];exact g2'
  ·simp at D
 ·simp at hh
end
end Gx

namespace Gx
open Go
section
variable {R:Type} {r:R} {P:Program} {J J':Bool→Nat→Prop} {β:C8} {h:Am} {w w':World} {g:Cb}
theorem Step.retaint (S:SimH J β h w) {d:Nat} {x:Blk} (hx:Au h d=some x) (V:x.dead=false) (hs:x.sealed=false) (hp:x.pure=true) (Y:x.mp=false) (o:Bool) :
  Step J β h w J β (G9 h d { x with taint:=x.taint||o }) w:=by
 have E:Ext J β h w J β (G9 h d { x with taint:=x.taint||o }) w:=by
  refine⟨fun _ _ T=>T,fun o k T=>rfl,fun b z C=>?_,fun b k o U=>Nat.le_refl _⟩
  by_cases e:b=d
  ·subst e;rw[hx] at C;simp at C;subst C
   exact⟨{ x with taint:=x.taint||o },⟨by rw[Ai,if_pos rfl],rfl⟩,.inr ⟨V,rfl,rfl,fun _=>rfl⟩⟩
  ·refine⟨z,⟨by rw[Ai,if_neg e];exact C,rfl⟩,?_⟩
   cases V:z.dead
   ·exact .inr ⟨rfl,rfl,rfl,fun _=>rfl⟩
   ·exact .inl rfl
 refine⟨E,⟨S.jlt,S.jft,fun b z C D hm=>?_,fun b z C D hm=>by
   rw[Ai] at C
   by_cases e:b=d
   ·rw[if_pos e] at C;simp at C;subst C;simp[Y] at hm
   ·rw[if_neg e] at C
    exact(S.mblk b z C D hm).keep rfl (fun k o U=>rfl) (fun _ _ _ _ T=>T),?_⟩,rfl,rfl,rfl,Nat.le_refl _,fun k hk _=>rfl,?_,fun _ _ T=>.inl T⟩
 ·rw[Ai] at C
  by_cases e:b=d
  ·rw[if_pos e] at C;simp at C;subst C;subst e
   rcases S.blk b x hx V Y with F | ⟨k,o',G,I,L,F,h2,h3,h4,h5,h6,h7⟩
   ·exact .inl F
   ·refine .inr ⟨k,o',G,I,L,F,h2,h3,h4,CellsRep.ext E ⟨fun _=>?_,fun hh=>?_⟩,fun _=>h6 hs,fun hh=>by simp[hs] at hh⟩
    ·exact RepCs.keep (J:=J x.taint) (w:=w) (gk S.jft _ _) (fun _ _=>rfl) (fun _=>rfl) (h5.1 hp)
    ·simp[hp] at hh
  ·rw[if_neg e] at C
   rcases S.blk b z C D hm with F | ⟨k,o,G,I,L,F,h2,h3,h4,h5,h6,h7⟩
   ·exact .inl F
   ·exact .inr ⟨k,o,G,I,L,F,h2,h3,h4,h5.ext E,h6,h7⟩
 ·intro b b' z z' k oo oo' C hb' hd1 hd2 M U hβ'
  have get:∀ {c y},Au (G9 h d { x with taint:=x.taint||o }) c=some y→y.dead=false→∃ y',Au h c=some y'∧y'.dead=false∧(y.sealed=false→y'.sealed=false):=by
   intro c y hc hyd
   rw[Ai] at hc
   by_cases e:c=d
   ·subst e;exact⟨x,hx,V,fun _=>hs⟩
   ·rw[if_neg e] at hc;exact⟨y,hc,hyd,id⟩
  obtain⟨y1,g1,g2,g3⟩:=get C hd1
  obtain⟨y2,g4,g5,g6⟩:=get hb' hd2
  exact S.sep b b' y1 y2 k oo oo' g1 g4 g2 g5 (g3 M) U hβ'
 ·rintro k ⟨b,z,o,C,D,M,U⟩ hk
  rw[Ai] at C
  by_cases e:b=d
  ·subst e;exact⟨b,x,o,hx,V,hs,U⟩
  ·rw[if_neg e] at C
   exact⟨b,z,o,C,D,M,U⟩
theorem A1c (c:LA) (off:Nat):C0 c off []=c:=by simp[C0]
theorem Awq {t tx ty:TypeId} {s x:AV} {vs vx:Value} {k:AV→Ip→O R} (S:SimH J β h w) (hl:Looks g h) (hh:Aoi P g t s x k=some r) (hs:Rep J β h w s vs) (hx:Rep J β h w x vx) :
  ∃ val ups,k val ups=some r∧∃ u w',(Builtin.copy_ #[t,tx] ty #[vs,vx]).run P w=.ok u w'∧OpDone J β h w ups val u w':=by
 unfold Aoi at hh
 split at hh
 ·rename_i el b off n G
  obtain⟨sz,F,h1⟩:=ub hh
  obtain⟨y,hy,h2⟩:=ub h1
  obtain⟨new,us,h3,Y,hul,I⟩:=TK (P:=P) S hl h2 hx
  obtain⟨hc,h4⟩:=uc h3
  simp at hc
  obtain⟨c1,c2,c3⟩:=hc
  subst c3
  obtain⟨hb,hd⟩:=Py hl hy
  have hone:=RepCs.one I hul.symm
  refine⟨_,_,h4,?_⟩
  rw[Rep] at hs
  obtain⟨y',A,cap,⟨L,M⟩,rfl,hcap,hr⟩:=hs
  rw[hb] at L;simp at L;subst L
  have hm:Nat.min new.2.1 n≤new.2.1:=Nat.min_le_left _ _
  have C:=Y.cells w (Nat.min new.2.1 n) (fun _=>rfl) hm
  have D:=Y.len w
  by_cases U:Nat.min new.2.1 n*y.sz=0
  ·
   refine⟨.int .i64 (Nat.min new.2.1 n:Nat),w,?_,J,β,?_,by rw[Rep]⟩
   ·have e:us.take (Nat.min new.2.1 n*y.sz)=[]:=by rw[U];rfl
    rw[e] at C
    cases A with
    | none=>simp[Builtin.copy_,run_underlying G,D,Ff F,C,goInt]
    | some a=>simp[Builtin.copy_,run_underlying G,D,Ff F,C,goInt,storeCells]
   ·have e:(new.1.take (min new.2.1 n*y.sz))=[]:=by
     have:min new.2.1 n*y.sz=0:=U
     rw[this];rfl
    have T:=Step.retaint S hb hd c2 c1 M new.2.2
    simp only[At]
    rw[e,A1c]
    exact T
  ·rcases hr with hr | ⟨kk,o,rfl,hr⟩
   ·have:n=0:=by omega
    subst this;simp at U
   ·rcases hr with hr | ⟨r1,r2,r3⟩
    ·simp[hd] at hr
    ·rcases S.blk b y hb hd M with⟨hn',_⟩ | ⟨k',o',cs,ty',fr,V,g1,g2,g3,g4,g5,g6⟩
     ·rw[r1] at hn';simp at hn'
     ·rw[r1] at V;simp at V;obtain⟨rfl,rfl⟩:=V
      have hle1:Nat.min new.2.1 n*y.sz≤new.2.1*y.sz:=Nat.mul_le_mul_right _ hm
      have hle2:Nat.min new.2.1 n*y.sz≤n*y.sz:=Nat.mul_le_mul_right _ (Nat.min_le_right _ _)
      have hul':=Y.length
      have htl:(us.take (Nat.min new.2.1 n*y.sz)).length=Nat.min new.2.1 n*y.sz:=by rw[List.length_take];omega
      have htl':(new.1.take (Nat.min new.2.1 n*y.sz)).length=Nat.min new.2.1 n*y.sz:=by rw[List.length_take];omega
      obtain⟨cs',O,hO⟩:=OnlyBlk.setCells (k:=kk) (us.take (Nat.min new.2.1 n*y.sz)) (o+off) w cs g1
      have hst:=run_storeCells_cells (P:=P) kk (o+off) (us.take (Nat.min new.2.1 n*y.sz)) 0 w (fun j hj=>by
        rw[Nat.add_zero,Yz g1];simp;omega)
       (fun j hj=>by
        rw[Nat.add_zero];simp only[World.frozen?,g1]
        have:=g2.at (o+off+j) (by omega)
        cases fr;simp at this ⊢;omega) (fun u G=>hone u (List.mem_of_mem_take G))
      simp only[Nat.add_zero] at hst
      have B:=Step.set (x':={ y with cells:=C0 y.cells off (new.1.take (Nat.min new.2.1 n*y.sz)),taint:=y.taint||new.2.2 }) S hb hd c2 r1 O hd c2 rfl (MX (by omega)) ⟨fun _=>by
       show RepCs (J (y.taint||new.2.2)) w (C0 y.cells off (new.1.take (Nat.min new.2.1 n*y.sz))) _ 0
       rw[Df]
       intro j q hj
       rw[mN (by omega),htl'] at hj
       simp only[Nat.zero_add]
       split at hj
       ·obtain⟨u,hu',hr⟩:=(I.take _).at hj
        refine⟨u,?_,RepC.keep (J:=J new.2.2) (w:=w) (Acq S.jft _ _) (fun _ _=>rfl) hr⟩
        rw[hO,if_pos (by omega),List.getElem?_take,if_pos (by omega),←hu'];congr 1;omega
       ·obtain⟨u,hu',hr⟩:=(g4.1 c1).at hj
        refine⟨u,?_,RepC.keep (J:=J y.taint) (w:=w) (gk S.jft _ _) (fun _ _=>rfl) hr⟩
        rw[hO,if_neg (by omega)];exact hu',fun hp=>by simp[c1] at hp⟩ M
      refine⟨.int .i64 (Nat.min new.2.1 n:Nat),_,?_,J,β,B,by rw[Rep]⟩
      simp[Builtin.copy_,run_underlying G,D,Ff F,C,goInt,hst]
 ·rename_i el G
  obtain⟨sz,F,h1⟩:=ub hh
  obtain⟨new,us,h2,Y,hul,I⟩:=TK (P:=P) S hl h1 hx
  rw[Rep] at hs;subst hs
  have D:=Y.len w
  have C:=Y.cells w 0 (fun _=>rfl) (Nat.zero_le _)
  simp at C
  refine⟨_,_,h2,.int .i64 0,w,?_,J,β,Step.refl S,by rw[Rep]⟩
  have hm:∀ m:Nat,Nat.min m 0=0:=fun m=>Nat.min_eq_right (Nat.zero_le _)
  simp[Builtin.copy_,run_underlying G,D,Ff F,hm,C,goInt]
 ·simp at hh
theorem Alq:∀ {c:LA} {s:List UInt8} {us:List Value} {J:Nat→Prop},Abz c=some s→RepCs J w c (fun j=>us[j]?) 0→c.length=us.length →
  ∃ ns:List Int,us=ns.map (Value.int .u8)∧s=ns.map (fun n=>UInt8.ofNat n.toNat)
 | [],s,us,J,F,I,L=>by
  simp[Abz] at F;subst F
  have:us=[]:=by cases us<;>simp_all
  exact⟨[],by simp[this],rfl⟩
 | x::r,s,us,J,F,I,L=>by
  rw[Abz] at F
  obtain⟨b,k,V⟩:=ub F
  obtain⟨l,M,T⟩:=ub V
  simp at T;subst T
  cases us with
  | nil=>simp at L
  | cons u us =>
   rw[RepCs] at I
   obtain⟨⟨u',G,hr⟩,C⟩:=I
   simp at G;subst G
   unfold A95 at k
   split at k
   ·rename_i n
    simp at k;subst k
    rw[RepC] at hr;subst hr
    have D:RepCs J w r (fun j=>us[j]?) 0:=by
     rw[Df] at C ⊢
     intro j y Y
     obtain⟨v,U,S⟩:=C j y Y
     refine⟨v,?_,S⟩
     rw[show 0+1+j=j+1 by omega] at U
     simpa using U
    obtain⟨ns,h3,h4⟩:=Alq M D (by simpa using L)
    exact⟨n::ns,by simp[h3],by simp[h4]⟩
   ·simp at k
theorem Bev:∀ (ns:List Int) (s:List UInt8),(ns.foldl (fun r n=>r.push (UInt8.ofNat n.toNat)) (⟨⟨s⟩⟩:ByteArray))=⟨⟨s++ns.map fun n=>UInt8.ofNat n.toNat⟩⟩
 | [],s=>by simp
 | n::r,s=>by
  rw[List.foldl_cons]
  have:(⟨⟨s⟩⟩:ByteArray).push (UInt8.ofNat n.toNat)=⟨⟨s++[UInt8.ofNat n.toNat]⟩⟩:=by
   simp[ByteArray.push]
  rw[this,Bev r];simp
theorem Awr {d:Nat} {src dst:TypeId} {x:AV} {vx:Value} {k:AV→Ip→O R} (S:SimH J β h w) (T:Looks g h) (D:Aoj P g d src dst x k=some r) (F:Rep J β h w x vx) :
  ∃ val ups,k val ups=some r∧(UpsFree d h ups→∃ u w',(convert src dst vx).run P w=.ok u w'∧OpDone J β h w ups val u w'):=by
 unfold Aoj at D
 split at D
 ·rename_i G I
  split at D
  ·rename_i L n
   rw[Rep] at F;subst F
   obtain⟨C,M⟩:=uc D
   obtain⟨s,hs⟩:=Option.isSome_iff_exists.1 C
   refine⟨_,_,M,fun _=>⟨.int G (G.wrap n),w,?_,J,β,Step.refl S,by rw[Rep]⟩⟩
   cases s<;>simp[convert,run_underlying hs,run_underlying I,Conv.intToInt]
  ·simp at D
 ·simp at D
end
end Gx

namespace Gx
open Go
def cG (CR:AV→Value→Prop) (c:LA) (cs:List Value):Prop:=c.length=cs.length∧∀ (j:Nat) (x:AV) (u:Value),c[j]?=some x→cs[j]?=some u→CR x u
def PartsRel (CR:AV→Value→Prop):List (Nat×LA)→List (Nat×Value)→Prop
 | [],vs=>vs=[]
 | (i,c)::r,vs=>∃ v vs',vs=(i,v)::vs'∧cG CR c v.cells.toList∧PartsRel CR r vs'
theorem A5e:∀ (vs:List Value) (n off:Nat) (cells:Array Value) (j:Nat),
  ((vs.zipIdx n).foldl (fun (cs:Array Value) (p:Value×Nat)=>cs.setIfInBounds (off+p.2) p.1) cells)[j]?=if off+n≤j∧j<off+n+vs.length∧j<cells.size then vs[j - (off+n)]? else cells[j]?
 | [],n,off,cells,j=>by simp;omega
 | v::r,n,off,cells,j=>by
  rw[List.zipIdx_cons,List.foldl_cons,A5e r (n+1) off]
  simp only[Array.size_setIfInBounds,List.length_cons]
  by_cases C:j=off+n
  ·subst C
   rw[if_neg (by omega)]
   by_cases k:off+n<cells.size
   ·rw[if_pos (by omega)];simp[k]
   ·rw[if_neg (by omega)];simp[k]
  ·by_cases k:off+(n+1)≤j∧j<off+(n+1)+r.length∧j<cells.size
   ·rw[if_pos k,if_pos (by omega),show j - (off+n)=(j - (off+(n+1)))+1 by omega];simp
   ·rw[if_neg k,if_neg (by omega),Array.getElem?_setIfInBounds_ne (by omega)]
theorem oV:∀ (vs:List Value) (n off:Nat) (cells:Array Value),((vs.zipIdx n).foldl (fun (cs:Array Value) (p:Value×Nat)=>cs.setIfInBounds (off+p.2) p.1) cells).size=cells.size
 | [],_,_,_=>rfl
 | v::r,n,off,cells=>by rw[List.zipIdx_cons,List.foldl_cons,oV r];simp
theorem cH {CR:AV→Value→Prop} {place:Nat→Option (Nat×Nat)}:∀ {parts:List (Nat×LA)} {vparts:List (Nat×Value)} {c c':LA} {cs:Array Value},PartsRel CR parts vparts→cG CR c cs.toList →
  V5 place parts c=some c'→∃ k,Instr.fill place cs vparts=some k∧cG CR c' k.toList
 | [],vparts,c,c',cs,F,L,G=>by
  rw[PartsRel] at F;subst F
  simp[V5] at G;subst G
  exact⟨cs,rfl,L⟩
 | (i,vs)::r,vparts,c,c',cs,F,L,G=>by
  rw[PartsRel] at F
  obtain⟨v,V,rfl,T,hr⟩:=F
  rw[V5] at G
  obtain⟨p,S,Y⟩:=ub G
  obtain⟨U,h2⟩:=uc Y
  simp at U
  obtain⟨b1,b2⟩:=U
  have e1:vs.length=v.cells.size:=by have:=T.1;simpa using this
  have e2:c.length=cs.size:=by have:=L.1;simpa using this
  have I:p.1+vs.length≤c.length:=by omega
  have key:cG CR (setCells c p.1 vs) (v.cells.zipIdx.foldl (fun (cs:Array Value) (q:Value×Nat)=>cs.setIfInBounds (p.1+q.2) q.1) cs).toList:=by
   have C:v.cells.zipIdx.foldl (fun (cs:Array Value) (q:Value×Nat)=>cs.setIfInBounds (p.1+q.2) q.1) cs=(v.cells.toList.zipIdx 0).foldl (fun (cs:Array Value) (q:Value×Nat)=>cs.setIfInBounds (p.1+q.2) q.1) cs:=by
    rw[←Array.foldl_toList];simp
   rw[C]
   refine⟨by rw[AE I,e2];exact(oV _ 0 _ _).symm,fun j x u M D=>?_⟩
   rw[TL I] at M
   rw[Array.getElem?_toList,A5e] at D
   simp only[Nat.add_zero,Array.length_toList] at D
   split at M
   ·rename_i hj
    rw[if_pos (by omega)] at D
    exact T.2 _ x u M D
   ·rename_i hj
    rw[if_neg (by omega)] at D
    exact L.2 j x u M (by simpa using D)
  obtain⟨k,g1,g2⟩:=cH hr key h2
  refine⟨k,?_,g2⟩
  rw[Instr.fill,S]
  have:¬ (v.cells.size≠p.2||p.1+v.cells.size>cs.size)=true:=by simp;omega
  simp only[this]
  exact g1
section
variable {R:Type} {r:R} {P:Program} {J J':Bool→Nat→Prop} {β:C8} {h:Am} {w w':World} {g:Cb}
def RepParts (J:Bool→Nat→Prop) (β:C8) (h:Am) (w:World):List (Nat×AV)→List (Nat×Value)→Prop
 | [],vs=>vs=[]
 | (i,x)::r,vs=>∃ v vs',vs=(i,v)::vs'∧Rep J β h w x v∧RepParts J β h w r vs'
theorem RepParts.ext {β':C8} {h':Am} (E:Ext J β h w J' β' h' w'):∀ {ps:List (Nat×AV)} {vs:List (Nat×Value)},RepParts J β h w ps vs→RepParts J' β' h' w' ps vs
 | [],_,hr=>hr
 | (i,x)::r,vs,hr=>by
  rw[RepParts] at hr ⊢
  obtain⟨v,k,e,C,D⟩:=hr
  exact⟨v,k,e,Rep.ext E C,RepParts.ext E D⟩
theorem PartsRel.mono {CR CR':AV→Value→Prop} (C:∀ x u,CR x u→CR' x u):∀ {ps:List (Nat×LA)} {vs:List (Nat×Value)},PartsRel CR ps vs→PartsRel CR' ps vs
 | [],_,hr=>hr
 | (i,c)::r,vs,hr=>by
  rw[PartsRel] at hr ⊢
  obtain⟨v,k,e,D,F⟩:=hr
  exact⟨v,k,e,⟨D.1,fun j x u G I=>C _ _ (D.2 j x u G I)⟩,PartsRel.mono C F⟩
theorem MY {J:Nat→Prop} {c:LA} {us:List Value} (C:RepCs J w c (fun j=>us[j]?) 0) (D:c.length=us.length):cG (RepC J w) c us :=
 ⟨D,fun j x u F G=>by
  obtain⟨I,k,hr⟩:=C.at F
  rw[G] at k;simp at k;subst k;exact hr⟩
theorem jO {J:Nat→Prop} {c:LA} {us:List Value} (k:cG (RepC J w) c us):RepCs J w c (fun j=>us[j]?) 0:=by
 rw[Df]
 intro j x C
 have:j<us.length:=by rw[←k.1];exact(List.getElem?_eq_some_iff.1 C).1
 exact⟨us[j],by simp[this],k.2 j x _ C (List.getElem?_eq_getElem this)⟩
theorem XI:∀ {ps:List (Nat×AV)} {vs:List (Nat×Value)} {q:List (Nat×LA)} {ups:Ip} {org:Bool} {J:Bool→Nat→Prop} {h:Am},SimH J β h w→LooksS g h→OB g ps=some (q,ups,org)→RepParts J β h w ps vs →
  ∃ J',Step J β h w J' β (At ups h) w∧PartsRel (RepC (J' org) w) q vs∧LooksS g (At ups h)∧∀ b,Bj ups b=true→∃ x,g b=some x
 | [],vs,q,ups,org,J,h,S,I,C,D=>by
  simp[OB] at C;obtain⟨rfl,rfl,rfl⟩:=C
  rw[RepParts] at D
  exact⟨J,Step.refl S,by rw[PartsRel];exact D,I,fun b F=>by simp[Bj] at F⟩
 | (i,x)::r,vs,q,ups,org,J,h,S,I,C,D=>by
  rw[OB] at C
  obtain⟨⟨c1,u1,o1⟩,hp,h1⟩:=ub C
  obtain⟨⟨q2,u2,o2⟩,hq,h2⟩:=ub h1
  simp at h2
  obtain⟨rfl,rfl,rfl⟩:=h2
  rw[RepParts] at D
  obtain⟨v,L,rfl,M,T⟩:=D
  obtain⟨J1,A,hA,G,U⟩:=XH S I hp M
  obtain⟨J2,B,hB,V,Y⟩:=XI A.sim U hq (RepParts.ext A.ext T)
  refine⟨J2,by rw[C1];exact A.trans B (fun _ _ _ _=>Nat.le_refl _),?_,by rw[C1];exact V,fun b F=>?_⟩
  ·rw[PartsRel]
   refine⟨v,L,rfl,MY (RepCs.keep (J:=J1 o1) (w:=w) (fun k hk=>gk B.sim.jft _ _ k (B.ext.jsub _ k hk)) (fun _ _=>rfl) (fun _=>rfl) hA) G,?_⟩
   exact PartsRel.mono (fun x u hx=>RepC.keep (J:=J2 o2) (w:=w) (fun k hk=>Acq B.sim.jft _ _ k hk) (fun _ _=>rfl) hx) hB
  ·rw[P0] at F
   cases h3:Bj u1 b with
   | true=>exact Alo hp b h3
   | false=>rw[h3] at F;exact Y b (by simpa using F)
theorem OG {place:Nat→Option (Nat×Nat)} {k:LA→O R}:∀ (ps:List (Nat×LA)) (c:LA),Acf place ps c k=(V5 place ps c).bind k
 | [],c=>rfl
 | (i,vs)::r,c=>by
  rw[Acf,V5,Option.bind_assoc]
  congr 1;funext p
  rw[OG r]
  cases (Nat.beq vs.length p.2&&Nat.ble (p.1+p.2) c.length)<;>rfl
theorem oW {d len:Nat} {t:TypeId} {ps:List (Nat×AV)} {vs:List (Nat×Value)} {k:AV→Ip→O R} (S:SimH J β h w) (hl:Looks g h) (T:Tn P g d t len ps k=some r) (hv:RepParts J β h w ps vs) :
  ∃ val ups,k val ups=some r∧(UpsFree d h ups→∃ u w',(Instr.buildSlice t len vs.toArray).run P w=.ok u w'∧OpDone J β h w ups val u w'):=by
 unfold Tn at T
 split at T
 ·rename_i el hu
  obtain⟨sz,C,h1⟩:=ub T
  obtain⟨zz,hz,h2⟩:=ub h1
  obtain⟨⟨q,u1,o1⟩,hq,h3⟩:=ub h2
  obtain⟨hb,h4⟩:=uc h3
  rw[OG] at h4
  obtain⟨cells,hc,h5⟩:=ub h4
  simp at hb
  obtain⟨i,z,hi,U,rfl,V,e1,e2⟩:=TN hz
  have D:i.size=sz:=by simp[D1,hi] at C;exact C
  refine⟨_,_,h5,fun hn=>?_⟩
  replace hn:=hn.nid (by simp[P0,V4,Bj])
  obtain⟨J1,A,hA,_,I⟩:=XI S hl.s hq hv
  have Y:=Aco (w:=w) (J:=J1 o1) V len (len*sz) (by rw[e1,D];exact Nat.le_refl _)
  have hz1:cG (RepC (J1 o1) w) (Rb len (Ug z.cells.toList)) (madeCells z.cells (len*sz)).toList:=by
   refine MY (RepCs.keep (J:=J1 o1) (w:=w) (fun _ hk=>hk) (fun _ _=>rfl) (fun j=>by simp) Y) ?_
   rw[R8,e2,D,Array.length_toList,size_madeCells]
  obtain⟨F,f1,f2⟩:=cH hA hz1 hc
  have L:cells.length=len*sz:=by
   have:∀ {ps:List (Nat×LA)} {c c':LA},V5 (fun i=>some (i*sz,sz)) ps c=some c'→c'.length=c.length:=by
    intro ps
    induction ps with
    | nil=>intro c c' M;simp[V5] at M;rw[M]
    | cons p r ih =>
     intro c c' M
     obtain⟨i,vs⟩:=p
     rw[V5] at M
     obtain⟨p,hpl,g1⟩:=ub M
     obtain⟨gb,g2⟩:=uc g1
     simp at gb
     rw[ih g2,AE (by omega)]
   rw[this hc,R8,e2,D]
  have hcs:F.size=len*sz:=by have:=f2.1;simp at this;omega
  refine⟨.slice (some ⟨w.heap.size,0,none⟩) len len,w.alloc (.cells F el),?_,?_⟩
  ·have G:Instr.fill (fun i=>some (i*sz,sz)) ((Array.range (len*sz)).map (z.cells[·%z.cells.size]!)) vs=some F:=f1
   have hnb:¬ (16777216<len*sz):=by omega
   by_cases h0:len*sz=0
   ·have hme:∀ (a:Array Value),(Array.range (len*sz)).map (a[·%a.size]!)=#[]:=fun a=>by rw[h0];simp[Array.range_zero']
    rw[hme] at G
    simp[Instr.buildSlice,run_underlying hu,Ff C,h0,Array.range_zero',G,newRow]
   ·simp[Instr.buildSlice,run_underlying hu,Ff C,hnb,h0,zeroValue,typeInfo,hi,U,G,newRow]
  ·refine OpDone.after A (Asj (sz:=sz) (fr:=(0,0)) A.sim (A5d hl I hn) rfl rfl rfl (.inl rfl) L (by omega) (Nat.le_refl _) ⟨fun _=>?_,fun V=>by simp at V⟩) (EX _ _)
   have:=jO f2
   exact RepCs.keep (J:=J1 o1) (w:=w) (fun _ hk=>hk) (fun _ _=>rfl) (fun j=>by simp) this
 ·simp at T
theorem mP {t:TypeId} {ps:List (Nat×AV)} {k:AV→O R}:Ar5 P t ps k=(Ar4 P t ps).bind k:=by
 unfold Ar5 Ar4
 rw[Option.bind_assoc]
 congr 1;funext place
 cases (ps.all fun p=>b7 p.2) with
 | false=>rfl
 | true =>
  simp only[cond_true]
  cases (ps.any fun p=>TF p.2) with
  | true =>
   simp only[cond_true]
   cases (ps.any fun p=>Acg p.2) with
   | true =>
    simp only[cond_true]
    rw[Option.bind_assoc]
    congr 1;funext z
    rw[OG]
    cases V5 place (Lq ps) z<;>rfl
   | false =>
    simp only[cond_false]
    rw[Option.bind_assoc]
    congr 1;funext z
    rw[OG]
    cases V5 place (Gm ps) z<;>rfl
  | false =>
   simp only[cond_false]
   rw[Option.bind_assoc]
   congr 1;funext z
   rw[OG]
   cases V5 place (Gm ps) z<;>rfl
theorem Bf6 {x:AV} {u:Value} (hr:RepC (fun _=>False) w x u):Rep J β h w x u:=by
 have k:∀ o:Bool,RepC (J o) w x u:=fun o=>RepC.keep (J:=fun _=>False) (w:=w) (fun _ C=>C.elim) (fun _ _=>rfl) hr
 cases x
 case imm c n sz t org=>rw[Rep];exact k org
 case iptr c org=>rw[Rep];exact k org
 case fn f c =>
  cases c with
  | nil=>rw[RepC] at hr;subst hr;rw[Rep];exact⟨[],by simp,by rw[Reps]⟩
  | cons a l=>simp[RepC] at hr
 all_goals first | (rw[RepC] at hr;rw[Rep];exact hr) | simp[RepC] at hr
theorem tQ {d len:Nat} {t:TypeId} {ps:List (Nat×AV)} {vs:List (Nat×Value)} {k:AV→Ip→O R} (S:SimH J β h w) (C:Ws P g d t len ps k=some r) (D:RepParts J β h w ps vs) :
  ∃ val ups,k val ups=some r∧(UpsFree d h ups→∃ u w',(Instr.buildSlice t len vs.toArray).run P w=.ok u w'∧OpDone J β h w ups val u w'):=by
 unfold Ws at C;cases C
theorem MZ {d:Nat}:∀ {l:List (Nat×Nat)} {j:Nat} {c:LA} {cs:List Value} {β:C8} {h:Am},SimH J β h w→1≤j→j+l.length≤16→(∀ i,j≤i→i<16→Bj (Pw d l j c).2 (nid d+i)=true→Au h (nid d+i)=none)→Reps J β h w c cs →
  ∃ β',Step J β h w J β' (At (Pw d l j c).2 h) w∧Reps J β' (At (Pw d l j c).2 h) w (Pw d l j c).1 cs
 | [],j,c,cs,β,h,S,_,_,_,hr=>⟨β,Step.refl S,hr⟩
 | (o,sz)::l,j,c,cs,β,h,S,hj,U,F,hr=>by
  rw[Pw] at F ⊢
  split
  ·rename_i G
   simp only[G] at F
   simp at U
   have h1:Au h (nid d+j)=none:=F j (Nat.le_refl _) (by omega) (by simp[Bj])
   have A:=Step.newNone S (d:=nid d+j) (x:=G4 sz) h1 rfl
   have k:=Reps.ext A.ext hr
   rw[C9] at k
   have L:Reps J (fun b=>if b=nid d+j then none else β b) (G9 h (nid d+j) (G4 sz)) w (c.set o (.own (nid d+j) 0 0)) cs:=by
    rw[C9]
    refine⟨by rw[k.1];simp,fun i y u I V=>?_⟩
    by_cases hi:i=o
    ·subst hi
     have M:i<c.length:=(List.getElem?_eq_some_iff.1 G).1
     rw[List.getElem?_set_self M] at I;simp at I;subst I
     have Y:=k.2 i _ u G V
     rw[Rep] at Y;subst Y
     rw[Rep]
     exact⟨G4 sz,none,0,⟨by simp[Ai],rfl⟩,rfl,Nat.le_refl _,.inl rfl⟩
    ·rw[List.getElem?_set_ne (by omega)] at I
     exact k.2 i y u I V
   obtain⟨β',B,hB⟩:=MZ (d:=d) (l:=l) (j:=j+1) A.sim (by omega) (by omega) (fun i hi C D=>by
    have:=F i (by omega) C (by
     rw[Bj]
     have:Nat.beq (nid d+j) (nid d+i)=false:=iZ (by omega)
     rw[this];exact D)
    rw[Ai,if_neg (by omega)];exact this) L
   exact⟨β',by simp only[At];exact A.trans B (fun _ _ _ _=>Nat.le_refl _),by simp only[At];exact hB⟩
  ·rename_i G
   have e:Pw d ((o,sz)::l) j c=Pw d l (j+1) c:=by
    rw[Pw]
    split
    ·rename_i T;exact absurd T (G ·)
    ·rfl
   simp at U
   split at F
   ·rename_i T;exact absurd T (G ·)
   ·exact MZ S (by omega) (by omega) (fun i hi C D=>F i (by omega) C D) hr
theorem A1d {t:TypeId} {co:Bool} {d:Nat} {v:AV} {vc:Value} {k:AV→Ip→O R} (S:SimH J β h w) (C:A6s P t co d v k=some r) (D:Rep J β h w v vc) :
  ∃ val ups,k val ups=some r∧(UpsFree d h ups→OpDone J β h w ups val vc w):=by
 unfold A6s at C
 split at C
 ·rename_i c
  obtain⟨G,I⟩:=uc C
  refine⟨_,_,I,fun L=>?_⟩
  rw[Rep] at D
  obtain⟨cs,rfl,hr⟩:=D
  obtain⟨β',A,hA⟩:=MZ (d:=d) (l:=oI P t) (j:=1) S (Nat.le_refl _) (by simp at G;omega) (fun i hi M F=>L _ F (by unfold XF;simp;omega)) hr
  exact⟨J,β',A,by rw[Rep];exact⟨cs,rfl,hA⟩⟩
 ·exact⟨_,_,C,fun _=>⟨J,β,Step.refl S,D⟩⟩
theorem vt {x:AV} {v:Value} (k:Rep J β h w x v) (I:TF x=false) (D:b7 x=true):cG (Rep J β h w) (cellsOf x) v.cells.toList:=by
 have one:v.cells=#[v]→cellsOf x=[x]→cG (Rep J β h w) (cellsOf x) v.cells.toList:=fun L C=>by
  rw[L,C]
  refine⟨rfl,fun j y u F G=>?_⟩
  cases j with
  | zero=>simp at F G;subst F G;exact k
  | succ j=>simp at F
 cases x
 case pagg=>simp[TF] at I
 case agg c =>
  rw[Rep] at k
  obtain⟨cs,rfl,C⟩:=k
  rw[C9] at C
  exact⟨C.1.symm,C.2⟩
 case tup c=>simp[b7] at D
 case undef=>simp[b7] at D
 case omap=>simp[b7] at D
 case own=>rw[Rep] at k;obtain⟨_,A,cap,_,rfl,_⟩:=k;exact one rfl rfl
 case optr=>rw[Rep] at k;obtain⟨_,kk,o,_,rfl,_⟩:=k;exact one rfl rfl
 case fn=>rw[Rep] at k;obtain⟨cs,rfl,_⟩:=k;exact one rfl rfl
 case imm=>rw[Rep,RepC] at k;obtain⟨_,A,cap,rfl,_⟩:=k;exact one rfl rfl
 case iptr=>rw[Rep,RepC] at k;obtain⟨a,rfl,_⟩:=k;exact one rfl rfl
 all_goals (rw[Rep] at k;subst k;exact one rfl rfl)
theorem Aor {x:AV} {v:Value} (F:∀ k,J false k→J true k) (D:Rep J β h w x v) (hr:mL x=false) {o:Bool} (G:Ar3 x=true→o=true):RepC (J o) w x v:=by
 cases x<;>simp[mL] at hr
 case imm c n sz t org =>
  rw[Rep] at D
  refine RepC.keep (J:=J org) (w:=w) (fun k C=>?_) (fun _ _=>rfl) D
  cases org
  ·cases o
   ·exact C
   ·exact F k C
  ·rw[G rfl];exact C
 case iptr c org =>
  rw[Rep] at D
  refine RepC.keep (J:=J org) (w:=w) (fun k C=>?_) (fun _ _=>rfl) D
  cases org
  ·cases o
   ·exact C
   ·exact F k C
  ·rw[G rfl];exact C
 all_goals (rw[Rep] at D;rw[RepC];exact D)
theorem Asl {x:AV} {v:Value} (I:∀ k,J false k→J true k) (F:Rep J β h w x v) (hr:Acg x=false) {o:Bool} (L:vf x=true→o=true):cG (RepC (J o) w) (cellsOf x) v.cells.toList:=by
 have one:mL x=false→cellsOf x=[x]→vf x=Ar3 x→cG (RepC (J o) w) (cellsOf x) v.cells.toList:=fun h0 C M=>by
  have V:=Aor (o:=o) I F h0 (by rw[←M];exact L)
  have S:v.cells=#[v]:=by have:=Acm V;cases v<;>simp_all[Value.cells,Value.oneCell']
  rw[S,C]
  refine⟨rfl,fun j y u D G=>?_⟩
  cases j with
  | zero=>simp at D G;subst D G;exact V
  | succ j=>simp at D
 cases x
 case pagg c org =>
  rw[Rep] at F
  obtain⟨cs,rfl,S,C⟩:=F
  refine MY (RepCs.keep (J:=J org) (w:=w) (fun k T=>?_) (fun _ _=>rfl) (fun j=>by simp[Value.cells]) C) (by simp[Value.cells,cellsOf,S])
  cases org
  ·cases o
   ·exact T
   ·exact I k T
  ·rw[L rfl];exact T
 case agg c =>
  rw[Rep] at F
  obtain⟨cs,rfl,C⟩:=F
  rw[C9] at C
  refine⟨C.1.symm,fun j y u D G=>?_⟩
  simp only[Acg,List.any_eq_false] at hr
  have Y:y ∈ c:=List.mem_of_getElem? D
  have U:mL y=false:=by simpa using hr y Y
  refine Aor I (C.2 j y u D G) U (fun M=>L ?_)
  rw[vf,List.any_eq_true];exact⟨y,Y,M⟩
 all_goals first | exact one hr rfl rfl | simp[Acg,mL] at hr
theorem A6x {o:Bool} {x:AV} {v:Value} (hr:RepC (J o) w x v):Rep J β h w (Awi o x) v:=by
 cases x
 case imm=>rw[Awi,Rep];rw[RepC] at hr ⊢;exact hr
 case iptr=>rw[Awi,Rep];rw[RepC] at hr ⊢;exact hr
 case fn f c =>
  cases c with
  | nil=>rw[RepC] at hr;subst hr;show Rep J β h w (.fn f []) _;rw[Rep];exact⟨[],by simp,by rw[Reps]⟩
  | cons a b=>simp[RepC] at hr
 all_goals first | (rw[RepC] at hr;unfold Awi;rw[Rep];exact hr) | (simp[RepC] at hr)
theorem A1e {x:AV} {v:Value} (D:Rep J β h w x v) (L:b7 x=true):cG (Rep J β h w) (Ach x) v.cells.toList:=by
 cases F:TF x with
 | false =>
  have:=vt D F L
  cases x<;>first | exact this | simp[TF] at F
 | true =>
  cases x<;>simp[TF] at F
  rename_i c o
  rw[Rep] at D
  obtain⟨cs,rfl,M,S⟩:=D
  refine⟨by simp[Ach,Value.cells,M],fun j y u C I=>?_⟩
  simp only[Ach,List.getElem?_map] at C
  cases G:c[j]? with
  | none=>rw[G] at C;simp at C
  | some x0 =>
   rw[G] at C;simp at C;subst C
   obtain⟨T,k,hr⟩:=S.at G
   simp[Value.cells] at I
   rw[I] at k;simp at k;subst k
   exact A6x hr
theorem cI {CR:AV→Value→Prop}:∀ {ps:List (Nat×AV)} {vs:List (Nat×Value)},RepParts J β h w ps vs→(∀ p ∈ ps,∀ v,Rep J β h w p.2 v→cG CR (Ach p.2) v.cells.toList)→PartsRel CR (Lq ps) vs
 | [],vs,hr,_=>by rw[RepParts] at hr;rw[Lq,PartsRel];exact hr
 | (i,x)::r,vs,hr,C=>by
  rw[RepParts] at hr
  obtain⟨v,k,rfl,D,F⟩:=hr
  rw[Lq,PartsRel]
  exact⟨v,k,rfl,C (i,x) (by simp) v D,cI F (fun p G=>C p (by simp[G]))⟩
theorem M_ {CR:AV→Value→Prop}:∀ {ps:List (Nat×AV)} {vs:List (Nat×Value)},RepParts J β h w ps vs→(∀ p ∈ ps,∀ v,Rep J β h w p.2 v→cG CR (cellsOf p.2) v.cells.toList)→PartsRel CR (Gm ps) vs
 | [],vs,hr,_=>by rw[RepParts] at hr;rw[Gm,PartsRel];exact hr
 | (i,x)::r,vs,hr,C=>by
  rw[RepParts] at hr
  obtain⟨v,k,rfl,D,F⟩:=hr
  rw[Gm,PartsRel]
  exact⟨v,k,rfl,C (i,x) (by simp) v D,M_ F (fun p G=>C p (by simp[G]))⟩
theorem Acr {t:TypeId} {place:Nat→Option (Nat×Nat)} {i:TypeInfo} {z:Value} {vs:List (Nat×Value)} {cs:Array Value} (k:oH P t=some place) (hi:P.info? t=some i) (F:i.zero=some z)
  (G:Instr.fill place z.cells vs=some cs):P.built t vs=some cs:=by
 unfold oH at k
 unfold Program.built
 split at k
 ·rename_i n e D
  cases C:P.info? e with
  | none=>simp[C] at k
  | some ie=>simp[C] at k;subst k;simp only[hi,D,F,C];exact G
 ·rename_i fs D
  cases C:fs.toList.mapM fun f=>(P.info? f.type).map fun i=>(f.offset,i.size) with
  | none=>rw[C] at k;simp at k
  | some pl =>
   rw[C] at k;simp at k;subst k
   simp only[hi,D,F,C]
   simpa using G
 ·simp at k
theorem Asm {t:TypeId} {ps:List (Nat×AV)} {vs:List (Nat×Value)} {v:AV} (S:SimH J β h w) (hh:Ar4 P t ps=some v) (hv:RepParts J β h w ps vs) :
  ∃ u,(Instr.build t vs.toArray).run P w=.ok u w∧Rep J β h w v u:=by
 unfold Ar4 at hh
 obtain⟨place,M,h1⟩:=ub hh
 obtain⟨hok,T⟩:=uc h1
 cases U:ps.any (fun p=>TF p.2) with
 | true =>
  rw[U] at T
  cases V:ps.any (fun p=>Acg p.2) with
  | true =>
   rw[V] at T
   obtain⟨zz,C,F⟩:=ub T
   unfold Aog at C
   obtain⟨i,hi,C⟩:=ub C
   cases D:i.zero with
   | none=>rw[D] at C;simp at C
   | some z =>
    rw[D] at C;simp at C;subst C
    cases G:V5 place (Lq ps) (Ug z.cells.toList) with
    | none=>rw[G] at F;simp at F
    | some c =>
     rw[G] at F;simp at F;subst F
     have k:PartsRel (Rep J β h w) (Lq ps) vs:=cI hv (fun p Y u hu=>A1e hu (List.all_eq_true.1 hok p Y))
     have I:cG (Rep J β h w) (Ug z.cells.toList) z.cells.toList:=by
      have:=gf (J:=J) (β:=β) (h:=h) (w:=w) z.cells.toList
      rw[C9] at this
      exact⟨this.1.symm,this.2⟩
     obtain⟨cs,f1,L⟩:=cH k I G
     refine⟨.agg cs,run_build w t vs.toArray cs (Acr M hi D (by simpa using f1)),?_⟩
     rw[Rep]
     exact⟨cs.toList,rfl,C9.2 ⟨L.1.symm,L.2⟩⟩
  | false =>
  rw[V] at T
  have h3:=T
  obtain⟨zz,C,F⟩:=ub h3
  obtain⟨i,z,hi,D,rfl,hp,e1,e2⟩:=TN C
  cases G:V5 place (Gm ps) (Ug z.cells.toList) with
  | none=>rw[G] at F;simp at F
  | some c =>
   rw[G] at F;simp at F;subst F
   have k:PartsRel (RepC (J (ps.any fun p=>vf p.2)) w) (Gm ps) vs:=M_ hv (fun p Y u hu=>Asl S.jft hu (by
     have:=List.any_eq_false.1 V p Y;simpa using this) (fun ho=>by rw[List.any_eq_true];exact⟨p,Y,ho⟩))
   have I:cG (RepC (J (ps.any fun p=>vf p.2)) w) (Ug z.cells.toList) z.cells.toList:=by
    refine⟨IS _,fun j x u hx hu=>?_⟩
    obtain⟨y,g1,g2⟩:=mO (w:=w) (J:=J (ps.any fun p=>vf p.2)) hp j u hu
    rw[hx] at g1;simp at g1;subst g1;exact g2
   obtain⟨cs,f1,L⟩:=cH k I G
   refine⟨.agg cs,run_build w t vs.toArray cs (Acr M hi D (by simpa using f1)),?_⟩
   rw[Rep]
   exact⟨cs.toList,rfl,L.1.symm,jO L⟩
 | false =>
  rw[U] at T
  obtain⟨zz,C,F⟩:=ub T
  unfold Aog at C
  obtain⟨i,hi,C⟩:=ub C
  cases D:i.zero with
  | none=>rw[D] at C;simp at C
  | some z =>
   rw[D] at C;simp at C;subst C
   cases G:V5 place (Gm ps) (Ug z.cells.toList) with
   | none=>rw[G] at F;simp at F
   | some c =>
    rw[G] at F;simp at F;subst F
    have k:PartsRel (Rep J β h w) (Gm ps) vs:=M_ hv (fun p Y u hu=>vt hu (by
      have:=List.any_eq_false.1 U p Y;simpa using this) (List.all_eq_true.1 hok p Y))
    have I:cG (Rep J β h w) (Ug z.cells.toList) z.cells.toList:=by
     have:=gf (J:=J) (β:=β) (h:=h) (w:=w) z.cells.toList
     rw[C9] at this
     exact⟨this.1.symm,this.2⟩
    obtain⟨cs,f1,L⟩:=cH k I G
    refine⟨.agg cs,run_build w t vs.toArray cs (Acr M hi D (by simpa using f1)),?_⟩
    rw[Rep]
    exact⟨cs.toList,rfl,C9.2 ⟨L.1.symm,L.2⟩⟩
end
end Gx

namespace Gx
open Go
section
variable {R:Type} {r:R} {P:Program} {J:Bool→Nat→Prop} {β:C8} {h:Am} {w:World}
def PRd (n:Nat) (x:LA) (rd:Nat→Option Value):Prop:=∀ j q,j<n→x[j]?=some q →
 (∀ k m,q=.int k m→rd j=some (.int k m))∧(∀ b,q=.bool b→rd j=some (.bool b))∧(∀ s,q=.str s→rd j=some (.string ⟨⟨s⟩⟩))
theorem PRd.drop {n m o:Nat} {x:LA} {xs:Array Value} {ox sz:Nat} (F:PRd sz x (fun j=>xs[ox+j]?)) (M:o+m≤sz) (hn:n=m):PRd n (x.drop o) (fun j=>(xs.extract ox (ox+sz))[o+j]?):=by
 subst hn
 intro j q S hq
 rw[List.getElem?_drop] at hq
 have C:=F (o+j) q (by omega) hq
 have e:∀ v,xs[ox+(o+j)]?=some v→(xs.extract ox (ox+sz))[o+j]?=some v:=by
  intro v D
  have G:=(Array.getElem?_eq_some_iff.1 D).1
  rw[Array.getElem?_extract,if_pos (by omega)];exact D
 exact⟨fun k m I=>e _ (C.1 k m I),fun b L=>e _ (C.2.1 b L),fun s hs=>e _ (C.2.2 s hs)⟩
theorem DX {t:TypeId} {d:TypeDesc} {xs:Array Value} {ox:Nat} {v:Value} (k:P.underlying t=some d) (C:d.isRow=false) (D:xs[ox]?=some v):(part t xs ox).run P w=.ok v w:=by
 unfold part isAgg
 simp only[Sem.run_bind,run_underlying k,Result.andThen_ok]
 cases d<;>simp_all[TypeDesc.isRow]
theorem OH {t:TypeId} {d:TypeDesc} {xs:Array Value} {ox s:Nat} (k:P.underlying t=some d) (C:d.isRow=true) (hs:D1 P t=some s):(part t xs ox).run P w=.ok (.agg (xs.extract ox (ox+s))) w:=by
 unfold part isAgg
 have:=Ff hs w
 simp only[Sem.run_bind,run_underlying k,Result.andThen_ok]
 cases d<;>simp_all[TypeDesc.isRow]
def A1f (P:Program) (w:World) (D:Nat) (step:TypeId→LA→LA→(Bool→O R)→O R):Prop :=
 ∀ (r:R) (t:TypeId) (s:Nat) (x y:LA) (k:Bool→O R) (xs ys:Array Value) (ox oy:Nat),D1 P t=some s→0<s→step t x y k=some r→PRd s x (fun j=>xs[ox+j]?)→PRd s y (fun j=>ys[oy+j]?) →
  ∃ b a a',k b=some r∧(part t xs ox).run P w=.ok a w∧(part t ys oy).run P w=.ok a' w∧(Op.equalIn D t a a').run P w=.ok b w
theorem XJ {D:Nat} {step:TypeId→LA→LA→(Bool→O R)→O R} (hs:A1f P w D step) {x y:LA} {xs ys:Array Value} {ox oy sz:Nat} (M:PRd sz x (fun j=>xs[ox+j]?)) (S:PRd sz y (fun j=>ys[oy+j]?)) :
  ∀ (fs:List Field) {k:Bool→O R},fs.all (Ar1 P sz)=true→N_ step x y (fs.map fun f=>(f.offset,f.type)) k=some r →
  ∃ b,k b=some r∧(Op.eqFields D (xs.extract ox (ox+sz)) (ys.extract oy (oy+sz)) fs).run P w=.ok b w
 | [],k,_,I=>⟨true,by simpa[N_] using I,by simp[Op.eqFields]⟩
 | f::fs,k,L,I=>by
  rw[List.all_cons,Bool.and_eq_true] at L
  obtain⟨G,L⟩:=L
  unfold Ar1 at G
  cases C:D1 P f.type with
  | none=>rw[C] at G;simp at G
  | some s =>
   rw[C] at G
   simp only[Bool.and_eq_true,Nat.ble_eq] at G
   obtain⟨h1,T,U⟩:=G
   have F : f.name ≠ "_" := by simpa using U
   rw[List.map_cons,N_] at I
   obtain⟨b,a,a',V,Y,g3,g4⟩:=hs r f.type s _ _ _ (xs.extract ox (ox+sz)) (ys.extract oy (oy+sz)) f.offset f.offset C (by omega) I (M.drop T rfl) (S.drop T rfl)
   obtain⟨c,e1,e2⟩:=XJ hs M S fs L V
   refine⟨b&&c,e1,?_⟩
   rw[Op.eqFields,if_pos F]
   simp only[Sem.run_bind,Y,g3,g4,Result.andThen_ok]
   cases b with
   | false=>simp
   | true=>simpa using e2
theorem cJ {D:Nat} {step:TypeId→LA→LA→(Bool→O R)→O R} (hs:A1f P w D step) {x y:LA} {xs ys:Array Value} {ox oy sz:Nat} {e:TypeId} {s:Nat} (C:D1 P e=some s) (F:0<s) (I:PRd sz x (fun j=>xs[ox+j]?)) (L:PRd sz y (fun j=>ys[oy+j]?)) :
  ∀ (is:List Nat) {k:Bool→O R},(∀ i ∈ is,i*s+s≤sz)→N_ step x y (is.map fun i=>(i*s,e)) k=some r →
  ∃ b,k b=some r∧(Op.eqItems D e s (xs.extract ox (ox+sz)) (ys.extract oy (oy+sz)) is).run P w=.ok b w
 | [],k,_,G=>⟨true,by simpa[N_] using G,by simp[Op.eqItems]⟩
 | i::is,k,M,G=>by
  have S:=M i (by simp)
  rw[List.map_cons,N_] at G
  obtain⟨b,a,a',T,U,V,Y⟩:=hs r e s _ _ _ (xs.extract ox (ox+sz)) (ys.extract oy (oy+sz)) (i*s) (i*s) C F G (I.drop S rfl) (L.drop S rfl)
  obtain⟨c,e1,e2⟩:=cJ hs C F I L is (fun j hj=>M j (by simp[hj])) T
  refine⟨b&&c,e1,?_⟩
  rw[Op.eqItems]
  simp only[Sem.run_bind,U,V,Y,Result.andThen_ok]
  cases b with
  | false=>simp
  | true=>simpa using e2
theorem mQ:∀ (d D:Nat),d≤D→A1f P w D (zq (R:=R) P d)
 | 0,D,_=>fun r t s x y k xs ys ox oy hs G C=>by simp[zq] at C
 | d+1,D,hD=>fun r t s x y k xs ys ox oy hs G C hx hy=>by
  obtain⟨D,rfl⟩:∃ D',D=D'+1:=⟨D - 1,by omega⟩
  rw[zq] at C
  split at C
  ·rename_i kd F
   obtain⟨u,L,C⟩:=ub C
   obtain⟨a,S,C⟩:=ub C
   obtain⟨v,M,C⟩:=ub C
   obtain⟨b,T,C⟩:=ub C
   have ea:u=.int kd a:=by
    unfold va at S;split at S
    ·obtain⟨hk,ha'⟩:=uc S;simp[Uh] at hk ha';subst hk ha';rfl
    ·simp at S
   have eb:v=.int kd b:=by
    unfold va at T;split at T
    ·obtain⟨hk,hb'⟩:=uc T;simp[Uh] at hk hb';subst hk hb';rfl
    ·simp at T
   have px:=(hx 0 u G (by rw[←List.head?_eq_getElem?];exact L)).1 kd a ea
   have py:=(hy 0 v G (by rw[←List.head?_eq_getElem?];exact M)).1 kd b eb
   exact⟨_,_,_,C,DX F rfl (by simpa using px),DX F rfl (by simpa using py),run_equalIn_int w D t kd kd a b F⟩
  ·rename_i F
   obtain⟨u,L,C⟩:=ub C
   obtain⟨a,S,C⟩:=ub C
   obtain⟨v,M,C⟩:=ub C
   obtain⟨b,T,C⟩:=ub C
   have ea:u=.bool a:=by unfold asBool at S;split at S<;>simp_all
   have eb:v=.bool b:=by unfold asBool at T;split at T<;>simp_all
   have px:=(hx 0 u G (by rw[←List.head?_eq_getElem?];exact L)).2.1 a ea
   have py:=(hy 0 v G (by rw[←List.head?_eq_getElem?];exact M)).2.1 b eb
   exact⟨_,_,_,C,DX F rfl (by simpa using px),DX F rfl (by simpa using py),run_equalIn_bool' w D t a b F⟩
  ·rename_i F
   obtain⟨u,L,C⟩:=ub C
   obtain⟨a,S,C⟩:=ub C
   obtain⟨v,M,C⟩:=ub C
   obtain⟨b,T,C⟩:=ub C
   have ea:u=.str a:=by unfold vd at S;split at S<;>simp_all
   have eb:v=.str b:=by unfold vd at T;split at T<;>simp_all
   have px:=(hx 0 u G (by rw[←List.head?_eq_getElem?];exact L)).2.2 a ea
   have py:=(hy 0 v G (by rw[←List.head?_eq_getElem?];exact M)).2.2 b eb
   refine⟨_,_,_,C,DX F rfl (by simpa using px),DX F rfl (by simpa using py),?_⟩
   have:=run_equalIn_string w D t ⟨⟨a⟩⟩ ⟨⟨b⟩⟩ F
   rw[this]
   simp[ByteArray.toList_eq]
  ·rename_i fs F
   obtain⟨sz,I,C⟩:=ub C
   obtain⟨hc,V⟩:=A5b C
   simp only[Bool.or_eq_false_iff,Bool.not_eq_false'] at hc
   rw[hs] at I;simp at I;subst I
   obtain⟨b,h1,h2⟩:=XJ (mQ d D (by omega)) hx hy fs.toList hc.2 V
   refine⟨b,_,_,h1,OH F rfl hs,OH F rfl hs,?_⟩
   have hfo:P.fieldsOf t=fs:=by simp[Program.fieldsOf,F]
   rw[run_equalIn_struct w D t _ _ (by rw[hfo];exact F) hc.1,hfo]
   exact h2
  ·rename_i n e F
   obtain⟨s',U,C⟩:=ub C
   obtain⟨sz,I,C⟩:=ub C
   obtain⟨hc,V⟩:=uc C
   simp only[Bool.and_eq_true,Nat.ble_eq] at hc
   rw[hs] at I;simp at I;subst I
   obtain⟨b,h1,h2⟩:=cJ (mQ d D (by omega)) U (by omega) hx hy (List.range n) (fun i hi=>by
    have:=List.mem_range.1 hi
    have h3:(i+1)*s'≤n*s':=Nat.mul_le_mul_right _ this
    rw[Nat.succ_mul] at h3;omega) V
   refine⟨b,_,_,h1,OH F rfl hs,OH F rfl hs,?_⟩
   cases hi:P.info? e with
   | none=>simp[D1,hi] at U
   | some i =>
    have Y:P.cellsOf e=s':=by simp[D1,hi] at U;simp[Program.cellsOf,hi,U]
    rw[run_equalIn_array w D _ _ F hi,Y]
    exact h2
  ·simp at C
theorem Aws {c:LA} {org:Bool} {v:Value} {a:LA} {x:AV} (F:Ar2 x=some a) (hr:Rep J β h w x v):∃ cs:List Value,v=.agg ⟨cs⟩∧cs.length=a.length∧∀ n,PRd n a (fun j=>(⟨cs⟩:Array Value)[0+j]?):=by
 unfold Ar2 at F
 split at F
 ·simp at F;subst F
  rw[Rep] at hr
  obtain⟨cs,L,G,T⟩:=hr
  refine⟨cs,L,G,fun n j q _ hq=>?_⟩
  rw[Df] at T
  obtain⟨u,I,C⟩:=T j q hq
  simp only[Nat.zero_add] at I ⊢
  refine⟨fun k m M=>?_,fun b S=>?_,fun s hs=>?_⟩
  ·subst M;rw[RepC] at C;subst C;simpa using I
  ·subst S;rw[RepC] at C;subst C;simpa using I
  ·subst hs;rw[RepC] at C;subst C;simpa using I
 ·simp at F;subst F
  rw[Rep] at hr
  obtain⟨cs,L,G⟩:=hr
  rw[C9] at G
  refine⟨cs,L,G.1,fun n j q _ hq=>?_⟩
  have D:j<cs.length:=by rw[G.1];exact(List.getElem?_eq_some_iff.1 hq).1
  have C:=G.2 j q cs[j] hq (List.getElem?_eq_getElem D)
  simp only[Nat.zero_add]
  refine⟨fun k m M=>?_,fun b S=>?_,fun s hs=>?_⟩
  ·subst M;rw[Rep] at C;simp[D,C]
  ·subst S;rw[Rep] at C;simp[D,C]
  ·subst hs;rw[Rep] at C;simp[D,C]
 ·simp at F
theorem Awt {op:BinOp} {t:TypeId} {x y:AV} {k:AV→O R} {vx vy:Value} (C:Aof P t op x y k=some r) (M:Rep J β h w x vx) (S:Rep J β h w y vy) (ox oy:Operand) :
  ∃ v vc,k v=some r∧(do eqGuard op t ox oy vx vy;binOp op t vx vy:Sem Value).run P w=.ok vc w∧Rep J β h w v vc:=by
 unfold Aof at C
 split at C
 ·rename_i a b ha hb
  obtain⟨s,hs,C⟩:=ub C
  obtain⟨T,C⟩:=uc C
  simp only[Bool.and_eq_true,Nat.ble_eq,Bool.not_eq_true'] at T
  obtain⟨h1,U,V,F,h4⟩:=T
  have U:=Nat.eq_of_beq_eq_true U
  have V:=Nat.eq_of_beq_eq_true V
  obtain⟨cs,rfl,Y,px⟩:=Aws (c:=[]) (org:=false) ha M
  obtain⟨D,rfl,hl',py⟩:=Aws (c:=[]) (org:=false) hb S
  have hg:=run_eqGuard_agg w op t ox oy ⟨cs⟩ ⟨D⟩ h4
  have whole:∀ (l:List Value),l.length=s→(⟨l⟩:Array Value).extract 0 (0+s)=⟨l⟩:=by
   intro l Y;subst Y;simp
  have key:∀ {kk:Bool→O R},zq P 8 t a b kk=some r→∃ c,kk c=some r∧(Op.equal t (.agg ⟨cs⟩) (.agg ⟨D⟩)).run P w=.ok c w:=by
   intro kk hk
   obtain⟨c,u,u',e1,G,e3,e4⟩:=mQ 8 10000 (by omega) r t s a b kk ⟨cs⟩ ⟨D⟩ 0 0 hs (by omega) hk (px s) (py s)
   refine⟨c,e1,?_⟩
   have L:∃ d,P.underlying t=some d∧d.isRow=true:=by
    unfold A96 at F
    split at F
    ·rename_i fs I;exact⟨_,I,rfl⟩
    ·rename_i n e I;exact⟨_,I,rfl⟩
    ·simp at F
   obtain⟨d,I,hd⟩:=L
   rw[OH I hd hs,whole cs (by omega)] at G
   rw[OH I hd hs,whole D (by omega)] at e3
   simp only[Result.ok.injEq,and_true] at G e3
   subst G e3
   exact e4
  split at C
  ·obtain⟨c,e1,G⟩:=key C
   refine⟨_,.bool c,e1,?_,by rw[Rep]⟩
   simp only[Sem.run_bind,hg,Result.andThen_ok,binOp,G,Sem.run_pure]
  ·obtain⟨c,e1,G⟩:=key C
   refine⟨_,.bool (!c),e1,?_,by rw[Rep]⟩
   simp only[Sem.run_bind,hg,Result.andThen_ok,binOp,G,Sem.run_pure]
  ·simp at C
 ·exact A09 C M S ox oy
end
end Gx

namespace Gx
open Go Go.MapKept
section
variable {R:Type} {r:R} {P:Program} {J:Bool→Nat→Prop} {β:C8} {h:Am} {w:World} {g:Cb}
theorem OI:∀ (l:List Int) (n:Int),oK (l.map fun m=>.int .i64 m) n=true↔n ∈ l
 | [],n=>by simp[oK]
 | m::r,n=>by
  rw[List.map_cons,oK]
  by_cases e:n=m
  ·simp[e]
  ·simp[e,OI r n]
theorem Awu {c:LA} {es:Array MapEntry} {l:List Int} (C:es.toList.map (fun e=>(e.key,e.val))=l.map (fun n=>((.int .i64 n:Value),(.bool true:Value)))) {x:MapEntry} (D:x ∈ es.toList):∃ n,n ∈ l∧x.key=.int .i64 n∧x.val=.bool true:=by
 have:=List.mem_map_of_mem (f:=fun e:MapEntry=>(e.key,e.val)) D
 rw[C] at this
 obtain⟨n,hn,k⟩:=List.mem_map.1 this
 simp at k
 exact⟨n,hn,k.1.symm,k.2.symm⟩
theorem Bae {es:Array MapEntry} {l:List Int} (C:es.toList.map (fun e=>(e.key,e.val))=l.map (fun n=>((.int .i64 n:Value),(.bool true:Value)))) {n:Int} (hn:n ∈ l):∃ x ∈ es.toList,x.key=.int .i64 n:=by
 have:=List.mem_map_of_mem (f:=fun n:Int=>((.int .i64 n:Value),(.bool true:Value))) hn
 rw[←C] at this
 obtain⟨x,D,k⟩:=List.mem_map.1 this
 simp at k
 exact⟨x,D,k.1⟩
theorem Awv {c:LA} {es:Array MapEntry} (V:Bcg c es) (n:Int) :
  (oK c n=false∧Instr.findNow (.int .i64) (.int .i64 n) es.toList 0=some none) ∨
  (oK c n=true∧∃ j e,Instr.findNow (.int .i64) (.int .i64 n) es.toList 0=some (some (j,.bool true))∧es[j]?=some e∧e.key=.int .i64 n∧e.val=.bool true):=by
 obtain⟨l,rfl,L⟩:=V
 have M:∀ x ∈ es.toList,IsKey (.int .i64) x.key:=fun x S=>by
  obtain⟨m,_,D,_⟩:=Awu (c:=[]) L S
  rw[D];simp[IsKey]
 rcases findNow_spec (d:=.int .i64) (k:=.int .i64 n) (by simp[IsKey]) es.toList 0 M with⟨D,I⟩ | ⟨j,e,D,I,U⟩
 ·left
  refine⟨?_,D⟩
  cases Y:oK (l.map fun m=>.int .i64 m) n with
  | false=>rfl
  | true =>
   obtain⟨x,S,hk⟩:=Bae L ((OI l n).1 Y)
   exact absurd hk (I x S)
 ·right
  have F:e ∈ es.toList:=List.mem_of_getElem? I
  obtain⟨m,T,C,G⟩:=Awu (c:=[]) L F
  rw[U] at C;simp at C;subst C
  refine⟨(OI l n).2 T,j,e,?_,by simpa using I,U,G⟩
  rw[D,G,Nat.zero_add]
theorem Acs {t:TypeId} (hs:Ar7 P t=true):∃ kt et,P.underlying t=some (.map kt et)∧P.underlying kt=some (.int .i64)∧∀ w,(zeroValue et).run P w=.ok (.bool false) w:=by
 unfold Ar7 at hs
 split at hs
 ·rename_i kt et I
  simp only[Bool.and_eq_true] at hs
  obtain⟨D,F⟩:=hs
  refine⟨kt,et,I,?_,fun w=>?_⟩
  ·split at D
   ·assumption
   ·cases D
  ·split at F
   ·rename_i k
    unfold Awg at k
    cases hi:P.info? et with
    | none=>rw[hi] at k;simp at k
    | some i =>
     rw[hi] at k
     cases C:i.zero with
     | none=>simp[C] at k
     | some z =>
      simp[C] at k
      have:z=.bool false:=by
       have G:=ge (J:=fun _ _=>False) (β:=fun _=>none) (h:=[]) (w:=w) z
       rw[k,Rep] at G;exact G
      subst this
      simp[zeroValue,typeInfo,hi,C]
   ·cases F
 ·cases hs
theorem A5f {b:Nat} {x:Blk} {v:Value} (S:SimH J β h w) (F:Au h b=some x) (G:x.dead=false) (hr:Rep J β h w (.omap b) v) :
  ∃ k es clk,x.mp=true∧β b=some (k,0)∧v=.map (some k)∧w.heap[k]?=some (.map es clk)∧Bcg x.cells es∧x.sealed=false∧x.pure=true:=by
 rw[Rep] at hr
 obtain⟨y,k,⟨C,I⟩,M,hr⟩:=hr
 rw[F] at C;simp at C;subst C
 rcases hr with hr | L
 ·simp[G] at hr
 ·obtain⟨T,U,k',es,clk,D,V,Y,_⟩:=S.mblk b x F G I
  rw[L] at D;simp at D;subst D
  exact⟨k,es,clk,I,L,M,V,Y,U,T⟩
theorem Acu {d:Nat} {t:TypeId} {k:AV→Ip→O R} (S:SimH J β h w) (C:ER d none k=some r) :
  ∃ val ups,k val ups=some r∧(UpsFree d h ups→∃ vc w',(Instr.makeMap t none).run P w=.ok vc w'∧OpDone J β h w ups val vc w'):=by
 unfold ER at C
 refine⟨_,_,C,fun D=>⟨.map (some w.heap.size),w.alloc (.map #[] 0),rfl,?_⟩⟩
 have A:=Step.newMap (x:={ dead:=false,sealed:=false,pure:=true,taint:=false,sz:=0,cells:=[],mp:=true }) S (D.nid (by simp[Bj])) rfl rfl rfl rfl rfl
 refine⟨_,_,A,?_⟩
 rw[Rep]
 exact⟨{ dead:=false,sealed:=false,pure:=true,taint:=false,sz:=0,cells:=[],mp:=true },w.heap.size,⟨by simp[At,Ai],rfl⟩,rfl,.inr (by simp)⟩
theorem Aww {t:TypeId} {m key:AV} {c:Bool} {vm vk:Value} {k:AV→O R} (S:SimH J β h w) (L:Looks g h) (F:Aok P g t m key c k=some r) (M:Rep J β h w m vm) (C:Rep J β h w key vk) :
  ∃ v vc,k v=some r∧(Instr.lookup t vm vk c).run P w=.ok vc w∧Rep J β h w v vc:=by
 unfold Aok at F
 split at F
 ·rename_i b n
  obtain⟨hs,T⟩:=uc F
  obtain⟨x,U,V⟩:=ub T
  obtain⟨Y,h3⟩:=uc V
  obtain⟨hb,hd⟩:=Py L U
  rw[Rep] at C;subst C
  obtain⟨kk,es,clk,_,hβ,rfl,C,hr,_,_⟩:=A5f S hb hd M
  obtain⟨kt,et,u1,u2,u3⟩:=Acs hs
  refine⟨_,.bool (oK x.cells n),h3,?_,by rw[Rep]⟩
  have D:IsKey (.int .i64) (.int .i64 n):=by simp[IsKey]
  rcases Awv hr n with⟨G,I⟩ | ⟨G,j,e,I,_,_,_⟩
  ·rw[G]
   simp[Instr.lookup,run_underlying u1,run_getObj_map C,run_checkKey u2 D,run_findKey u2 I,u3,Result.andThen]
  ·rw[G]
   simp[Instr.lookup,run_underlying u1,run_getObj_map C,run_checkKey u2 D,run_findKey u2 I,Result.andThen]
 ·simp at F
theorem Asn {t:TypeId} {m key val:AV} {vm vk vv:Value} {k:AV→Ip→O R} (S:SimH J β h w) (hl:Looks g h) (U:tL P g t m key val k=some r) (hm:Rep J β h w m vm) (C:Rep J β h w key vk) (hv:Rep J β h w val vv) :
  ∃ ups,k .undef ups=some r∧∃ J' β' w',(Instr.mapUpdate t vm vk vv).run P w=.ok () w'∧Step J β h w J' β' (At ups h) w':=by
 unfold tL at U
 split at U
 ·rename_i b n
  obtain⟨hs,h1⟩:=uc U
  obtain⟨x,hx,h2⟩:=ub h1
  obtain⟨D,h3⟩:=uc h2
  obtain⟨V,L⟩:=Py hl hx
  simp only[Rep] at C hv;subst C hv
  obtain⟨kk,es,clk,_,hβ,rfl,C,hr,M,T⟩:=A5f S V L hm
  obtain⟨kt,et,u1,u2,u3⟩:=Acs hs
  have F:IsKey (.int .i64) (.int .i64 n):=by simp[IsKey]
  have hlt:=gi C
  refine⟨_,h3,J,β,?_⟩
  rcases Awv hr n with⟨Y,g2⟩ | ⟨Y,j,e,g2,g3,g4,g5⟩
  ·refine⟨{ w with heap:=w.heap.setIfInBounds kk (.map (es.push { key:=.int .i64 n,val:=.bool true,born:=clk }) (clk+1)) },?_,?_⟩
   ·simp[Instr.mapUpdate,run_underlying u1,run_getObj_map C,run_checkKey u2 F,run_findKey u2 g2,run_setObj_map _ C,Result.andThen]
   ·refine Step.setMap S V L D hβ C (heap_set C).1 (fun j hj=>(heap_set C).2 j hj) (by simp) rfl rfl rfl ?_ L M T rfl D
    obtain⟨l,G,I⟩:=hr
    refine⟨l++[n],?_,?_⟩
    ·show A07 x.cells n=_
     unfold A07;rw[Y,G];simp
    ·simp[I]
  ·refine⟨{ w with heap:=w.heap.setIfInBounds kk (.map (es.modify j fun e=>{ e with key:=.int .i64 n,val:=.bool true }) clk) },?_,?_⟩
   ·simp[Instr.mapUpdate,run_underlying u1,run_getObj_map C,run_checkKey u2 F,run_findKey u2 g2,g3,g4,run_keyThatStays F,run_setObj_map _ C,Result.andThen]
   ·refine Step.setMap S V L D hβ C (heap_set C).1 (fun j hj=>(heap_set C).2 j hj) (by simp) rfl rfl rfl ?_ L M T rfl D
    obtain⟨l,G,I⟩:=hr
    refine⟨l,?_,?_⟩
    ·show A07 x.cells n=_
     unfold A07;rw[Y,G];rfl
    ·have:es.modify j (fun e=>{ e with key:=.int .i64 n,val:=.bool true })=es:=by
      apply Array.ext_getElem?
      intro i
      rw[Array.getElem?_modify]
      split
      ·rename_i hij;subst hij
       rw[g3];simp;rw[←g4,←g5]
      ·rfl
     rw[this];exact I
 ·simp at U
end
end Gx

namespace Gx
open Go
def mR (E:Env):Prop:=∀ (R:Type) (r:R) (k:AV→Ip→O R) (J:Bool→Nat→Prop) (β:C8) (h:Am) (w:World) (g:Cb) (d f:Nat) (args:LA) (vs:List Value),
 SimH J β h w→Looks g h→Aol E g d f args k=some r→Reps J β h w args vs →
 ∃ val ups,k val ups=some r∧(UpsFree d h ups→Calls E.P f vs.toArray w fun e w'=>∃ vc,e=.returned vc∧OpDone J β h w ups val vc w')
section
variable {R:Type} {r:R} {P:Program} {J J':Bool→Nat→Prop} {β:C8} {h:Am} {w w':World} {g:Cb} {o:Oper} {a:Act} {next:Act→World→Prop} {Q:Exit→Act→World→Prop}
theorem Oo {vc:Value} (k:(execOp a.eval o).run P w=.ok (.value vc) w') (hn:next (a.put o.dst vc) w'):o.wp P a w next Q:=by
 unfold Oper.wp;rw[k];exact hn
theorem Awx (k:(execOp a.eval o).run P w=.ok .skip w') (hn:next (a.put o.dst undef) w'):o.wp P a w next Q:=by
 unfold Oper.wp;rw[k];exact hn
theorem OpDone.same (S:SimH J β h w) {v:AV} {vc:Value} (k:Rep J β h w v vc):OpDone J β h w [] v vc w:=⟨J,β,Step.refl S,k⟩
theorem Acv {s:Hy} (SS:SimS J β h w s a.tmps):∀ (xs:List Operand),Reps J β h w (xs.map (ev s)) (xs.map a.eval)
 | []=>by simp[Reps]
 | x::r=>by rw[List.map_cons,List.map_cons,Reps];exact⟨_,_,rfl,Br SS x,Acv SS r⟩
theorem CO {s:Hy} (SS:SimS J β h w s a.tmps):∀ (ps:List (Nat×Operand)),RepParts J β h w (ps.map fun p=>(p.1,ev s p.2)) (ps.map fun p=>(p.1,a.eval p.2))
 | []=>by simp[RepParts]
 | p::r=>by rw[List.map_cons,List.map_cons,RepParts];exact⟨_,_,rfl,Br SS p.2,CO SS r⟩
theorem Acw {s:Hy} (SS:SimS J β h w s a.tmps) (x:Option Operand):IN J β h w (x.map (ev s)) (x.map a.eval):=by
 cases x with
 | none=>simp[IN]
 | some x=>simp[IN];exact Br SS x
theorem Reps.append:∀ {c c':LA} {cs k:List Value},Reps J β h w c cs→Reps J β h w c' k→Reps J β h w (c++c') (cs++k)
 | [],c',cs,k,C,D=>by rw[Reps] at C;subst C;exact D
 | x::r,c',cs,k,C,D=>by
  rw[Reps] at C
  obtain⟨u,us,rfl,F,G⟩:=C
  rw[List.cons_append,List.cons_append,Reps]
  exact⟨u,us++k,rfl,F,Reps.append G D⟩
theorem Awy {J:Nat→Prop}:∀ {c:LA} {cs:List Value},Ba c=true→Reps (fun _ _=>False) (fun _=>none) [] w c cs→RepCs J w c (fun j=>cs[j]?) 0∧cs.length=c.length:=by
 intro c cs G hr
 rw[C9] at hr
 refine⟨?_,hr.1⟩
 rw[Df]
 intro j x C
 have k:j<cs.length:=by rw[hr.1];exact(List.getElem?_eq_some_iff.1 C).1
 refine⟨cs[j],by simp[k],?_⟩
 have D:=hr.2 j x cs[j] C (List.getElem?_eq_getElem k)
 have I:Ba [x]=true:=by
  clear hr D k
  induction c generalizing j with
  | nil=>simp at C
  | cons y r L =>
   have F:Ba r=true:=by unfold Ba at G;split at G<;>simp_all
   cases j with
   | zero=>simp at C;subst C;cases y<;>simp_all[Ba]
   | succ j=>exact L F j (by simpa using C)
 cases x<;>simp[Ba] at I<;>(rw[Rep] at D;rw[RepC];exact D)
theorem A6y {co:Bool} {v:AV} {vv:Value} (k:∀ (J:Bool→Nat→Prop) (β:C8) (h:Am),Rep J β h w v vv):Rep J β h w (A97 co v) vv:=by
 unfold A97
 split
 ·rename_i c
  cases D:Ba c with
  | false=>exact k J β h
  | true =>
   have C:=k (fun _ _=>False) (fun _=>none) []
   rw[Rep] at C
   obtain⟨cs,rfl,F⟩:=C
   obtain⟨G,I⟩:=Awy (J:=J false) D F
   rw[cond_true,Rep]
   exact⟨cs,rfl,I,G⟩
 ·exact k J β h
theorem Aso {co:Bool} {d:Nat} {t:TypeId} {k:AV→Ip→O R} (S:SimH J β h w) (Y:Looks g h) (D:tJ P g co d t k=some r) :
  ∃ v val ups,(∃ i,P.info? t=some i∧i.zero=some v)∧k val ups=some r∧(UpsFree d h ups→∃ vc w',(Instr.box t v).run P w=.ok vc w'∧OpDone J β h w ups val vc w'):=by
 have zv:∀ {z:AV},Awg P t=some z→∃ v,(∃ i,P.info? t=some i∧i.zero=some v)∧v_ v=z:=by
  intro z C
  unfold Awg at C
  cases hi:P.info? t with
  | none=>simp[hi] at C
  | some i =>
   cases F:i.zero with
   | none=>simp[hi,F] at C
   | some v=>simp[hi,F] at C;exact⟨v,⟨i,rfl,F⟩,C⟩
 unfold tJ at D
 split at D
 ·rename_i el hu C
  obtain⟨v,G,I⟩:=zv C
  obtain⟨sz,hs,D⟩:=ub D
  refine⟨v,_,_,G,D,fun V=>⟨_,_,gj,?_⟩⟩
  have hr:=ge (J:=J) (β:=β) (h:=h) (w:=w) v
  rw[I,Rep] at hr;subst hr
  have L:∀ b,b=nid d+1→XF d b=true:=fun b hb=>by subst hb;unfold XF nid;simp
  have M:Au h (nid d+1)=none:=V _ (by simp[Bj]) (L _ rfl)
  have T:Au h (nid d)=none:=V.nid (by simp[Bj])
  have A:=Step.newNone S (d:=nid d+1) (x:=G4 sz) M rfl
  have e:([(nid d+1,some (G4 sz)),(nid d,some { dead:=false,sealed:=false,pure:=false,taint:=false,sz:=0,cells:=[.own (nid d+1) 0 0] })]:Ip)=[(nid d+1,some (G4 sz))]++[(nid d,some { dead:=false,sealed:=false,pure:=false,taint:=false,sz:=0,cells:=[.own (nid d+1) 0 0] })]:=rfl
  rw[e]
  refine OpDone.after A (oT A.sim ?_ rfl rfl (by simp[Value.cells]) ⟨fun hp=>by simp at hp,fun _ j y U=>?_⟩) (EX _ _)
  ·simp only[At];rw[Ai,if_neg (by omega)];exact T
  ·cases j with
   | zero =>
    simp at U;subst U
    refine⟨.slice none 0 0,by simp[Value.cells],?_,rfl⟩
    rw[Rep]
    exact⟨G4 sz,none,0,⟨by simp[At,Ai],rfl⟩,rfl,Nat.le_refl _,.inl rfl⟩
   | succ j=>simp at U
 ·rename_i z C _
  obtain⟨v,G,I⟩:=zv C
  obtain⟨val,ups,M,T⟩:=Acn S Y D (vv:=v) (A6y fun J β h=>by rw[←I];exact ge v)
  exact⟨v,val,ups,G,M,T⟩
 ·simp at D
theorem Awz {c x y:AV} {vc vx vy:Value} {k:AV→O R} (C:Aom c x y k=some r) (D:Rep J β h w c vc) (F:Rep J β h w x vx) (G:Rep J β h w y vy) :
  ∃ v,k v=some r∧∃ t:Bool,vc=.bool t∧Rep J β h w v (if t then vx else vy):=by
 unfold Aom at C
 split at C
 ·rename_i t a b
  rw[Rep] at D F G
  subst D F G
  exact⟨_,C,t,rfl,by cases t<;>simp[Rep]⟩
 ·rename_i t x _
  rw[Rep] at D;subst D
  obtain⟨I,L⟩:=uc C
  subst I
  exact⟨_,L,true,rfl,F⟩
 ·rename_i t _ _ _
  rw[Rep] at D;subst D
  obtain⟨I,L⟩:=A5b C
  subst I
  exact⟨_,L,false,rfl,G⟩
 ·rename_i t _ _ _
  rw[Rep] at D;subst D
  cases t
  ·exact⟨_,C,false,rfl,G⟩
  ·exact⟨_,C,true,rfl,F⟩
 ·simp at C
theorem A1g {E:Env} (hC:mR E) {d:Nat} {s:Hy} {k:AV→Ip→O R} (S:SimH J β h w) (SS:SimS J β h w s a.tmps) (hl:Looks g h)
  (C:Aln E g d (ev s) o.op k=some r) :
  ∃ val ups,k val ups=some r∧(UpsFree d h ups→(∀ vc w',OpDone J β h w ups val vc w'→next (a.put o.dst vc) w')→o.wp E.P a w next Q):=by
 unfold Aln at C
 have same:∀ {v:AV} {vc:Value},k v []=some r→(execOp a.eval o).run E.P w=.ok (.value vc) w→Rep J β h w v vc →
   ∃ val ups,k val ups=some r∧(UpsFree d h ups→(∀ vc w',OpDone J β h w ups val vc w'→next (a.put o.dst vc) w')→o.wp E.P a w next Q) :=
  fun hk hrun hr=>⟨_,_,hk,fun _ hn=>Oo hrun (hn _ _ (OpDone.same S hr))⟩
 split at C
 ·rename_i x I
  exact same C (by simp[execOp,I]) (Br SS x)
 ·rename_i x I
  exact same C (by simp[execOp,I]) (Br SS x)
 ·rename_i c x y I
  obtain⟨v,D,F⟩:=Awz C (Br SS c) (Br SS x) (Br SS y)
  obtain⟨t,ht,hr⟩:=F
  refine same D (vc:=if t then a.eval x else a.eval y) ?_ hr
  cases t<;>simp[execOp,I,ht,Go.asBool]
 ·rename_i t I
  obtain⟨v,val,ups,h0,D,F⟩:=Aso S hl C
  refine⟨val,ups,D,fun U hn=>?_⟩
  obtain⟨vc,w',G,M⟩:=F U
  refine Oo ?_ (hn vc w' M)
  rw[gj] at G
  simp only[Result.ok.injEq] at G
  obtain⟨rfl,rfl⟩:=G
  obtain⟨i,hi,hiz⟩:=h0
  simp[execOp,I,Instr.alloc,zeroValue,typeInfo,hi,hiz,newVar,newRow]
 ·rename_i t x I
  obtain⟨v',h0,hv'⟩:=Ash C (Br SS x)
  obtain⟨val,ups,D,F⟩:=Acn S hl h0 hv'
  refine⟨val,ups,D,fun U hn=>?_⟩
  obtain⟨vc,w',G,M⟩:=F U
  exact Oo (by simp[execOp,I,G]) (hn vc w' M)
 ·rename_i t parts I
  rw[mP] at C
  obtain⟨v,L,C⟩:=ub C
  obtain⟨u,D,F⟩:=Asm (P:=E.P) S L (CO SS parts.toList)
  obtain⟨val,ups,G,M⟩:=A1d S C F
  refine⟨val,ups,G,fun U hn=>Oo ?_ (hn _ _ (M U))⟩
  have:(parts.map fun p=>(p.1,a.eval p.2))=(parts.toList.map fun p=>(p.1,a.eval p.2)).toArray:=by apply Array.ext';simp
  simp[execOp,I,this,D]
 ·rename_i t len parts I
  have:(parts.map fun p=>(p.1,a.eval p.2))=(parts.toList.map fun p=>(p.1,a.eval p.2)).toArray:=by apply Array.ext';simp
  cases hhard:(parts.toList.map fun p=>(p.1,ev s p.2)).any fun p=>A98 p.2 with
  | true =>
   rw[hhard] at C
   obtain⟨val,ups,D,F⟩:=tQ S C (CO SS parts.toList)
   refine⟨val,ups,D,fun U hn=>?_⟩
   obtain⟨vc,w',G,M⟩:=F U
   exact Oo (by simp[execOp,I,this,G]) (hn vc w' M)
  | false =>
   rw[hhard] at C
   obtain⟨val,ups,D,F⟩:=oW S hl C (CO SS parts.toList)
   refine⟨val,ups,D,fun U hn=>?_⟩
   obtain⟨vc,w',G,M⟩:=F U
   exact Oo (by simp[execOp,I,this,G]) (hn vc w' M)
 ·rename_i t p I
  obtain⟨v,vc,D,F,G⟩:=vq S hl C (Br SS p)
  exact same D (by simp[execOp,I,F]) G
 ·rename_i t p x I
  obtain⟨val,ups,D,J',β',w',F,G,rfl⟩:=Asg S hl C (Br SS p) (Br SS x)
  exact⟨.undef,ups,D,fun _ hn=>Awx (w':=w') (by simp[execOp,I,F]) (hn undef w' ⟨J',β',G,by simp[Rep]⟩)⟩
 ·rename_i x I
  have D:=Br SS x
  split at C
  ·rename_i c oo V
   rw[V] at D
   refine same C (vc:=a.eval x) ?_ D
   rw[Rep,RepC] at D
   obtain⟨ad,F,_⟩:=D
   simp[execOp,I,F]
  ·rename_i b oo V
   rw[V] at D
   refine same C (vc:=a.eval x) ?_ D
   rw[Rep] at D
   obtain⟨_,kk,o',_,F,_⟩:=D
   simp[execOp,I,F]
  ·simp at C
 ·rename_i op t x y t2 I
  obtain⟨v,vc,D,F,G⟩:=Awt C (Br SS x) (Br SS y) x y
  refine same D ?_ G
  simp only[execOp,I]
  rw[Sem.run_bind,F];simp
 ·rename_i op t x I
  obtain⟨v,L,C⟩:=ub C
  obtain⟨vc,F,G⟩:=A6w (P:=E.P) L (Br SS x)
  exact same C (by simp[execOp,I,F]) G
 ·rename_i src dst x I
  obtain⟨val,ups,D,F⟩:=Awr S hl C (Br SS x)
  refine⟨val,ups,D,fun U hn=>?_⟩
  obtain⟨vc,w',G,M⟩:=F U
  exact Oo (by simp[execOp,I,G]) (hn vc w' M)
 ·rename_i f first caps I
  obtain⟨U,C⟩:=uc C
  have hf':f<1000000:=by simpa using U
  have key:∀ (a n:Nat),a<1000000→(a+1000000*n)%1000000=a∧(a+1000000*n)/1000000=n:=by intro a n h;omega
  have e1:=(key f first.toList.length hf').1
  have e2:=(key f first.toList.length hf').2
  refine same (vc:=.func (.func f) ⟨first.toList.map a.eval⟩ ⟨caps.toList.map a.eval⟩) C ?_ ?_
  ·simp only[execOp,I,Instr.makeFunc]
   simp
   refine⟨?_,?_⟩<;>(apply Array.ext';simp)
  ·rw[Rep,e1,e2]
   refine⟨(first.toList++caps.toList).map a.eval,?_,Acv SS _⟩
   simp
 ·rename_i t l c I
  obtain⟨val,ups,D,F⟩:=Awo S C (Br SS l) (Br SS c)
  refine⟨val,ups,D,fun U hn=>?_⟩
  obtain⟨vc,w',G,M⟩:=F U
  exact Oo (by simp[execOp,I,G]) (hn vc w' M)
 ·rename_i t x lo hi mx I
  obtain⟨v,vc,D,F,G⟩:=Asf hl C (Br SS x) (Acw SS lo) (Acw SS hi) (Acw SS mx)
  exact same D (by simp[execOp,I,F]) G
 ·rename_i t x f I
  obtain⟨v,vc,D,F,G⟩:=tP C (Br SS x)
  exact same D (by simp[execOp,I,F]) G
 ·rename_i t x f I
  obtain⟨v,vc,D,F,G⟩:=Asd C (Br SS x)
  exact same D (by simp[execOp,I,F]) G
 ·rename_i t x i I
  obtain⟨v,vc,D,F,G⟩:=tO C (Br SS x) (Br SS i)
  exact same D (by simp[execOp,I,F]) G
 ·rename_i t x i I
  obtain⟨v,vc,D,F,G⟩:=Ase C (Br SS x) (Br SS i)
  exact same D (by simp[execOp,I,F]) G
 ·rename_i t rr I
  cases rr with
  | some x=>simp[ER] at C
  | none =>
   obtain⟨val,ups,D,F⟩:=Acu (P:=E.P) (t:=t) S C
   refine⟨val,ups,D,fun U hn=>?_⟩
   obtain⟨vc,w',G,M⟩:=F U
   exact Oo (by simp[execOp,I,G]) (hn vc w' M)
 ·rename_i t m x y I
  obtain⟨ups,D,J',β',w',F,G⟩:=Asn S hl C (Br SS m) (Br SS x) (Br SS y)
  exact⟨.undef,ups,D,fun _ hn=>Awx (w':=w') (by simp[execOp,I,F]) (hn undef w' ⟨J',β',G,by simp[Rep]⟩)⟩
 ·rename_i t m x c I
  obtain⟨v,vc,D,F,G⟩:=Aww S hl C (Br SS m) (Br SS x)
  exact same D (by simp[execOp,I,F]) G
 ·rename_i t i I
  split at C
  ·rename_i vs ht
   obtain⟨v,L,C⟩:=ub C
   have D:=Br SS t
   rw[ht,Rep] at D
   obtain⟨cs,F,G⟩:=D
   rw[C9] at G
   have hlt:i<cs.length:=by rw[G.1];exact(List.getElem?_eq_some_iff.1 L).1
   refine same C (vc:=cs[i]) ?_ (G.2 i v _ L (List.getElem?_eq_getElem hlt))
   simp[execOp,I,Instr.extract,F,hlt]
  ·simp at C
 ·rename_i c I
  split at C
  ·rename_i Y
   split at C
   ·rename_i x t D F
    obtain⟨v,L,C⟩:=ub C
    have e1:c.args=#[x]:=by apply Array.ext';simpa using D
    have e2:c.argTypes=#[t]:=by apply Array.ext';simpa using F
    obtain⟨vc,G,M⟩:=A1a (P:=E.P) (ty:=o.type) L (Br SS x)
    refine same C ?_ M
    simp[execOp,I,resolve,Y,e1,e2,invoke,builtin,G]
   ·simp at C
  ·rename_i Y
   split at C
   ·rename_i x y t tx D F
    have e1:c.args=#[x,y]:=by apply Array.ext';simpa using D
    have e2:c.argTypes=#[t,tx]:=by apply Array.ext';simpa using F
    obtain⟨val,ups,G,M⟩:=Alp (ty:=o.type) S hl C (Br SS x) (Br SS y)
    refine⟨val,ups,G,fun U hn=>?_⟩
    obtain⟨vc,w',h5,h6⟩:=M U
    refine Oo ?_ (hn vc w' h6)
    simp[execOp,I,resolve,Y,e1,e2,invoke,builtin,h5]
   ·simp at C
  ·rename_i Y
   split at C
   ·rename_i x y t tx D F
    have e1:c.args=#[x,y]:=by apply Array.ext';simpa using D
    have e2:c.argTypes=#[t,tx]:=by apply Array.ext';simpa using F
    obtain⟨val,ups,G,vc,w',h5,h6⟩:=Awq (tx:=tx) (ty:=o.type) S hl C (Br SS x) (Br SS y)
    refine⟨val,ups,G,fun U hn=>?_⟩
    refine Oo ?_ (hn vc w' h6)
    simp[execOp,I,resolve,Y,e1,e2,invoke,builtin,h5]
   ·simp at C
  ·rename_i Y
   split at C
   ·rename_i x y D
    obtain⟨v,L,C⟩:=ub C
    have e1:c.args=#[x,y]:=by apply Array.ext';simpa using D
    have F:=Br SS x
    have G:=Br SS y
    unfold A6t at L
    split at L
    ·rename_i k1 a1 k2 a2 V hy
     simp at L;subst L
     rw[V,Rep] at F;rw[hy,Rep] at G
     refine same C (vc:=.int k1 (Bv a1 a2)) ?_ (by rw[Rep])
     simp[execOp,I,resolve,Y,e1,invoke,builtin,F,G,Builtin.min_,Builtin.min2,Bv,cond_eq_ite]
    ·simp at L
   ·rename_i x y z D
    obtain⟨q,hq,C⟩:=ub C
    obtain⟨v,L,C⟩:=ub C
    have e1:c.args=#[x,y,z]:=by apply Array.ext';simpa using D
    have F:=Br SS x
    have G:=Br SS y
    have M:=Br SS z
    unfold A6t at hq
    split at hq
    ·rename_i k1 a1 k2 a2 V hy
     simp at hq;subst hq
     unfold A6t at L
     split at L
     ·rename_i k3 a3 k4 a4 hx2 hz
      simp at hx2;obtain⟨rfl,rfl⟩:=hx2
      simp at L;subst L
      rw[V,Rep] at F;rw[hy,Rep] at G;rw[hz,Rep] at M
      refine same C (vc:=.int k1 (Bv (Bv a1 a2) a4)) ?_ (by rw[Rep])
      simp[execOp,I,resolve,Y,e1,invoke,builtin,F,G,M,Builtin.min_,Builtin.min2,Bv,cond_eq_ite]
     ·simp at L
    ·simp at hq
   ·simp at C
  ·rename_i Y
   split at C
   ·rename_i x y D
    obtain⟨v,L,C⟩:=ub C
    have e1:c.args=#[x,y]:=by apply Array.ext';simpa using D
    have F:=Br SS x
    have G:=Br SS y
    unfold A6u at L
    split at L
    ·rename_i k1 a1 k2 a2 V hy
     simp at L;subst L
     rw[V,Rep] at F;rw[hy,Rep] at G
     refine same C (vc:=.int k1 (Iq a1 a2)) ?_ (by rw[Rep])
     simp[execOp,I,resolve,Y,e1,invoke,builtin,F,G,Builtin.max_,Builtin.max2,Iq,cond_eq_ite]
    ·simp at L
   ·rename_i x y z D
    obtain⟨q,hq,C⟩:=ub C
    obtain⟨v,L,C⟩:=ub C
    have e1:c.args=#[x,y,z]:=by apply Array.ext';simpa using D
    have F:=Br SS x
    have G:=Br SS y
    have M:=Br SS z
    unfold A6u at hq
    split at hq
    ·rename_i k1 a1 k2 a2 V hy
     simp at hq;subst hq
     unfold A6u at L
     split at L
     ·rename_i k3 a3 k4 a4 hx2 hz
      simp at hx2;obtain⟨rfl,rfl⟩:=hx2
      simp at L;subst L
      rw[V,Rep] at F;rw[hy,Rep] at G;rw[hz,Rep] at M
      refine same C (vc:=.int k1 (Iq (Iq a1 a2) a4)) ?_ (by rw[Rep])
      simp[execOp,I,resolve,Y,e1,invoke,builtin,F,G,M,Builtin.max_,Builtin.max2,Iq,cond_eq_ite]
     ·simp at L
    ·simp at hq
   ·simp at C
  ·rename_i fo Y
   split at C
   ·rename_i f0 caps U
    have D:=Br SS fo
    rw[U,Rep] at D
    obtain⟨cs0,F,h30⟩:=D
    obtain⟨T,C⟩:=uc C
    have htk:Reps J β h w (caps.take (f0/1000000)) (cs0.take (f0/1000000))∧Reps J β h w (caps.drop (f0/1000000)) (cs0.drop (f0/1000000)):=by
     rw[C9] at h30
     refine⟨C9.2 ⟨by simp[h30.1],fun j x u V hu=>?_⟩,C9.2 ⟨by simp[h30.1],fun j x u V hu=>?_⟩⟩
     ·rw[List.getElem?_take] at V hu
      split at V
      ·rename_i hj;rw[if_pos hj] at hu;exact h30.2 j x u V hu
      ·simp at V
     ·rw[List.getElem?_drop] at V hu;exact h30.2 _ x u V hu
    generalize f0%1000000=f at *
    generalize cs0.take (f0/1000000)=fs at *
    generalize cs0.drop (f0/1000000)=cs at *
    obtain⟨val,ups,M,h5⟩:=hC R r k J β h w g d f _ _ S hl C (htk.1.append ((Acv SS c.args.toList).append htk.2))
    refine⟨val,ups,M,fun hfr hn=>?_⟩
    have hcall:=h5 hfr
    unfold A46 at T
    cases hfn:E.P.funcs[f]? with
    | none=>rw[hfn] at T;simp at T
    | some fn =>
     rw[hfn] at T
     simp at T
     obtain⟨hb1,hb2⟩:=T
     have hb3:fn.body.isNone=false:=by cases hq:fn.body<;>simp_all
     have hargs:(⟨fs⟩:Array Value)++c.args.map a.eval++(⟨cs⟩:Array Value)=(fs++(c.args.toList.map a.eval++cs)).toArray:=by apply Array.ext';simp
     have hrun:(execOp a.eval o).run E.P w=.ok (.enter f (fs++(c.args.toList.map a.eval++cs)).toArray) w:=by
      simp only[execOp,I,Sem.run_bind,resolve,Y,F,Deferred.ofValue,Sem.run_pure,Result.andThen_ok,invoke,callFunc,run_program,hfn]
      simp only[hb3,hargs]
      simp[hb2]
     unfold Oper.wp
     rw[hrun]
     refine Calls.mono hcall ?_
     rintro e w' ⟨vc,rfl,hd⟩
     exact hn vc w' hd
   ·simp at C
  ·simp at C
 ·simp at C
end
end Gx

namespace Gx
open Go
structure Start where
 J:Bool→Nat→Prop
 β:C8
 h:Am
 w:World
structure Inv (Z:Start) (nt:Nat) (J:Bool→Nat→Prop) (β:C8) (st:St) (a:Act) (w:World):Prop where
 sim:SimH J β st.h w
 ss:SimS J β st.h w st.s a.tmps
 tmps:a.tmps.size=nt
 defers:a.defers=[]
 os:w.os=Z.w.os
 tape:w.tape=Z.w.tape
 output:w.output=Z.w.output
 size:Z.w.heap.size≤w.heap.size
 frame:∀ k,k<Z.w.heap.size→¬ Awn Z.β Z.h k→w.heap[k]?=Z.w.heap[k]?
 wr:∀ k,Awn β st.h k→k<Z.w.heap.size→Awn Z.β Z.h k
 jsub:∀ o k,Z.J o k→J o k
 jup:∀ o k,J o k→Z.J o k∨Awn Z.β Z.h k∨Z.w.heap.size≤k
 sizes:∀ k,Bw Z.w k≤Bw w k
 zlt:∀ b x0,Au Z.h b=some x0→b<200000
 zge:∀ b x0,Au Z.h b=some x0→100000≤b
 outs:∀ b x0 x,Au Z.h b=some x0→Au st.h b=some x→x.dead=false→(β b=Z.β b∧x.mp=x0.mp)∧x.sz=x0.sz∧(x0.mp=false→x.cells.length=x0.cells.length)∧x0.dead=false
section
variable {R:Type} {r:R} {Z:Start} {nt:Nat} {J J':Bool→Nat→Prop} {β β':C8} {st:St} {h':Am} {a:Act} {w w':World} {ops:Array Oper} {o:Oper}
theorem P3 {s:Hy} {d:Option Nat} {v:AV} {i:Nat}:G3 (A08 nt s d v) i=if d=some i∧i<nt then v else G3 s i:=by
 unfold A08
 cases d with
 | none=>simp
 | some d =>
  simp only[Option.some.injEq]
  cases C:Nat.blt d nt with
  | true =>
   have k:d<nt:=by simpa using C
   simp only[cond_true]
   rw[Pz]
   by_cases e:i=d
   ·subst e;simp[k]
   ·rw[if_neg e,if_neg (fun D=>e D.1.symm)]
  | false =>
   have k:¬ d<nt:=by intro F;rw[show Nat.blt d nt=true by simpa using F] at C;cases C
   simp only[cond_false]
   rw[if_neg (fun D=>by obtain⟨G,I⟩:=D;subst G;exact k I)]
theorem SimS.put {h:Am} {s:Hy} {d:Option Nat} {v:AV} {vc:Value} (H:SimS J β h w s a.tmps) (hn:a.tmps.size=nt) (D:Rep J β h w v vc):SimS J β h w (A08 nt s d v) (a.put d vc).tmps:=by
 refine⟨fun i u k=>?_,fun i hi=>?_⟩
 ·rw[P3]
  cases d with
  | none=>simp;exact H.slot i u k
  | some d =>
   simp only[Act.put] at k
   rw[Array.getElem?_setIfInBounds] at k
   by_cases e:d=i
   ·subst e
    simp only[if_true] at k
    by_cases C:d<a.tmps.size
    ·simp[C] at k;subst k
     rw[if_pos ⟨rfl,by omega⟩];exact D
    ·simp[C] at k
   ·rw[if_neg e] at k
    rw[if_neg (fun F=>e (by simpa using F.1))]
    exact H.slot i u k
 ·have hs:(a.put d vc).tmps.size=a.tmps.size:=by cases d<;>simp[Act.put]
  rw[hs] at hi
  rw[P3,if_neg (by omega)]
  exact H.out i hi
theorem SimS.ext {h:Am} {s:Hy} {t:Array Value} (E:Ext J β h w J' β' h' w') (H:SimS J β h w s t):SimS J' β' h' w' s t :=
 ⟨fun i v k=>Rep.ext E (H.slot i v k),H.out⟩
theorem Inv.step (I:Inv Z nt J β st a w) (A:Step J β st.h w J' β' h' w') (G:∀ b x,Au h' b=some x→Au st.h b=none→Ik≤b):Inv Z nt J' β' { s:=st.s,h:=h' } a w' where
 sim:=A.sim
 ss:=I.ss.ext A.ext
 tmps:=I.tmps
 defers:=I.defers
 os:=A.os.trans I.os
 tape:=A.tape.trans I.tape
 output:=A.output.trans I.output
 size:=Nat.le_trans I.size A.size
 frame k C D:=(A.frame k (Nat.lt_of_lt_of_le C I.size) (fun S=>D (I.wr k S C))).trans (I.frame k C D)
 wr k D C:=I.wr k (A.wr k D (Nat.lt_of_lt_of_le C I.size)) C
 jsub o k T:=A.ext.jsub o k (I.jsub o k T)
 jup o k T:=by
  rcases A.jup o k T with L | L | L
  ·exact I.jup o k L
  ·by_cases C:k<Z.w.heap.size
   ·exact .inr (.inl (I.wr k L C))
   ·exact .inr (.inr (by omega))
  ·exact .inr (.inr (Nat.le_trans I.size L))
 sizes k:=by
  refine Nat.le_trans (I.sizes k) ?_
  by_cases D:∃ b o,β b=some (k,o)
  ·obtain⟨b,o,F⟩:=D;exact A.ext.size b k o F
  ·by_cases C:k<w.heap.size
   ·have:=A.frame k C (fun ⟨b,x,o,_,_,_,F⟩=>D ⟨b,o,F⟩)
    simp[Bw,this]
   ·simp[Bw,Array.getElem?_eq_none (Nat.le_of_not_lt C)]
 outs b x0 x Y U hd:=by
  cases F:Au st.h b with
  | none=>have:=G b x U F;have:=I.zlt b x0 Y;unfold Ik at *;omega
  | some y =>
   obtain⟨x',⟨V,gm⟩,M⟩:=A.ext.blk b y F
   change Au h' b=some x at U
   rw[U] at V;simp at V;subst V
   rcases M with M | ⟨M,g3,g4,g5⟩
   ·simp[hd] at M
   ·obtain⟨⟨e1,em⟩,e2,e3,e4⟩:=I.outs b x0 y Y F M
    exact⟨⟨g3.trans e1,gm.trans em⟩,g4.trans e2,fun h=>(g5 (em.trans h)).trans (e3 h),e4⟩
 zlt:=I.zlt
 zge:=I.zge
theorem Inv.put (I:Inv Z nt J β st a w) {d:Option Nat} {v:AV} {vc:Value} (k:Rep J β st.h w v vc):Inv Z nt J β { s:=A08 nt st.s d v,h:=st.h } (a.put d vc) w where
 sim:=I.sim
 ss:=I.ss.put I.tmps k
 tmps:=by cases d<;>simp[Act.put,I.tmps]
 defers:=by cases d<;>simp[Act.put,I.defers]
 os:=I.os
 tape:=I.tape
 output:=I.output
 size:=I.size
 frame:=I.frame
 wr:=I.wr
 jsub:=I.jsub
 jup:=I.jup
 sizes:=I.sizes
 zlt:=I.zlt
 zge:=I.zge
 outs:=I.outs
theorem Acx {d:Nat} {F:List Nat} {h:Am}:∀ {ups:Ip},jJ d F h ups=true→∀ b,Bj ups b=true→(XF d b=true∧Au h b=none)∨(XF d b=false∧Kp F b=true∧∃ x,Au h b=some x)
 | [],_,b,C=>by simp[Bj] at C
 | (i,_)::r,k,b,C=>by
  rw[jJ] at k
  simp at k
  rw[Bj] at C
  cases hi:Nat.beq i b with
  | true =>
   have:i=b:=Nat.eq_of_beq_eq_true hi
   subst this
   cases hn:XF d i with
   | true=>rw[hn] at k;simp at k;exact .inl ⟨rfl,k.1⟩
   | false =>
    rw[hn] at k;simp at k
    obtain⟨⟨D,G⟩,_⟩:=k
    exact .inr ⟨rfl,D,Option.isSome_iff_exists.1 G⟩
  | false=>rw[hi] at C;exact Acx k.2 b (by simpa using C)
theorem Baf {d b:Nat} (hn:XF d b=true):Ik≤b:=by
 unfold XF nid at hn
 simp at hn
 unfold Ik;omega
theorem Asp {d:Nat} {F:List Nat} {h:Am} {ups:Ip} (D:jJ d F h ups=true) {b:Nat} {x:Blk} (k:Au (At ups h) b=some x) (hn:Au h b=none):Ik≤b:=by
 cases hi:Bj ups b with
 | false=>rw[Dp _ _ _ hi,hn] at k;cases k
 | true =>
  rcases Acx D b hi with⟨G,_⟩ | ⟨_,_,y,C⟩
  ·exact Baf G
  ·rw[hn] at C;cases C
theorem A1h {h:Am} {F:List Nat}:Looks (fun b=>cond (Kp F b) (Au h b) none) h:=fun b x k=>by
 cases C:Kp F b with
 | true=>simpa[C] using k
 | false=>simp[C] at k
theorem Alr {h:Am} {s:Hy} (H:SimS J β h w s a.tmps) {t:Bool} (k:TH ops s o=some t):Region.wanted o (yielded ops a.tmps)=t:=by
 unfold TH at k
 unfold Region.wanted
 split at k
 ·rename_i C;rw[C];simpa using k
 ·rename_i j want C
  rw[C]
  simp only
  unfold yielded
  split at k
  ·rename_i t' D
   rw[D]
   simp only[Option.bind_some]
   cases G:a.tmps[t']? with
   | none =>
    have:=H.out t' (by simpa using G)
    rw[this] at k;simp at k
   | some v =>
    have hr:=H.slot t' v G
    split at k
    ·rename_i b F
     rw[F,Rep] at hr;subst hr
     simp at k;subst k
     simp
    ·rename_i F
     rw[F,Rep] at hr
     obtain⟨cs,rfl,I⟩:=hr
     rw[Reps] at I;subst I
     simp at k;subst k
     simp
    ·simp at k
  ·rename_i D
   rw[D]
   simp at k;subst k
   simp
theorem Acy {E:Env} (hC:mR E) (I:Inv Z E.nt J β st a w) {k:St→Foot→O R} (D:Awk E ops o st k=some r) {K:Act→World→Prop} {Q:Exit→Act→World→Prop} :
  ∃ st' f,k st' f=some r∧((∀ F w' J' β',Inv Z E.nt J' β' st' F w'→K F w')→if Region.wanted o (yielded ops a.tmps) then o.wp E.P a w K Q else K (a.put o.dst undef) w):=by
 unfold Awk at D
 obtain⟨t,L,C⟩:=ub D
 rw[Alr I.ss L]
 cases t with
 | false =>
  refine⟨_,_,C,fun hK=>?_⟩
  simp only[Bool.false_eq_true,if_false]
  exact hK _ _ J β (I.put (by rw[Rep];exact⟨[],rfl,by rw[Reps]⟩))
 | true =>
  rw[cond_true] at C
  obtain⟨val,ups,M,S⟩:=A1g (o:=o) (next:=K) (Q:=Q) hC I.sim I.ss A1h C
  obtain⟨G,T⟩:=uc M
  refine⟨_,_,T,fun hK=>?_⟩
  simp only[if_true]
  refine S (fun b U hn=>?_) (fun vc w' V=>?_)
  ·rcases Acx G b U with⟨_,g⟩ | ⟨g,_⟩
   ·exact g
   ·rw[hn] at g;cases g
  ·obtain⟨J',β',A,Y⟩:=V
   exact hK _ _ J' β' ((I.step A (fun b x hx hn=>Asp G hx hn)).put Y)
def Eqv (a b:St):Prop:=(∀ t,G3 a.s t=G3 b.s t)∧(∀ b',Au a.h b'=Au b.h b')
theorem Eqv.refl (a:St):Eqv a a:=⟨fun _=>rfl,fun _=>rfl⟩
theorem Eqv.symm {a b:St} (h:Eqv a b):Eqv b a:=⟨fun t=>(h.1 t).symm,fun t=>(h.2 t).symm⟩
theorem Eqv.trans {a b c:St} (h:Eqv a b) (k:Eqv b c):Eqv a c:=⟨fun t=>(h.1 t).trans (k.1 t),fun t=>(h.2 t).trans (k.2 t)⟩
theorem Inv.eqv {nt:Nat} {J:Bool→Nat→Prop} {β:C8} {st oX:St} {a:Act} {w:World} (I:Inv Z nt J β st a w) (h:Eqv st oX):Inv Z nt J β oX a w:=by
 have hr:∀ {x v},Rep J β st.h w x v→Rep J β oX.h w x v:=fun F=>Rep.ext ⟨fun _ _ G=>G,fun _ _ _=>rfl,fun b x C=>⟨x,⟨by rw[←h.2 b];exact C,rfl⟩,by cases D:x.dead<;>simp⟩,fun _ _ _ _=>Nat.le_refl _⟩ F
 refine⟨⟨I.sim.jlt,I.sim.jft,fun b x C D L=>?_,fun b x C D L=>I.sim.mblk b x (by rw[h.2];exact C) D L,fun b U x x' k o o' C M=>I.sim.sep b U x x' k o o' (by rw[h.2];exact C) (by rw[h.2];exact M)⟩,⟨fun i v V=>by rw[←h.1 i];exact hr (I.ss.slot i v V),fun i hi=>by rw[←h.1 i];exact I.ss.out i hi⟩,I.tmps,I.defers,I.os,I.tape,I.output,I.size,I.frame,?_,I.jsub,I.jup,I.sizes,I.zlt,I.zge,fun b x0 x Y F=>I.outs b x0 x Y (by rw[h.2];exact F)⟩
 ·rcases I.sim.blk b x (by rw[h.2];exact C) D L with S | ⟨k,o,cs,ty,fr,S,h2,h3,h4,T,h6⟩
  ·exact .inl S
  ·exact .inr ⟨k,o,cs,ty,fr,S,h2,h3,h4,⟨T.1,fun hp j c G=>by
    obtain⟨u,g1,g2,g3⟩:=T.2 hp j c G
    exact⟨u,g1,hr g2,g3⟩⟩,h6⟩
 ·rintro k ⟨b,x,o,C,D,hs,hβ⟩ hk
  exact I.wr k ⟨b,x,o,by rw[h.2];exact C,D,hs,hβ⟩ hk
theorem Acz {st:St} {k:St→O R} (C:tM ops o st k=some r):∃ st',Eqv st st'∧k st'=some r:=by
 unfold tM at C
 split at C
 ·exact⟨st,Eqv.refl _,C⟩
 ·rename_i j want I
  split at C
  ·exact⟨st,Eqv.refl _,C⟩
  ·rename_i t L
   split at C
   ·rename_i b F
    have key:∀ c:Bool,b=c→Eqv st { s:=mJ st.s t (.bool c),h:=st.h }:=by
     intro c G
     refine⟨fun i=>?_,fun _=>rfl⟩
     simp only
     rw[Pz]
     by_cases e:i=t
     ·subst e;rw[if_pos rfl,F,G]
     ·rw[if_neg e]
    cases D:(b==want) with
    | true =>
     rw[D] at C
     exact⟨_,key want (by simpa using D),C⟩
    | false =>
     rw[D] at C
     exact⟨_,key (!want) (by cases b<;>cases want<;>simp_all),C⟩
   ·exact⟨st,Eqv.refl _,C⟩
theorem Ac0 {E:Env} (hC:mR E) {Q:Exit→Act→World→Prop}:∀ (l:List Oper) {st:St} {tr:List Foot} {k:St→List Foot→O R} {a:Act} {w:World} {J:Bool→Nat→Prop} {β:C8},
  Inv Z E.nt J β st a w→Aci E ops l st tr k=some r→(∀ st' D F w' J' β',Inv Z E.nt J' β' st' F w'→k st' D=some r→Q .normal F w')→wpList E.P ops Q l a w
 | [],st,tr,k,a,w,J,β,I,C,hQ=>hQ st tr a w J β I C
 | o::l,st,tr,k,a,w,J,β,I,C,hQ=>by
  rw[Aci] at C
  obtain⟨Aos,L,C⟩:=Acz C
  obtain⟨st',f,M,S⟩:=Acy (K:=wpList E.P ops Q l) (Q:=Q) hC (I.eqv L) C
  have:=S (fun F w' J' β' I'=>Ac0 hC l I' M hQ)
  rw[wpList]
  split
  ·rename_i G;rw[if_pos G] at this;exact .inl this
  ·rename_i G;rw[if_neg G] at this;exact this
end
end Gx

namespace Gx
open Go
theorem M6:∀ {l:List Nat} {b:Nat},Kp l b=true↔b ∈ l
  | [],b=>by simp[Kp]
  | i::r,b=>by
    rw[Kp]
    cases hi:Nat.beq i b with
    | true=>have:=Nat.eq_of_beq_eq_true hi;subst this;simp
    | false => have := AR hi; simp only [cond_false, List.mem_cons]; rw [M6]; constructor
               · exact fun h=>.inr h
               · rintro(h | h)
                 · exact absurd h.symm this
                 · exact h
theorem Wv:∀ {l:List Nat},b9 l=true→l.Nodup
 | [],_=>List.nodup_nil
 | i::r,h=>by
  rw[b9] at h;simp at h
  refine List.nodup_cons.2 ⟨fun k=>?_,Wv h.2⟩
  rw[M6.2 k] at h;simp at h
theorem tR {g:Cb} {ids:List Nat}:∀ {l:List Nat},Ack g ids l=true→∀ b ∈ l,∀ x,Lf g b=some x→b ∈ ids
 | [],_,b,k,_,_=>by simp at k
 | i::r,h,b,k,x,D=>by
  rw[Ack] at h;simp at h
  rcases List.mem_cons.1 k with e | k
  ·subst e
   rcases h.1 with C | C
   ·exact M6.1 C
   ·rw[D] at C;simp at C
  ·exact tR h.2 b k x D
theorem Aw0:∀ {l:List Nat},A49 l=true→∀ b ∈ l,Ik≤b→M5 b<100000
 | [],_,b,k,_=>by simp at k
 | i::r,h,b,k,hn=>by
  rw[A49] at h;simp at h
  rcases List.mem_cons.1 k with e | k
  ·subst e
   have:Nat.ble Ik b=true:=by simpa using hn
   rw[this] at h;simpa using h.1
  ·exact Aw0 h.2 b k hn
theorem EY (g:Cb):∀ c:LA,(Ls g c).length=c.length
 | []=>rfl
 | x::r=>by rw[Ls,List.length_cons,List.length_cons,EY g r]
section
variable {R:Type} {r:R} {Z:Start} {nt:Nat} {J J':Bool→Nat→Prop} {β β':C8} {st:St} {h h':Am} {a:Act} {w w':World} {ids:List Nat}
def Qy (g:Cb) (x:Blk):Blk:={ x with cells:=cond x.pure x.cells (Ls g x.cells) }
theorem mS {g:Cb}:∀ {ids:List Nat},(ids.map M5).Nodup→∀ c y,Au (EU g ids) c=some y→∃ b x,b ∈ ids∧M5 b=c∧Lf g b=some x∧y=Qy g x
 | [],_,c,y,k=>by simp[EU,Au] at k
 | b::r,hn,c,y,k=>by
  rw[List.map_cons,List.nodup_cons] at hn
  rw[EU] at k
  split at k
  ·rename_i x L
   rw[Ai] at k
   by_cases e:c=M5 b
   ·rw[if_pos e] at k;simp at k
    exact⟨b,x,by simp,e.symm,L,k.symm⟩
   ·rw[if_neg e] at k
    obtain⟨C,x',D,F,G,I⟩:=mS hn.2 c y k
    exact⟨C,x',by simp[D],F,G,I⟩
  ·obtain⟨C,x',D,F,G,I⟩:=mS hn.2 c y k
   exact⟨C,x',by simp[D],F,G,I⟩
theorem EZ {g:Cb}:∀ {ids:List Nat},(ids.map M5).Nodup→∀ b x,b ∈ ids→Lf g b=some x→Au (EU g ids) (M5 b)=some (Qy g x)
 | [],_,b,x,k,_=>by simp at k
 | F::r,hn,b,x,k,C=>by
  rw[List.map_cons,List.nodup_cons] at hn
  rw[EU]
  by_cases e:b=F
  ·subst e
   rw[C]
   simp only
   rw[Ai,if_pos rfl];rfl
  ·have D:b ∈ r:=by simpa[e] using k
   have ne:M5 b≠M5 F:=fun h=>hn.1 (by rw[←h];exact List.mem_map.2 ⟨b,D,rfl⟩)
   split
   ·rw[Ai,if_neg ne];exact EZ hn.2 b x D C
   ·exact EZ hn.2 b x D C
def Ac1 (ids:List Nat) (c:Nat):Option Nat:=ids.find? fun b=>Nat.beq (M5 b) c
theorem Nm (hn:(ids.map M5).Nodup) {b:Nat} (k:b ∈ ids):Ac1 ids (M5 b)=some b:=by
 induction ids with
 | nil=>simp at k
 | cons i r C =>
  rw[List.map_cons,List.nodup_cons] at hn
  unfold Ac1 at C ⊢
  rw[List.find?_cons]
  by_cases e:b=i
  ·subst e;simp
  ·have D:b ∈ r:=by simpa[e] using k
   have ne:M5 i≠M5 b:=fun h=>hn.1 (by rw[h];exact List.mem_map.2 ⟨b,D,rfl⟩)
   rw[iZ ne];exact C hn.2 D
def Bd4 (g:Cb) (ids:List Nat) (l:List Nat):Prop:=∀ b ∈ l,∀ x,Lf g b=some x→b ∈ ids
theorem A6z {b:Nat}:Lf (Au h) b=(Au h b).bind fun x=>cond x.dead none (some x):=rfl
theorem mT {b:Nat} {x y:Blk} (D:Au h b=some x) (k:Lf (Au h) b=some y):y=x∧x.dead=false:=by
 rw[A6z,D] at k
 cases C:x.dead with
 | true=>simp[C] at k
 | false=>simp[C] at k;exact⟨k.symm,rfl⟩
mutual
theorem Rep.clean (hn:(ids.map M5).Nodup):∀ {x:AV} {v:Value},Bd4 (Au h) ids (Hz x)→Rep J β h w x v →
  Rep J (fun c=>(Ac1 ids c).bind β) (EU (Au h) ids) w (ET (Au h) x) v
 | .own b off n,v,hm,hr=>by
  rw[Rep] at hr
  obtain⟨x,A,cap,⟨hx,hmp⟩,h1,h2,h3⟩:=hr
  rw[ET]
  cases hv:Lf (Au h) b with
  | none=>simp only;rw[Rep];trivial
  | some y =>
   obtain⟨rfl,hd⟩:=mT hx hv
   have hb:=hm b (by simp[Hz]) _ hv
   simp only
   rw[Rep]
   refine⟨Qy (Au h) y,A,cap,⟨EZ hn b y hb hv,hmp⟩,h1,h2,?_⟩
   rcases h3 with h3 | ⟨k,o,h4,h5⟩
   ·exact .inl h3
   ·refine .inr ⟨k,o,h4,?_⟩
    rcases h5 with h5 | ⟨h5,h6,h7⟩
    ·simp[hd] at h5
    ·refine .inr ⟨by rw[Nm hn hb];exact h5,h6,?_⟩
     have:(Qy (Au h) y).cells.length=y.cells.length:=by
      unfold Qy;cases y.pure
      ·simp;exact EY _ _
      ·rfl
     rw[this];exact h7
 | .optr b off,v,hm,hr=>by
  rw[Rep] at hr
  obtain⟨x,k,o,⟨hx,hmp⟩,h1,h2⟩:=hr
  rw[ET]
  cases hv:Lf (Au h) b with
  | none=>simp only;rw[Rep];trivial
  | some y =>
   obtain⟨rfl,hd⟩:=mT hx hv
   have hb:=hm b (by simp[Hz]) _ hv
   simp only
   rw[Rep]
   refine⟨Qy (Au h) y,k,o,⟨EZ hn b y hb hv,hmp⟩,h1,?_⟩
   rcases h2 with h2 | h2
   ·simp[hd] at h2
   ·exact .inr (by rw[Nm hn hb];exact h2)
 | .omap b,v,hm,hr=>by
  rw[Rep] at hr
  obtain⟨x,k,⟨hx,hmp⟩,h1,h2⟩:=hr
  rw[ET]
  cases hv:Lf (Au h) b with
  | none=>simp only;rw[Rep];trivial
  | some y =>
   obtain⟨rfl,hd⟩:=mT hx hv
   have hb:=hm b (by simp[Hz]) _ hv
   simp only
   rw[Rep]
   refine⟨Qy (Au h) y,k,⟨EZ hn b y hb hv,hmp⟩,h1,?_⟩
   rcases h2 with h2 | h2
   ·simp[hd] at h2
   ·exact .inr (by rw[Nm hn hb];exact h2)
 | .agg c,v,hm,hr=>by
  rw[Rep] at hr
  obtain⟨cs,h1,h2⟩:=hr
  rw[ET,Rep]
  exact⟨cs,h1,Reps.clean hn (by simpa[Hz] using hm) h2⟩
 | .tup c,v,hm,hr=>by
  rw[Rep] at hr
  obtain⟨cs,h1,h2⟩:=hr
  rw[ET,Rep]
  exact⟨cs,h1,Reps.clean hn (by simpa[Hz] using hm) h2⟩
 | .fn f c,v,hm,hr=>by
  rw[Rep] at hr
  obtain⟨cs,h1,h2⟩:=hr
  rw[ET,Rep]
  exact⟨cs,h1,Reps.clean hn (by simpa[Hz] using hm) h2⟩
 | .pagg c o,v,hm,hr=>by show Rep J _ _ w (.pagg c o) v;rw[Rep] at hr ⊢;exact hr
 | .undef,v,hm,hr=>by show Rep J _ _ w (.undef) v;rw[Rep] at hr ⊢;exact hr
 | .imm c n sz t o,v,hm,hr=>by show Rep J _ _ w (.imm c n sz t o) v;rw[Rep] at hr ⊢;exact hr
 | .iptr c o,v,hm,hr=>by show Rep J _ _ w (.iptr c o) v;rw[Rep] at hr ⊢;exact hr
 | .int k n,v,hm,hr=>by show Rep J _ _ w (.int k n) v;rw[Rep] at hr ⊢;exact hr
 | .bool b,v,hm,hr=>by show Rep J _ _ w (.bool b) v;rw[Rep] at hr ⊢;exact hr
 | .str s,v,hm,hr=>by show Rep J _ _ w (.str s) v;rw[Rep] at hr ⊢;exact hr
 | .nsl,v,hm,hr=>by show Rep J _ _ w (.nsl) v;rw[Rep] at hr ⊢;exact hr
 | .nilptr,v,hm,hr=>by show Rep J _ _ w (.nilptr) v;rw[Rep] at hr ⊢;exact hr
 | .nilfn,v,hm,hr=>by show Rep J _ _ w (.nilfn) v;rw[Rep] at hr ⊢;exact hr
theorem Reps.clean (hn:(ids.map M5).Nodup):∀ {c:List AV} {cs:List Value},Bd4 (Au h) ids (Ju c)→Reps J β h w c cs →
  Reps J (fun c=>(Ac1 ids c).bind β) (EU (Au h) ids) w (Ls (Au h) c) cs
 | [],cs,hm,hr=>by rw[Reps] at hr;rw[Ls,Reps];exact hr
 | x::r,cs,hm,hr=>by
  rw[Reps] at hr
  obtain⟨u,us,h1,h2,h3⟩:=hr
  rw[Ls,Reps]
  exact⟨u,us,h1,Rep.clean hn (fun b hb=>hm b (by simp[Ju,hb])) h2,Reps.clean hn (fun b hb=>hm b (by simp[Ju,hb])) h3⟩
end
theorem IT {g:Cb} {K:List Nat}:∀ {s:Hy} {i:Nat},G3 (tN g K s) i=if Kp K i=true then ET g (G3 s i) else .undef
 | [],i=>by
  simp only[tN,G3]
  show AV.undef=if Kp K i=true then AV.undef else AV.undef
  split<;>rfl
 | (t,v)::r,i=>by
  rw[tN,G3]
  cases k:Kp K t with
  | true =>
   simp only[cond_true,G3]
   cases hi:Nat.beq t i with
   | true =>
    have:=Nat.eq_of_beq_eq_true hi;subst this
    simp[k]
   | false=>simp only[cond_false];exact IT
  | false =>
   simp only[cond_false]
   rw[IT]
   cases hi:Nat.beq t i with
   | true =>
    have:=Nat.eq_of_beq_eq_true hi;subst this
    simp[k]
   | false=>rfl
theorem Ac2 {K:List Nat}:∀ {s:Hy} {i:Nat},Kp K i=true→∀ b ∈ Hz (G3 s i),b ∈ Acj K s
 | [],i,_,b,k=>by simp[G3,Hz] at k
 | (t,v)::r,i,C,b,k=>by
  rw[G3] at k
  rw[Acj]
  cases hi:Nat.beq t i with
  | true =>
   have:=Nat.eq_of_beq_eq_true hi;subst this
   rw[hi] at k
   rw[C];simp at k ⊢;exact .inl k
  | false =>
   rw[hi] at k
   have:=Ac2 C b k
   cases Kp K t
   ·exact this
   ·simp;exact .inr this
theorem tS {g:Cb}:∀ {ids:List Nat} {b:Nat} {x:Blk},b ∈ ids→g b=some x→x.pure=false→∀ c ∈ Ju x.cells,c ∈ M0 g ids
 | [],b,x,k,_,_,_,_=>by simp at k
 | i::r,b,x,k,C,D,c,F=>by
  rw[M0]
  by_cases e:b=i
  ·subst e;rw[C];simp only[D,cond_false];exact List.mem_append.2 (.inl F)
  ·exact List.mem_append.2 (.inr (tS (by simpa[e] using k) C D c F))
theorem tT:∀ {c:LA} {j:Nat} {x:AV},c[j]?=some x→∀ b ∈ Hz x,b ∈ Ju c
 | [],j,x,k,_,_=>by simp at k
 | y::r,j,x,k,b,C=>by
  rw[Ju]
  cases j with
  | zero=>simp at k;subst k;exact List.mem_append.2 (.inl C)
  | succ j=>exact List.mem_append.2 (.inr (tT (by simpa using k) b C))
theorem vu {g:Cb}:∀ {c:LA} {j:Nat} {y:AV},(Ls g c)[j]?=some y→∃ x,c[j]?=some x∧y=ET g x
 | [],j,y,k=>by simp[Ls] at k
 | x::r,j,y,k=>by
  rw[Ls] at k
  cases j with
  | zero=>simp at k;exact⟨x,by simp,k.symm⟩
  | succ j=>obtain⟨x',C,D⟩:=vu (c:=r) (j:=j) (by simpa using k);exact⟨x',by simpa using C,D⟩
theorem A60 {b:Nat} (k:b<Ik):M5 b=b:=by
 unfold M5
 have:Nat.ble Ik b=false:=by
  cases h:Nat.ble Ik b with
  | false=>rfl
  | true=>have:=Nat.le_of_ble_eq_true h;omega
 rw[this];rfl
theorem Aw1 {K roots:List Nat} {st':St} (I:Inv Z nt J β st a w) (hh:clean K roots st=some st'):∃ β',Inv Z nt J β' st' a w:=by
 unfold clean at hh
 obtain⟨hc,h1⟩:_∧_:=uc hh
 simp only[Bool.and_eq_true] at hc
 obtain⟨c1,c2,c3,c4⟩:=hc
 generalize hids:IQ (Au st.h) (ES (Au st.h) (Acj K st.s++roots))=ids at *
 simp at h1
 have hn:=Wv c1
 have blk:∀ c y,Au (EU (Au st.h) ids) c=some y→∃ b x,b ∈ ids∧M5 b=c∧Au st.h b=some x∧x.dead=false∧y=Qy (Au st.h) x:=by
  intro c y L
  obtain⟨b,x,S,T,Y,g4⟩:=mS hn c y L
  have D:Au st.h b=some x∧x.dead=false:=Py (fun _ _ h=>h) Y
  exact⟨b,x,S,T,D.1,D.2,g4⟩
 have M:∀ x:Blk,(Qy (Au st.h) x).cells.length=x.cells.length:=fun x=>by
  unfold Qy;cases x.pure
  ·simp;exact EY _ _
  ·rfl
 refine⟨fun c=>(Ac1 ids c).bind β,?_⟩
 subst h1
 refine⟨⟨I.sim.jlt,I.sim.jft,fun c y L hd hm=>?_,fun c y L hd hm=>by
   obtain⟨b,x,F,rfl,D,C,rfl⟩:=blk c y L
   obtain⟨S,T,k,es,clk,Y,g4,g5,g6⟩:=I.sim.mblk b x D C hm
   have:(Qy (Au st.h) x).cells=x.cells:=by unfold Qy;rw[S];rfl
   exact⟨S,T,k,es,clk,by simp only[Nm hn F,Option.bind_some];exact Y,g4,by rw[this];exact g5,g6⟩,?_⟩,⟨fun i v hv=>?_,fun i hi=>?_⟩,I.tmps,I.defers,I.os,I.tape,I.output,I.size,I.frame,?_,I.jsub,I.jup,I.sizes,I.zlt,I.zge,?_⟩
 ·obtain⟨b,x,F,rfl,D,C,rfl⟩:=blk c y L
  rcases I.sim.blk b x D C hm with⟨S,T⟩ | ⟨k,o,cs,ty,fr,S,T,Y,g4,g5,g6,g7⟩
  ·refine .inl ⟨by simp only[Nm hn F,Option.bind_some];exact S,?_⟩
   have:=M x;rw[T] at this;simpa using this
  ·refine .inr ⟨k,o,cs,ty,fr,by simp only[Nm hn F,Option.bind_some];exact S,T,Y,by rw[M];exact g4,⟨fun hp=>?_,fun hp j q hj=>?_⟩,g6,g7⟩
   ·have G:x.pure=true:=hp
    have:(Qy (Au st.h) x).cells=x.cells:=by unfold Qy;rw[G];rfl
    rw[this];exact g5.1 G
   ·have G:x.pure=false:=hp
    have:(Qy (Au st.h) x).cells=Ls (Au st.h) x.cells:=by unfold Qy;rw[G];rfl
    rw[this] at hj
    obtain⟨q',hq,rfl⟩:=vu hj
    obtain⟨u,hu,hr,ho⟩:=g5.2 G j q' hq
    exact⟨u,hu,Rep.clean hn (fun b' U x' V=>tR c3 b' (tS F D G b' (tT hq b' U)) x' V) hr,ho⟩
 ·intro c c' y y' k o o' L hy' hd hd' hs hβ hβ'
  obtain⟨b,x,F,rfl,D,C,rfl⟩:=blk c y L
  obtain⟨b',x',U,rfl,V,hxd',rfl⟩:=blk c' y' hy'
  simp only[Nm hn F,Option.bind_some] at hβ
  simp only[Nm hn U,Option.bind_some] at hβ'
  rw[I.sim.sep b b' x x' k o o' D V C hxd' hs hβ hβ']
 ·rw[IT]
  split
  ·rename_i hk
   exact Rep.clean hn (fun b F x D=>tR c2 b (Ac2 hk b F) x D) (I.ss.slot i v hv)
  ·rw[Rep];trivial
 ·rw[IT,I.ss.out i hi]
  split
  ·rfl
  ·rfl
 ·rintro k ⟨c,y,o,L,hd,hs,hβ⟩ hk
  obtain⟨b,x,F,rfl,D,C,rfl⟩:=blk c y L
  simp only[Nm hn F,Option.bind_some] at hβ
  exact I.wr k ⟨b,x,o,D,C,hs,hβ⟩ hk
 ·intro c x0 y h0 L hd
  obtain⟨b,x,F,rfl,D,C,rfl⟩:=blk c y L
  have hlt:=I.zlt _ _ h0
  have hge:=I.zge _ _ h0
  have hbo:M5 b=b:=by
   by_cases hnb:Ik≤b
   ·have:=Aw0 c4 b F hnb;omega
   ·exact A60 (by omega)
  rw[hbo] at h0
  obtain⟨⟨e1,em⟩,e2,e3,e4⟩:=I.outs b x0 x h0 D C
  refine⟨⟨?_,em⟩,e2,by rw[M];exact e3,e4⟩
  simp only[Nm hn F,Option.bind_some];rw[hbo];exact e1
end
end Gx

namespace Gx
open Go
section
variable {R:Type}
theorem A1 {α β:Type} (b:Bool) (x y:Option α) (f:α→Option β):(cond b x y).bind f=cond b (x.bind f) (y.bind f):=by cases b<;>rfl
theorem TO {R':Type} (P:Program) (t:TypeId) (c:LA) (o:Bool) (k:Bool→Option R') (f:R'→O R):(CK P t c o k).bind f=CK P t c o fun o=>(k o).bind f:=by
 unfold CK;simp only[A1,Option.bind_none]
theorem Ww (P:Program) (t:TypeId) (c:LA) (org:Bool) (k:AV→O R):bZ P t c org k=(bZ P t c org some).bind k:=by
 unfold bZ
 split<;>simp[Option.bind_assoc,A1,TO]<;>rfl
theorem A1i (P:Program) (t:TypeId) (c:LA) (k:AV→O R):ve P t c k=(ve P t c some).bind k:=by
 unfold ve
 split<;>simp[Option.bind_assoc,A1]
theorem vw (n:Nat) (k:AV→O R):∀ (c:LA) (i:Nat),TE n k c i=(TE n some c i).bind k
 | [],_=>rfl
 | v::r,i=>by rw[TE,TE,A1,vw n k r (i+1)];rfl
theorem vz (P:Program) (t:TypeId) (c:LA) (off:Nat) (k:AV→O R):b6 P t c off k=(b6 P t c off some).bind k:=by
 unfold b6
 split
 ·simp[Option.bind_assoc,A1]
 ·simp[Option.bind_assoc,A1]
 ·exact vw ..
 ·rfl
theorem TP (P:Program) (g:Cb) (t:TypeId) (p:AV) (k:AV→O R):Ace P g t p k=(Ace P g t p some).bind k:=by
 unfold Ace
 split
 ·exact Ww ..
 ·rw[Option.bind_assoc]
  congr 1;funext x
  rw[A1,←Ww,←vz]
 ·rfl
theorem XK (P:Program) (t:TypeId) (x i:AV) (k:AV→O R):Wq P t x i k=(Wq P t x i some).bind k:=by
 unfold Wq
 split<;>simp[Option.bind_assoc,A1]
theorem XL (P:Program) (t:TypeId) (x:AV) (f:Nat) (k:AV→O R):Wr P t x f k=(Wr P t x f some).bind k:=by
 unfold Wr
 simp only[Option.bind_assoc,A1]
 congr 1;funext p;congr 1;funext n;congr 1
 split<;>rfl
theorem wB (P:Program) (t:TypeId) (x:AV) (f:Nat) (k:AV→O R):tF P t x f k=(tF P t x f some).bind k:=by
 unfold tF
 rw[Option.bind_assoc]
 congr 1;funext p
 split
 ·exact Ww ..
 ·exact A1i ..
 ·rfl
theorem wC (P:Program) (t:TypeId) (x i:AV) (k:AV→O R):tG P t x i k=(tG P t x i some).bind k:=by
 unfold tG
 split
 ·simp[A1]
 ·simp only[Option.bind_assoc,A1,←Ww];rfl
 ·simp only[Option.bind_assoc,A1,←vz];rfl
 ·rfl
theorem CP {α:Type} (lo hi mx:Option AV) (n:Nat) (f:Nat→Nat→α) (k:α→O R):(CL lo hi mx n fun l h=>k (f l h))=(CL lo hi mx n fun l h=>some (f l h)).bind k:=by
 unfold CL
 simp[Option.bind_assoc,A1]
theorem wD (P:Program) (g:Cb) (t:TypeId) (x:AV) (lo hi mx:Option AV) (k:AV→O R):tH P g t x lo hi mx k=(tH P g t x lo hi mx some).bind k:=by
 unfold tH
 split
 ·rw[A1,←CP];rfl
 ·rw[Option.bind_assoc];congr 1;funext _;exact CP lo hi mx 0 (fun _ _=>AV.nsl) k
 ·rw[Option.bind_assoc];congr 1;funext _;rw[A1,←CP];rfl
 ·rw[Option.bind_assoc];congr 1;funext _;rw[Option.bind_assoc];congr 1;funext _;rw[A1,←CP];rfl
 ·rfl
theorem A61 (P:Program) (t:TypeId) (op:BinOp) (x y:AV) (k:AV→O R):A6q P t op x y k=(A6q P t op x y some).bind k:=by
 unfold A6q
 split
 ·split<;>simp[A1]
 ·split<;>simp[A1]
 ·split<;>simp[A1]
 ·rfl
def pr (v:AV) (u:Ip):Option (AV×Ip):=some (v,u)
theorem Aw2 (P:Program) (g:Cb) (t:TypeId) (p v:AV) (k:AV→Ip→O R):tI P g t p v k=(tI P g t p v pr).bind fun q=>k q.1 q.2:=by
 unfold tI
 split
 ·simp only[Option.bind_assoc,A1]
  congr 1;funext x;congr 1;funext n;congr 1;congr 1
  split<;>simp[A1,pr]
 ·rfl
theorem mU (P:Program) (c:LA) (org:Bool):∀ (L:List (Nat×TypeId)) (C:LA) (k:LA→O R),oJ P c org L C k=(oJ P c org L C some).bind k
 | [],C,k=>rfl
 | (off,t)::L,C,k=>by
  rw[oJ,oJ,A1]
  congr 1
  rw[Ww,Ww (k:=fun v=>oJ P c org L (C++[v]) some),Option.bind_assoc]
  congr 1;funext v
  exact mU P c org L _ k
theorem wE (P:Program) (co:Bool) (t:TypeId) (v:AV) (k:AV→O R):tK P co t v k=(tK P co t v some).bind k:=by
 unfold tK
 split
 ·rename_i c org
  rw[mU,mU (k:=fun l=>cond (Nat.beq c.length l.length) (some (AV.agg l)) none),Option.bind_assoc]
  congr 1;funext l
  rw[A1];rfl
 ·rfl
theorem Aot (P:Program) (g:Cb) (d:Nat) (t:TypeId) (v:AV) (k:AV→Ip→O R):Awh P g d t v k=(Awh P g d t v pr).bind fun q=>k q.1 q.2:=by
 unfold Awh
 split<;>simp[Option.bind_assoc,A1,pr]
theorem tU (P:Program) (g:Cb) (d:Nat) (t:TypeId) (len:Nat) (ps:List (Nat×AV)) (k:AV→Ip→O R):Tn P g d t len ps k=(Tn P g d t len ps pr).bind fun q=>k q.1 q.2:=by
 unfold Tn
 split<;>simp[Option.bind_assoc,A1,pr,OG]
theorem zr (P:Program) (g:Cb) (d:Nat) (t:TypeId) (len:Nat) (ps:List (Nat×AV)) (k:AV→Ip→O R):Ws P g d t len ps k=(Ws P g d t len ps pr).bind fun q=>k q.1 q.2:=by
 unfold Ws;rfl
theorem A62 (P:Program) (t:TypeId) (co:Bool) (d:Nat) (v:AV) (k:AV→Ip→O R):A6s P t co d v k=(A6s P t co d v pr).bind fun q=>k q.1 q.2:=by
 unfold A6s
 split<;>simp[A1,pr]
theorem A1j (P:Program) (d:Nat) (t:TypeId) (l c:AV) (k:AV→Ip→O R):Aoh P d t l c k=(Aoh P d t l c pr).bind fun q=>k q.1 q.2:=by
 unfold Aoh
 split<;>simp[Option.bind_assoc,A1,pr]
theorem Asq (P:Program) (g:Cb) (d:Nat) (t tx:TypeId) (s x:AV) (k:AV→Ip→O R):g8 P g d t tx s x k=(g8 P g d t tx s x pr).bind fun q=>k q.1 q.2:=by
 unfold g8 mK
 split<;>simp[Option.bind_assoc,A1,pr,TO]
theorem A1k (P:Program) (g:Cb) (t:TypeId) (s x:AV) (k:AV→Ip→O R):Aoi P g t s x k=(Aoi P g t s x pr).bind fun q=>k q.1 q.2:=by
 unfold Aoi mK
 split<;>simp[Option.bind_assoc,A1,pr,TO]
theorem A1l (P:Program) (g:Cb) (d:Nat) (src dst:TypeId) (x:AV) (k:AV→Ip→O R):Aoj P g d src dst x k=(Aoj P g d src dst x pr).bind fun q=>k q.1 q.2:=by
 unfold Aoj
 split
 ·split<;>simp[A1,pr]
 ·rfl
theorem mV {R':Type} {f:R'→O R} {s1:TypeId→LA→LA→(Bool→Option R')→Option R'} {s2:TypeId→LA→LA→(Bool→O R)→O R} (hs:∀ t x y k,(s1 t x y k).bind f=s2 t x y fun b=>(k b).bind f) {x y:LA} :
  ∀ (l:List (Nat×TypeId)) (k:Bool→Option R'),(N_ s1 x y l k).bind f=N_ s2 x y l fun b=>(k b).bind f
 | [],k=>rfl
 | (o,t)::r,k=>by
  rw[N_,N_,hs]
  congr 1;funext b
  exact mV hs r _
theorem gn {R':Type} {f:R'→O R} (P:Program):∀ (d:Nat) (t:TypeId) (x y:LA) (k:Bool→Option R'),(zq P d t x y k).bind f=zq P d t x y fun b=>(k b).bind f
 | 0,t,x,y,k=>rfl
 | d+1,t,x,y,k=>by
  rw[zq,zq]
  split<;>simp only[Option.bind_assoc,A1,Option.bind_none]
  ·congr 1;funext sz;rw[mV (gn P d)]
  ·congr 1;funext s;congr 1;funext sz;rw[mV (gn P d)]
theorem Ac3 (P:Program) (t:TypeId) (op:BinOp) (x y:AV) (k:AV→O R):Aof P t op x y k=(Aof P t op x y some).bind k:=by
 unfold Aof
 split
 ·rw[Option.bind_assoc]
  congr 1;funext s
  rw[A1]
  congr 1
  split
  ·rw[gn];rfl
  ·rw[gn];rfl
  ·rfl
 ·exact A61 ..
theorem Ac4 (c x y:AV) (k:AV→O R):Aom c x y k=(Aom c x y some).bind k:=by
 unfold Aom
 split<;>first | rfl | (rw[A1];rfl)
theorem Aw3 (P:Program) (g:Cb) (co:Bool) (d:Nat) (t:TypeId) (k:AV→Ip→O R):tJ P g co d t k=(tJ P g co d t pr).bind fun q=>k q.1 q.2:=by
 unfold tJ
 split
 ·rw[Option.bind_assoc];rfl
 ·exact Aot ..
 ·rfl
theorem Ac5:∀ (T:List (Nat×Tw)) (f:Nat) (C:LA) (h:Am) (k:AV→Am→O R),oL T f C h k=(oL T f C h fun v h'=>some (v,h')).bind fun p=>k p.1 p.2
 | [],f,C,h,k=>rfl
 | (g,t)::r,f,C,h,k=>by
  rw[oL,oL]
  cases Nat.beq g f
  ·exact Ac5 r f C h k
  ·exact t.eq C h k
theorem A1m (E:Env) (g:Cb) (d f:Nat) (C:LA) (k:AV→Ip→O R):Aol E g d f C k=(Aol E g d f C pr).bind fun q=>k q.1 q.2:=by
 unfold Aol
 rw[Option.bind_assoc]
 congr 1;funext q
 simp only[A1,Option.bind_none]
 congr 1
 rw[Ac5,Ac5 (R:=AV×Ip),Option.bind_assoc]
 congr 1;funext p
 simp only[A1,Option.bind_none,pr,Option.bind_some]
theorem Als (d:Nat) (o:Option AV) (k:AV→Ip→O R):ER d o k=(ER d o pr).bind fun q=>k q.1 q.2:=by
 unfold ER
 split<;>rfl
theorem Aw4 (P:Program) (g:Cb) (t:TypeId) (m x y:AV) (k:AV→Ip→O R):tL P g t m x y k=(tL P g t m x y pr).bind fun q=>k q.1 q.2:=by
 unfold tL
 split<;>simp[A1,Option.bind_assoc,pr]
theorem Ac6 (P:Program) (g:Cb) (t:TypeId) (m x:AV) (c:Bool) (k:AV→O R):Aok P g t m x c k=(Aok P g t m x c some).bind k:=by
 unfold Aok
 split<;>simp[A1,Option.bind_assoc]
theorem A63 (E:Env) (g:Cb) (d:Nat) (v:Operand→AV) (o:Op) (k:AV→Ip→O R):Aln E g d v o k=(Aln E g d v o pr).bind fun q=>k q.1 q.2:=by
 unfold Aln
 split
 ·rfl
 ·rfl
 ·rw[Ac4,Ac4 (k:=fun r=>pr r []),Option.bind_assoc];rfl
 ·exact Aw3 ..
 ·rw[wE,wE (k:=fun u=>Awh E.P g d _ u pr),Option.bind_assoc];congr 1;funext u;exact Aot ..
 ·rw[mP,mP,Option.bind_assoc];congr 1;funext x;exact A62 ..
 ·rw[A1,←zr,←tU]
 ·rw[TP,TP (k:=fun r=>pr r []),Option.bind_assoc];rfl
 ·exact Aw2 ..
 ·split<;>rfl
 ·rw[Ac3,Ac3 (k:=fun r=>pr r []),Option.bind_assoc];rfl
 ·rw[Option.bind_assoc];rfl
 ·exact A1l ..
 ·rw[A1];rfl
 ·exact A1j ..
 ·rw[wD,wD (k:=fun r=>pr r []),Option.bind_assoc];rfl
 ·rw[XL,XL (k:=fun r=>pr r []),Option.bind_assoc];rfl
 ·rw[wB,wB (k:=fun r=>pr r []),Option.bind_assoc];rfl
 ·rw[XK,XK (k:=fun r=>pr r []),Option.bind_assoc];rfl
 ·rw[wC,wC (k:=fun r=>pr r []),Option.bind_assoc];rfl
 ·exact Als ..
 ·exact Aw4 ..
 ·rw[Ac6,Ac6 (k:=fun r=>pr r []),Option.bind_assoc];rfl
 ·split
  ·rw[Option.bind_assoc];rfl
  ·rfl
 ·split
  ·split
   ·rw[Option.bind_assoc];rfl
   ·rfl
  ·split
   ·exact Asq ..
   ·rfl
  ·split
   ·exact A1k ..
   ·rfl
  ·split
   ·rw[Option.bind_assoc];rfl
   ·simp only[Option.bind_assoc];rfl
   ·rfl
  ·split
   ·rw[Option.bind_assoc];rfl
   ·simp only[Option.bind_assoc];rfl
   ·rfl
  ·split
   ·rw[A1,←A1m];rfl
   ·rfl
  ·rfl
 ·rfl
end
end Gx

namespace Gx
open Go
theorem OJ:∀ {l k:List Nat} {b:Nat},b ∈ vg l k↔b ∈ l∨b ∈ k
 | [],k,b=>by simp[vg]
 | i::r,k,b=>by
  rw[vg]
  cases C:Kp k i with
  | true =>
   simp only[cond_true]
   rw[OJ]
   have:=M6.1 C
   constructor
   ·rintro(h | h)
    ·exact .inl (by simp[h])
    ·exact .inr h
   ·rintro(h | h)
    ·rcases List.mem_cons.1 h with e | h
     ·subst e;exact .inr this
     ·exact .inl h
    ·exact .inr h
  | false =>
   simp only[cond_false]
   rw[OJ]
   simp only[List.mem_cons]
   constructor
   ·rintro(h | h | h)
    ·exact .inl (.inr h)
    ·exact .inl (.inl h)
    ·exact .inr h
   ·rintro((h | h) | h)
    ·exact .inr (.inl h)
    ·exact .inl h
    ·exact .inr (.inr h)
theorem IU {g g':Cb}:∀ {l:List Nat},(∀ b ∈ l,g' b=g b)→M0 g' l=M0 g l
 | [],_=>rfl
 | i::r,h=>by
  rw[M0,M0,h i (by simp),IU (fun b k=>h b (by simp[k]))]
theorem oY {g:Cb}:∀ {a b:List Nat},M0 g (a++b)=M0 g a++M0 g b
 | [],b=>rfl
 | i::r,b=>by rw[List.cons_append,M0,M0,oY,List.append_assoc]
theorem Aw5 {g g':Cb} {ids:List Nat} (h:∀ b ∈ ES g ids,g' b=g b):ES g' ids=ES g ids:=by
 have C:∀ b ∈ ids,g' b=g b:=fun b k=>h b (OJ.2 (.inl (List.mem_append.2 (.inl k))))
 have e1:M0 g' ids=M0 g ids:=IU C
 have D:∀ b ∈ M0 g ids,g' b=g b:=fun b k=>h b (OJ.2 (.inl (List.mem_append.2 (.inr (by rw[oY];exact List.mem_append.2 (.inl k))))))
 unfold ES
 rw[e1,IU (l:=ids++M0 g ids) (fun b k=>by
  rcases List.mem_append.1 k with k | k
  ·exact C b k
  ·exact D b k)]
section
variable {R:Type} {E:Env} {ops:Array Oper} {o p:Oper} {st Aos oX:St}
theorem wF {v v':Operand→AV} {parts:Array (Nat×Operand)} (h:∀ q ∈ parts.toList,v' q.2=v q.2):(parts.toList.map fun q=>(q.1,v' q.2))=(parts.toList.map fun q=>(q.1,v q.2)) :=
 List.map_congr_left (fun q hq=>by rw[h q hq])
theorem A1n {g:Cb} {d:Nat} {v v':Operand→AV} {op:Op} {k:AV→Ip→O R} (h:∀ x ∈ op.operands.toList,v' x=v x):Aln E g d v' op k=Aln E g d v op k:=by
  unfold Aln
  cases op
  case build t parts =>
    simp only
    rw[wF (v:=v) (v':=v') (fun q hq=>h q.2 (by simp[Op.operands];exact⟨q.1,by simpa using hq⟩))]
  case buildSlice t n parts =>
    simp only
    rw[wF (v:=v) (v':=v') (fun q hq=>h q.2 (by simp[Op.operands];exact⟨q.1,by simpa using hq⟩))]
  case slice t x lo hi mx =>
    simp only
    have C:v' x=v x:=h x (by simp[Op.operands])
    have G:lo.map v'=lo.map v:=by
      cases lo with
      | none=>rfl
      | some y=>simp;exact h y (by simp[Op.operands])
    have I:hi.map v'=hi.map v:=by
      cases hi with
      | none=>rfl
      | some y=>simp;exact h y (by simp[Op.operands])
    have L:mx.map v'=mx.map v:=by
      cases mx with
      | none=>rfl
      | some y=>simp;exact h y (by simp[Op.operands])
    rw[C,G,I,L]
  case makeMap t rr =>
    simp only
    have C:rr.map v'=rr.map v:=by
      cases rr with
      | none=>rfl
      | some y=>simp;exact h y (by simp[Op.operands])
    rw[C]
  case makeFunc f first caps =>
    cases f<;>try rfl
    simp only
    have:(first.toList++caps.toList).map v'=(first.toList++caps.toList).map v:=List.map_congr_left (fun x F=>h x (by simp[Op.operands];simpa using F))
    rw[this]
  case call c =>
    have D:∀ x ∈ c.args.toList,v' x=v x:=fun x F=>h x (by
      simp only[Op.operands,Call.operands,Array.toList_append]
      exact List.mem_append.2 (.inr F))
    have M:c.args.toList.map v'=c.args.toList.map v:=List.map_congr_left D
    simp only
    cases S:c.callee with
    | value f =>
      have T:v' f=v f:=h f (by simp[Op.operands,Call.operands,S])
      simp only[T,M]
    | invoke a b=>rfl
    | builtin b =>
      cases b<;>try rfl
      all_goals
        simp only
        split
        · first
            | (rename_i C G
               simp only[C,List.mem_cons,List.not_mem_nil,or_false,forall_eq_or_imp,forall_eq] at D
               simp only[D])
            | (rename_i C
               simp only[C,List.mem_cons,List.not_mem_nil,or_false,forall_eq_or_imp,forall_eq] at D
               simp only[D])
        all_goals first
          | rfl
          | (rename_i C
             simp only[C,List.mem_cons,List.not_mem_nil,or_false,forall_eq_or_imp,forall_eq] at D
             simp only[D])
  all_goals first
    | rfl
    | (simp[Op.operands] at h;simp[h])
end
end Gx

namespace Gx
open Go
section
variable {R:Type} {E:Env} {ops:Array Oper} {o p:Oper} {st Aos oX st3:St}
def A5g (ops:Array Oper) (o:Oper):List Nat:=match g9 ops o with | some p=>[p.1] | none=>[]
def M' (o:Oper) (s:Hy):LA:=o.op.operands.toList.map (ev s)
def Asr (h:Am) (F:List Nat):Cb:=fun b=>cond (Kp F b) (Au h b) none
def Bhq (o:Oper):Nat:=o.dst.getD 50000
def V6 (E:Env) (ops:Array Oper) (o:Oper) (st:St):Option (AV×Ip×Foot) :=
  (TH ops st.s o).bind fun wanted=>cond wanted
    ((Aln E (Asr st.h (AC st.h o.op (M' o st.s))) (Bhq o) (ev st.s) o.op pr).bind fun q =>
      cond (jJ (Bhq o) (AC st.h o.op (M' o st.s)) st.h q.2) (some (q.1,q.2,{ r:=A5g ops o++mM o.op.operands.toList,w:=o.dst,f:=AC st.h o.op (M' o st.s),u:=q.2.map (·.1) })) none)
    (some (.tup [],[],{ r:=A5g ops o,w:=o.dst,f:=[],u:=[] }))
def after (E:Env) (o:Oper) (st:St) (q:AV×Ip×Foot):St:={ s:=A08 E.nt st.s o.dst q.1,h:=At q.2.1 st.h }
theorem gp (k:St→Foot→O R):Awk E ops o st k=(V6 E ops o st).bind fun q=>k (after E o st q) q.2.2:=by
 unfold Awk V6
 rw[Option.bind_assoc]
 congr 1;funext t
 rw[A1]
 congr 1
 rw[A63,Option.bind_assoc]
 congr 1;funext q
 rw[A1]
 rfl
theorem Ac7:∀ {l:List Operand} {t:Nat},Operand.tmp t ∈ l→t ∈ mM l
 | [],t,h=>by simp at h
 | x::r,t,h=>by
  rcases List.mem_cons.1 h with e | h'
  ·subst e;simp[mM]
  ·have k:=Ac7 h'
   cases x<;>simp[mM]<;>first | exact .inr k | exact k
theorem wG {d:Nat} {F:List Nat} {h k:Am}:∀ {ups:Ip},(∀ b ∈ ups.map (·.1),Au k b=Au h b)→jJ d F k ups=jJ d F h ups
 | [],_=>rfl
 | (b,_)::r,C=>by rw[jJ,jJ,C b (by simp),wG (fun c D=>C c (by simp at D ⊢;exact .inr D))]
theorem jP {s s2:Hy} (h:∀ t ∈ A5g ops o,G3 s2 t=G3 s t):TH ops s2 o=TH ops s o:=by
 unfold TH
 cases k:o.guard with
 | none=>rfl
 | some q =>
  obtain⟨j,want⟩:=q
  simp only
  cases C:(ops[j]?).bind (·.dst) with
  | none=>rfl
  | some t =>
   have:G3 s2 t=G3 s t:=h t (by simp[A5g,g9,k,C])
   simp only[this]
theorem cL {q:AV×Ip×Foot} (I:V6 E ops o st=some q) (hr:∀ t ∈ q.2.2.r,G3 oX.s t=G3 st.s t) (k:∀ b,b ∈ q.2.2.f∨b ∈ q.2.2.u→Au oX.h b=Au st.h b):V6 E ops o oX=some q:=by
 have V:=I
 unfold V6 at I
 obtain⟨t,F,G⟩:=ub I
 cases t with
 | false =>
  simp at G;subst G
  unfold V6
  rw[jP (s:=st.s) hr,F];rfl
 | true =>
  rw[cond_true] at G
  obtain⟨x,Y,h2⟩:=ub G
  obtain⟨hu,T⟩:=uc h2
  simp at T;subst T
  simp only at hr k
  have U:∀ y ∈ o.op.operands.toList,ev oX.s y=ev st.s y:=fun y hy=>by
   cases y with
   | tmp t=>exact hr t (List.mem_append.2 (.inr (Ac7 hy)))
   | const _=>rfl
   | global _=>rfl
   | func _=>rfl
  have C:M' o oX.s=M' o st.s:=List.map_congr_left U
  have hF:AC oX.h o.op (M' o st.s)=AC st.h o.op (M' o st.s):=by
   unfold AC at k ⊢
   cases L:A47 o.op with
   | true =>
    rw[L] at k
    cases S:A48 o.op with
    | true=>rfl
    | false=>rw[S] at k;exact Aw5 (fun b D=>k b (.inl D))
   | false=>rfl
  have hm:Asr oX.h (AC st.h o.op (M' o st.s))=Asr st.h (AC st.h o.op (M' o st.s)):=by
   funext b
   unfold Asr
   cases D:Kp (AC st.h o.op (M' o st.s)) b with
   | false=>rfl
   | true=>simp only[cond_true];exact k b (.inl (M6.1 D))
  unfold V6
  rw[jP (s:=st.s) (fun t F=>hr t (List.mem_append.2 (.inl F))),F]
  simp only[Option.bind_some,cond_true]
  rw[C,hF,hm,A1n U,Y]
  simp only[Option.bind_some]
  rw[wG (h:=st.h) (fun b D=>k b (.inr D)),hu]
  rfl
theorem gq:∀ {ups:Ip} {b:Nat},Bj ups b=true↔b ∈ ups.map (·.1)
 | [],b=>by simp[Bj]
 | (i,_)::r,b=>by
  rw[Bj]
  cases hi:Nat.beq i b with
  | true=>have:=Nat.eq_of_beq_eq_true hi;subst this;simp
  | false =>
   have ne:=AR hi
   simp only[cond_false]
   rw[gq]
   simp only[List.map_cons,List.mem_cons]
   constructor
   ·exact fun h=>.inr h
   ·rintro(h | h)
    ·exact absurd h.symm ne
    ·exact h
theorem A5h {q:AV×Ip×Foot} (C:V6 E ops o st=some q):q.2.2.w=o.dst∧q.2.2.u=q.2.1.map (·.1):=by
 unfold V6 at C
 obtain⟨t,G,k⟩:=ub C
 cases t with
 | false=>simp at k;subst k;simp
 | true =>
  rw[cond_true] at k
  obtain⟨x,I,F⟩:=ub k
  obtain⟨L,D⟩:=uc F
  simp at D;subst D;simp
theorem H1:∀ (ups:Ip) {h C:Am},(∀ b,Au C b=Au h b)→∀ b,Au (At ups C) b=Au (At ups h) b
 | [],_,_,k,b=>k b
 | (i,some x)::r,h,C,k,b=>H1 r (fun c=>by rw[Ai,Ai,k c]) b
 | (i,none)::r,h,C,k,b=>by
  rw[At,At]
  refine H1 r (fun c=>?_) b
  rw[k i]
  split
  ·rw[Ai,Ai,k c]
  ·exact k c
theorem Aw6 {q:AV×Ip×Foot} (h:Eqv st oX):Eqv (after E o st q) (after E o oX q):=by
 refine⟨fun t=>?_,fun b=>?_⟩
 ·unfold after;simp only;rw[P3,P3,h.1 t]
 ·exact(H1 q.2.1 (fun b=>(h.2 b).symm) b).symm
theorem Uj {i:Nat} {y:Blk}:∀ (ups:Ip) {h:Am},Bj ups i=false→∀ b,Au (At ups (G9 h i y)) b=if b=i then some y else Au (At ups h) b
 | [],h,_,b=>Ai h i y b
 | (j,some x)::r,h,hi,b=>by
  rw[Bj] at hi
  cases k:Nat.beq j i with
  | true=>rw[k] at hi;simp at hi
  | false =>
   rw[k] at hi
   have ne:=AR k
   rw[At,At,H1 r (h:=G9 (G9 h j x) i y) (fun c=>by
    rw[Ai,Ai,Ai,Ai]
    by_cases e1:c=j
    ·subst e1;simp[ne]
    ·simp[e1]) b]
   exact Uj r hi b
 | (j,none)::r,h,hi,b=>by
  rw[Bj] at hi
  cases k:Nat.beq j i with
  | true=>rw[k] at hi;simp at hi
  | false =>
   rw[k] at hi
   have ne:=AR k
   rw[At,At,Ai,if_neg ne]
   split
   ·rename_i x C
    rw[H1 r (h:=G9 (G9 h j { x with dead:=true,pure:=true,cells:=[] }) i y) (fun c=>by
     rw[Ai,Ai,Ai,Ai]
     by_cases e1:c=j
     ·subst e1;simp[ne]
     ·simp[e1]) b]
    exact Uj r hi b
   ·exact Uj r hi b
theorem Xx:∀ (u1 u2:Ip) (h:Am),(∀ b,Bj u1 b=true→Bj u2 b=false)→∀ b,Au (At u2 (At u1 h)) b=Au (At u1 (At u2 h)) b
 | [],u2,h,_,b=>rfl
 | (i,some x)::r,u2,h,k,b=>by
  rw[At,At]
  have hi:Bj u2 i=false:=k i (by simp[Bj])
  rw[Xx r u2 (G9 h i x) (fun c C=>k c (by rw[Bj,C];cases Nat.beq i c<;>rfl)) b]
  refine H1 r (fun c=>?_) b
  rw[Uj u2 hi,Ai]
 | (i,none)::r,u2,h,k,b=>by
  rw[At,At]
  have hi:Bj u2 i=false:=k i (by simp[Bj])
  rw[Dp u2 h i hi]
  split
  ·rename_i x D
   rw[Xx r u2 _ (fun c C=>k c (by rw[Bj,C];cases Nat.beq i c<;>rfl)) b]
   refine H1 r (fun c=>?_) b
   rw[Uj u2 hi,Ai]
  ·exact Xx r u2 h (fun c C=>k c (by rw[Bj,C];cases Nat.beq i c<;>rfl)) b
theorem Ac8:∀ {a l:List Nat},Awj a l=true→∀ b ∈ a,b ∉ l
 | [],l,_,b,k=>by simp at k
 | i::r,l,h,b,k=>by
  rw[Awj] at h;simp at h
  rcases List.mem_cons.1 k with e | k
  ·subst e;intro C;rw[M6.2 C] at h;simp at h
  ·exact Ac8 h.2 b k
theorem Ac9 {q:AV×Ip×Foot} {t:Nat} (h:o.dst≠some t):G3 (after E o st q).s t=G3 st.s t:=by
 unfold after;simp only;rw[P3,if_neg (fun k=>h k.1)]
theorem Ada {q:AV×Ip×Foot} {b:Nat} (h:b ∉ q.2.1.map (·.1)):Au (after E o st q).h b=Au st.h b:=by
 unfold after;simp only
 rw[Dp]
 cases hi:Bj q.2.1 b with
 | false=>rfl
 | true=>exact absurd (gq.1 hi) h
theorem Aou {w:Option Nat} {l:List Nat} (h:Bg1 w l=false):∀ t ∈ l,w≠some t:=by
 intro t k e
 subst e
 rw[Bg1,M6.2 k] at h;cases h
theorem Bhb {D k:AV×Ip×Foot} (M:V6 E ops p st=some D) (S:V6 E ops o (after E p st D)=some k) (hi:vh D.2.2 k.2.2=true) :
  V6 E ops o st=some k∧V6 E ops p (after E o st k)=some D∧Eqv (after E p (after E o st k) D) (after E o (after E p st D) k):=by
 unfold vh at hi
 simp only[Bool.and_eq_true,Bool.not_eq_true'] at hi
 obtain⟨⟨⟨⟨i1,i2⟩,i3⟩,i4⟩,i5⟩:=hi
 obtain⟨T,u1⟩:=A5h M
 obtain⟨U,u2⟩:=A5h S
 have I:=Ac8 i4
 have V:=Ac8 i5
 have a1:V6 E ops o st=some k:=cL S (fun t L=>(Ac9 (by rw[←T];exact Aou i1 t L)).symm) (fun b C=>(Ada (fun G=>by
  rw[←u1] at G
  exact I b G (by rcases C with C | C<;>simp[C]))).symm)
 have a2:V6 E ops p (after E o st k)=some D:=cL M (fun t L=>Ac9 (by rw[←U];exact Aou i2 t L)) (fun b C=>Ada (fun G=>by
  rw[←u2] at G
  rcases C with C | C
  ·exact V b G C
  ·exact I b C (by simp[G])))
 refine⟨a1,a2,fun t=>?_,fun b=>?_⟩
 ·unfold after;simp only
  rw[P3,P3,P3,P3]
  by_cases e1:p.dst=some t∧t<E.nt
  ·by_cases F:o.dst=some t∧t<E.nt
   ·exfalso
    rw[T,U,e1.1,F.1] at i3
    simp at i3
   ·rw[if_pos e1,if_neg F,if_pos e1]
  ·by_cases F:o.dst=some t∧t<E.nt
   ·rw[if_neg e1,if_pos F,if_pos F]
   ·rw[if_neg e1,if_neg F,if_neg F,if_neg e1]
 ·unfold after;simp only
  refine(Xx D.2.1 k.2.1 st.h (fun c Y=>?_) b).symm
  cases hx:Bj k.2.1 c with
  | false=>rfl
  | true =>
   have m1:c ∈ D.2.2.u:=by rw[u1];exact gq.1 Y
   have m2:c ∈ k.2.2.u:=by rw[u2];exact gq.1 hx
   exact absurd (by simp[m2]) (I c m1)
def RunF (E:Env) (ops:Array Oper) (fp:Nat→Foot):List (Nat×Oper)→St→St→Prop
 | [],st,e=>Eqv st e
 | (i,o)::r,st,e=>∃ q,V6 E ops o st=some q∧q.2.2=fp i∧RunF E ops fp r (after E o st q) e
theorem RunF.congr {fp:Nat→Foot}:∀ {l:List (Nat×Oper)} {st oX e:St},RunF E ops fp l st e→Eqv st oX→RunF E ops fp l oX e
 | [],st,oX,e,h,k=>k.symm.trans h
 | (i,o)::r,st,oX,e,h,k=>by
  rw[RunF] at h ⊢
  obtain⟨q,C,D,F⟩:=h
  exact⟨q,cL C (fun t _=>(k.1 t).symm) (fun b _=>(k.2 b).symm),D,RunF.congr F (Aw6 k)⟩
theorem RunF.pull {fp:Nat→Foot} {i:Nat} {o:Oper} {B:List (Nat×Oper)}:∀ {A:List (Nat×Oper)} {st e:St},RunF E ops fp (A++(i,o)::B) st e→(∀ jp ∈ A,vh (fp jp.1) (fp i)=true) →
  ∃ q,V6 E ops o st=some q∧q.2.2=fp i∧RunF E ops fp (A++B) (after E o st q) e
 | [],st,e,h,_=>h
 | (j,p)::A,st,e,h,hA=>by
  rw[List.cons_append,RunF] at h
  obtain⟨k,G,C,I⟩:=h
  obtain⟨D,L,F,M⟩:=RunF.pull I (fun jp S=>hA jp (by simp[S]))
  have hi:vh k.2.2 D.2.2=true:=by rw[C,F];exact hA (j,p) (by simp)
  obtain⟨a1,a2,a3⟩:=Bhb G L hi
  refine⟨D,a1,F,?_⟩
  rw[List.cons_append,RunF]
  exact⟨k,a2,C,RunF.congr M a3.symm⟩
end
end Gx
