/- A part of the proof: what it holds is said by each theorem. -/
import GoSem.Step
import Derived.KernelRfl
import Derived.WalkKit
import Derived.Deep.MidRow
import Derived.Deep.AppendSrc
import Derived.Laws.IdiomStrings
import Derived.Deep.Upon
import Derived.Lib.Builder
import Derived.Laws.BytesString
import Derived.Lib.UnsafeStr
import Derived.Laws.Externs
import Derived.Laws.Tables
import Derived.Laws.StructEq
import Derived.ChangeKeysEq
import Derived.MapKept
set_option linter.unusedVariables false
set_option linter.defProp false
set_option linter.unusedSimpArgs false
namespace Gx
open Go
inductive AV where
 | int (k:IntKind) (n:Int)
 | bool (b:Bool)
 | str (s:List UInt8)
 | nsl
 | imm (c:List AV) (len sz:Nat) (tight org:Bool)
 | iptr (c:List AV) (org:Bool)
 | pagg (c:List AV) (org:Bool)
 | own (b off len:Nat)
 | optr (b off:Nat)
 | agg (c:List AV)
 | tup (c:List AV)
 | fn (f:Nat) (caps:List AV)
 | nilptr
 | nilfn
 | undef
 | omap (b:Nat)
structure Blk where
 dead:Bool
 sealed:Bool
 pure:Bool
 taint:Bool
 sz:Nat
 cells:List AV
 mp:Bool:=false
 ty:Option (Nat×Nat):=none
abbrev LA:=List AV
abbrev O (R:Type):=Option R
abbrev Aj:=List (Nat×Blk)
abbrev Ip:=List (Nat×AV)
def Am:Aj→Nat→Option Blk
 | [],_=>none
 | (i,x)::r,b=>cond (Nat.beq i b) (some x) (Am r b)
def Gg:Aj→Nat→Blk→Aj
 | [],b,y=>[(b,y)]
 | (i,x)::r,b,y=>cond (Nat.beq i b) ((b,y)::r) (cond (Nat.blt b i) ((b,y)::(i,x)::r) ((i,x)::Gg r b y))
def Hb:Ip→Nat→AV
 | [],_=>.undef
 | (i,x)::r,b=>cond (Nat.beq i b) x (Hb r b)
def lq:Ip→Nat→AV→Ip
 | [],b,y=>[(b,y)]
 | (i,x)::r,b,y=>cond (Nat.beq i b) ((b,y)::r) (cond (Nat.blt b i) ((b,y)::(i,x)::r) ((i,x)::lq r b y))
structure St where
 s:Ip
 h:Aj
mutual
def ry:Value→AV
 | .int k n=>.int k n
 | .bool b=>.bool b
 | .string ⟨⟨s⟩⟩=>.str s
 | .slice none 0 0=>.nsl
 | .pointer none=>.nilptr
 | .nilFunc=>.nilfn
 | .agg ⟨cs⟩=>.agg (Ol cs)
 | _=>.undef
def Ol:List Value→List AV
 | []=>[]
 | v::r=>ry v::Ol r
end
def ev (s:Ip):Operand→AV
 | .tmp t=>Hb s t
 | .const v=>ry v
 | .func f=>cond (Nat.blt f 1000000) (.fn f []) .undef
 | .global _=>.undef
def Ca (P:Program) (t:TypeId):Option Nat:=(P.info? t).map (·.size)
def Am1 (P:Program) (t:TypeId):Option Nat:=(P.info? t).map (·.bytes)
def A17 (P:Program) (t:TypeId):Bool:=((P.info? t).map (·.hasPointers)).getD true
def zU (P:Program) (t:TypeId):Option AV:=((P.info? t).bind (·.zero)).map ry
def Az:LA→Bool
 | []=>true
 | .int ..::r=>Az r
 | .bool _::r=>Az r
 | .str _::r=>Az r
 | .nsl::r=>Az r
 | .nilptr::r=>Az r
 | .nilfn::r=>Az r
 | _=>false
def nB (P:Program) (t:TypeId):Option (LA) :=
 (P.info? t).bind fun i=>(i.zero).bind fun v=>cond (Az (Ol v.cells.toList)&&Nat.beq v.cells.toList.length i.size) (some (Ol v.cells.toList)) none
def rz (op:BinOp) (k:IntKind) (a b:Int):Option AV :=
 match op with
 | .add=>some (.int k (k.wrap (a+b)))
 | .sub=>some (.int k (k.wrap (a - b)))
 | .mul=>some (.int k (k.wrap (a*b)))
 | .and=>some (.int k (k.wrap ((BitVec.ofInt k.bits a &&& BitVec.ofInt k.bits b).toNat:Int)))
 | .or=>some (.int k (k.wrap ((BitVec.ofInt k.bits a ||| BitVec.ofInt k.bits b).toNat:Int)))
 | .xor=>some (.int k (k.wrap ((BitVec.ofInt k.bits a ^^^ BitVec.ofInt k.bits b).toNat:Int)))
 | .andNot=>some (.int k (k.wrap ((BitVec.ofInt k.bits a &&& ~~~ (BitVec.ofInt k.bits b)).toNat:Int)))
 | .eql=>some (.bool (a==b))
 | .neq=>some (.bool (a != b))
 | .lss=>some (.bool (decide (a<b)))
 | .leq=>some (.bool (decide (a≤b)))
 | .gtr=>some (.bool (decide (a>b)))
 | .geq=>some (.bool (decide (a≥b)))
 | _=>none
def Va (k k':IntKind):Bool:=decide (k=k')
def gE (P:Program) (t:TypeId):Bool:=match P.underlying t with | some .bool=>true | _=>false
def A3e {R:Type} (P:Program) (t:TypeId) (op:BinOp) (x y:AV) (r:AV→O R):O R :=
 match x,y with
 | .int k a,.int k' b =>
  match op with
  | .shl=>cond (decide (b<0)) none (r (.int k (k.wrap (a*2 ^ (min b.toNat k.bits)))))
  | .shr=>cond (decide (b<0)) none (r (.int k (a.fdiv (2 ^ (min b.toNat k.bits)))))
  | .quo=>cond (Va k k') (cond (b==0) none (r (.int k (k.wrap (a.tdiv b))))) none
  | .rem=>cond (Va k k') (cond (b==0) none (r (.int k (a.tmod b)))) none
  | op=>cond (Va k k') ((rz op k a b).bind r) none
 | .bool a,.bool b =>
  match op with
  | .eql=>cond (gE P t) (r (.bool (a==b))) none
  | .neq=>cond (gE P t) (r (.bool (!(a==b)))) none
  | _=>none
 | .str a,.str b =>
  match op with
  | .add=>cond (Nat.ble (a.length+b.length) 140737488355328) (r (.str (a++b))) none
  | .eql=>r (.bool (a==b))
  | .neq=>r (.bool (!(a==b)))
  | .lss=>r (.bool (Op.bytesLess a b))
  | .leq=>r (.bool (Op.bytesLess a b||a==b))
  | .gtr=>r (.bool (!(Op.bytesLess a b||a==b)))
  | .geq=>r (.bool (!Op.bytesLess a b))
  | _=>none
 | _,_=>none
def Bbz (op:UnOp) (x:AV):Option AV :=
 match op,x with
 | .neg,.int k n=>some (.int k (k.wrap (0 - n)))
 | .xor,.int k n=>rz .xor k (cond k.signed (-1) k.max) n
 | .not,.bool b=>some (.bool (!b))
 | _,_=>none
def tp (k:IntKind):AV→Option Int
 | .int k' n=>cond (Va k k') (some n) none
 | _=>none
def asBool:AV→Option Bool
 | .bool b=>some b
 | _=>none
def tq:AV→Option (List UInt8)
 | .str s=>some s
 | _=>none
def A5x (sz:Nat):AV→Option (LA×Nat)
 | .imm c len sz' _ _=>cond (Nat.beq sz sz') (some (c,len)) none
 | .nsl=>some ([],0)
 | _=>none
def A5y:AV→Option UInt8
 | .int .u8 n=>some (UInt8.ofNat n.toNat)
 | _=>none
def IY:LA→Option (List UInt8)
 | []=>some []
 | x::r=>(A5y x).bind fun b=>(IY r).bind fun l=>some (b::l)
def OA {R:Type} (step:TypeId→LA→LA→(Bool→O R)→O R) (x y:LA):List (Nat×TypeId)→(Bool→O R)→O R
 | [],k=>k true
 | (off,t)::r,k=>step t (x.drop off) (y.drop off) fun b=>OA step x y r fun c=>k (b&&c)
def Am2 (P:Program) (sz:Nat) (f:Field):Bool:=match Ca P f.type with
 | some s => Nat.ble 1 s && (Nat.ble (f.offset + s) sz && !(f.name == "_"))
 | none=>false
def yE {R:Type} (P:Program):Nat→TypeId→LA→LA→(Bool→O R)→O R
 | 0,_,_,_,_=>none
 | d+1,t,x,y,k=>match P.underlying t with
  | some (.int kd)=>(x.head?).bind fun u=>(tp kd u).bind fun a=>(y.head?).bind fun v=>(tp kd v).bind fun b=>k (a==b)
  | some .bool=>(x.head?).bind fun u=>(asBool u).bind fun a=>(y.head?).bind fun v=>(asBool v).bind fun b=>k (a==b)
  | some .string=>(x.head?).bind fun u=>(tq u).bind fun a=>(y.head?).bind fun v=>(tq v).bind fun b=>k (a==b)
  | some (.struct fs)=>(Ca P t).bind fun sz=>cond (P.stoodInHeld t||!(fs.toList.all (Am2 P sz))) none (OA (yE P d) x y (fs.toList.map fun f=>(f.offset,f.type)) k)
  | some (.array n e)=>(Ca P e).bind fun s=>(Ca P t).bind fun sz=>cond (Nat.ble 1 s&&Nat.ble (n*s) sz) (OA (yE P d) x y ((List.range n).map fun i=>(i*s,e)) k) none
  | _=>none
def Am3:AV→Option (LA)
 | .pagg c _=>some c
 | .agg c=>some c
 | _=>none
def A5z (P:Program) (t:TypeId):Bool:=match P.underlying t with | some (.struct _)=>true | some (.array _ _)=>true | _=>false
def Ajy {R:Type} (P:Program) (t:TypeId) (op:BinOp) (x y:AV) (r:AV→O R):O R :=
 match Am3 x,Am3 y with
 | some a,some b=>(Ca P t).bind fun s=>cond (Nat.ble 1 s&&(Nat.beq a.length s&&(Nat.beq b.length s&&(A5z P t&&!(P.eqGuardType P.depth t)))))
  (match op with
   | .eql=>yE P 8 t a b fun c=>r (.bool c)
   | .neq=>yE P 8 t a b fun c=>r (.bool (!c))
   | _=>none) none
 | _,_=>A3e P t op x y r
def DT {R:Type} (P:Program) (t:TypeId) (c:LA) (org:Bool) (k:Bool→O R):O R :=
 cond (A17 P t) (k org) (cond (!org||Az c) (k false) none)
def a8 {R:Type} (P:Program) (t:TypeId) (c:LA) (org:Bool) (k:AV→O R):O R :=
 match P.underlying t with
 | some (.int kd)=>(c.head?).bind fun x=>(tp kd x).bind fun n=>k (.int kd n)
 | some .bool=>(c.head?).bind fun x=>(asBool x).bind fun b=>k (.bool b)
 | some .string=>(c.head?).bind fun x=>(tq x).bind fun s=>k (.str s)
 | some (.slice e)=>(Ca P e).bind fun sz=>(c.head?).bind fun x=>(A5x sz x).bind fun p=>k (.imm p.1 p.2 sz false org)
 | some (.struct _)=>(Ca P t).bind fun n=>cond (Nat.ble n c.length) (DT P t (c.take n) org fun o=>k (.pagg (c.take n) o)) none
 | some (.array _ _)=>(Ca P t).bind fun n=>cond (Nat.ble n c.length) (DT P t (c.take n) org fun o=>k (.pagg (c.take n) o)) none
 | _=>none
def SD {R:Type} (n:Nat) (k:AV→O R):LA→Nat→O R
 | [],_=>none
 | v::r,i=>cond (Nat.beq n i) (k v) (SD n k r (i+1))
def tu {R:Type} (P:Program) (t:TypeId) (c:LA) (k:AV→O R):O R :=
 match P.underlying t with
 | some (.struct _)=>(Ca P t).bind fun n=>cond (Nat.ble n c.length) (k (.agg (c.take n))) none
 | some (.array _ _)=>(Ca P t).bind fun n=>cond (Nat.ble n c.length) (k (.agg (c.take n))) none
 | some _=>(c.head?).bind k
 | none=>none
def a_ {R:Type} (P:Program) (t:TypeId) (c:LA) (off:Nat) (k:AV→O R):O R :=
 match P.underlying t with
 | some (.struct _)=>(Ca P t).bind fun n=>cond (Nat.ble n (c.drop off).length) (k (.agg ((c.drop off).take n))) none
 | some (.array _ _)=>(Ca P t).bind fun n=>cond (Nat.ble n (c.drop off).length) (k (.agg ((c.drop off).take n))) none
 | some _=>SD off k c 0
 | none=>none
abbrev Bj:=Nat→Option Blk
def Hc (g:Bj) (b:Nat):Option Blk:=(g b).bind fun x=>cond x.dead none (some x)
def zV {R:Type} (P:Program) (g:Bj) (t:TypeId) (p:AV) (k:AV→O R):O R :=
 match p with
 | .iptr c org=>a8 P t c org k
 | .optr b off=>(Hc g b).bind fun x=>cond x.pure (a8 P t (x.cells.drop off) x.taint k) (a_ P t x.cells off k)
 | _=>none
def Ae (i:Int) (n:Nat):Bool:=decide (0≤i)&&decide (i<(n:Int))
def Xj {R:Type} (P:Program) (t:TypeId) (x i:AV) (k:AV→O R):O R :=
 match P.underlying t,x,i with
 | some (.slice el),.imm c len sz _ org,.int _ i=>(Ca P el).bind fun sz'=>cond (Nat.beq sz sz') (cond (Ae i len) (k (.iptr (c.drop (i.toNat*sz)) org)) none) none
 | some (.slice el),.own b off len,.int _ i=>(Ca P el).bind fun sz=>cond (Ae i len) (k (.optr b (off+i.toNat*sz))) none
 | some (.array len el),.iptr c org,.int _ i=>(Ca P el).bind fun sz=>cond (Ae i len) (k (.iptr (c.drop (i.toNat*sz)) org)) none
 | some (.array len el),.optr b off,.int _ i=>(Ca P el).bind fun sz=>cond (Ae i len) (k (.optr b (off+i.toNat*sz))) none
 | _,_,_=>none
def yx (P:Program) (t:TypeId) (f:Nat):Option (Nat×TypeId) :=
 match P.underlying t with
 | some (.struct fs)=>(fs[f]?).map fun x=>(x.offset,x.type)
 | _=>none
def Xk {R:Type} (P:Program) (t:TypeId) (x:AV) (f:Nat) (k:AV→O R):O R :=
 (yx P t f).bind fun p=>(Ca P p.2).bind fun n=>cond (Nat.beq n 0) none
 (match x with
 | .iptr c org=>k (.iptr (c.drop p.1) org)
 | .optr b off=>k (.optr b (off+p.1))
 | _=>none)
def sA {R:Type} (P:Program) (t:TypeId) (x:AV) (f:Nat) (k:AV→O R):O R :=
 (yx P t f).bind fun p =>
 match x with
 | .pagg c org=>a8 P p.2 (c.drop p.1) org k
 | .agg c=>tu P p.2 (c.drop p.1) k
 | _=>none
def sB {R:Type} (P:Program) (t:TypeId) (x i:AV) (k:AV→O R):O R :=
 match P.underlying t,x,i with
 | some .string,.str s,.int _ i=>cond (Ae i s.length) (k (.int .u8 ((s.getD i.toNat 0).toNat:Int))) none
 | some (.array len el),.pagg c org,.int _ i=>(Ca P el).bind fun sz=>cond (Ae i len) (a8 P el (c.drop (i.toNat*sz)) org k) none
 | some (.array len el),.agg c,.int _ i=>(Ca P el).bind fun sz=>cond (Ae i len) (a_ P el c (i.toNat*sz) k) none
 | _,_,_=>none
def nC (o:Option AV) (d:Nat):Option Int:=match o with | none=>some (d:Int) | some (.int _ i)=>some i | _=>none
def DU {R:Type} (lo hi mx:Option AV) (n:Nat) (k:Nat→Nat→O R):O R :=
 (nC lo 0).bind fun l=>(nC hi n).bind fun h=>(nC mx n).bind fun m=>cond (mx.isSome&&!hi.isSome) none <|
 cond (decide (0≤l)&&(decide (l≤h)&&(decide (h≤m)&&decide (m≤(n:Int))))) (k l.toNat h.toNat) none
def A18 (tight:Bool) (hi mx:Option AV):Bool:=match hi,mx with | none,none=>tight | some (.int _ a),some (.int _ b)=>a==b | _,_=>false
def sC {R:Type} (P:Program) (g:Bj) (t:TypeId) (x:AV) (lo hi mx:Option AV) (k:AV→O R):O R :=
 match P.underlying t,x with
 | some .string,.str s=>cond mx.isSome none (DU lo hi none s.length fun l h=>k (.str ((s.drop l).take (h - l))))
 | some (.slice el),.nsl=>(Ca P el).bind fun _=>DU lo hi mx 0 fun _ _=>k .nsl
 | some (.slice el),.imm c n sz tight org=>(Ca P el).bind fun sz'=>cond (Nat.beq sz sz') (DU lo hi mx n fun l h =>
   k (.imm ((c.drop (l*sz)).take ((h - l)*sz)) (h - l) sz (A18 tight hi mx) org)) none
 | some (.slice el),.own b off n=>(Ca P el).bind fun sz=>(Hc g b).bind fun y=>cond (Nat.beq sz y.sz) (DU lo hi mx n fun l h=>k (.own b (off+l*sz) (h - l))) none
 | _,_=>none
def A9z (P:Program) (t:TypeId) (x:AV):Option AV :=
 match P.underlying t,x with
 | some (.slice _),.nsl=>some (.int .i64 0)
 | some (.slice _),.imm _ n _ _ _=>some (.int .i64 n)
 | some (.slice _),.own _ _ n=>some (.int .i64 n)
 | some .string,.str s=>some (.int .i64 s.length)
 | some (.array n _),_=>some (.int .i64 n)
 | _,_=>none
def VY (g:Bj) (sz:Nat):AV→Option (LA×Nat×Bool)
 | .nsl=>some ([],0,false)
 | .imm c n sz' _ org=>cond (Nat.beq sz sz') (some (c,n,org)) none
 | .own b off n=>(Hc g b).bind fun x=>cond (x.pure&&Nat.beq sz x.sz) (some ((x.cells.drop off).take (n*sz),n,x.taint)) none
 | .str s=>cond (Nat.beq sz 1) (some (s.map fun b=>.int .u8 (b.toNat:Int),s.length,false)) none
 | _=>none
def lw {R:Type} (P:Program) (el:TypeId) (g:Bj) (sz:Nat) (x:AV) (k:LA×Nat×Bool→O R):O R :=
 (VY g sz x).bind fun q=>DT P el q.1 q.2.2 fun o=>k (q.1,q.2.1,o)
abbrev Fy:=List (Nat×Option Blk)
def ig (g:Bj):AV→Option (AV×Fy×Bool)
 | .own b off n=>(Hc g b).bind fun x=>cond x.pure (some (.imm ((x.cells.drop off).take (n*x.sz)) n x.sz false x.taint,[(b,some { x with sealed:=true })],x.taint)) none
 | .optr .. | .agg _ | .tup _ | .undef | .fn .. | .omap _=>none
 | .imm c n sz t org=>some (.imm c n sz t org,[],org)
 | .iptr c org=>some (.iptr c org,[],org)
 | .pagg _ _=>none
 | v=>some (v,[],false)
def GC (g:Bj):LA→Option (LA×Fy×Bool)
 | []=>some ([],[],false)
 | v::r=>(ig g v).bind fun p=>(GC g r).bind fun q=>some (p.1::q.1,p.2.1++q.2.1,p.2.2||q.2.2)
def FN (g:Bj):AV→Option (LA×Fy×Bool)
 | .pagg c org=>some (c,[],org)
 | .agg c=>GC g c
 | v=>GC g [v]
def C4 (c:LA) (off:Nat) (vs:LA):LA:=c.take off++vs++c.drop (off+vs.length)
def Be:Fy→Nat→Bool
 | [],_=>false
 | (i,_)::r,b=>cond (Nat.beq i b) true (Be r b)
def OB (g:Bj):AV→Bool
 | .own b _ _=>(Hc g b).isSome
 | .optr b _=>(Hc g b).isSome
 | .agg _=>false
 | .pagg _ _=>false
 | .tup _=>false
 | .undef=>false
 | .omap _=>false
 | _=>true
def Qv (g:Bj):LA→Bool
 | []=>true
 | v::r=>OB g v&&Qv g r
def setCells (c:LA) (off:Nat) (vs:LA):LA:=match vs with | [y]=>c.set off y | ys=>C4 c off ys
def sD {R:Type} (P:Program) (g:Bj) (t:TypeId) (p v:AV) (k:AV→Fy→O R):O R :=
  match p with
  | .optr b off=>(Hc g b).bind fun x=>(Ca P t).bind fun n =>
    cond x.sealed none
    (cond x.pure
      ((FN g v).bind fun q=>cond (Nat.beq q.1.length n&&(Nat.ble (off+n) x.cells.length&&!Be q.2.1 b))
        (k .undef (q.2.1++[(b,some { x with cells:=setCells x.cells off q.1,taint:=x.taint||q.2.2 })])) none)
      (match v with
        | .agg c=>cond (Qv g c&&(Nat.beq c.length n&&Nat.ble (off+n) x.cells.length)) (k .undef [(b,some { x with cells:=C4 x.cells off c })]) none
        | .pagg c org=>cond (Nat.beq off 0&&(Nat.beq c.length n&&Nat.beq x.cells.length n)) (k .undef [(b,some { x with pure:=true,taint:=org,cells:=c })]) none
        | v=>cond (OB g v&&(Nat.beq n 1&&Nat.blt off x.cells.length)) (k .undef [(b,some { x with cells:=x.cells.set off v })]) none))
  | _=>none
def Jc:Nat:=1000000
def nid (d:Nat):Nat:=1000000+d*16
def Am4 (P:Program) (t:TypeId):Option (Nat×Nat) :=
 match P.underlying t with
 | some (.struct fs)=>(fs[0]?).bind fun f=>match P.underlying f.type with
  | some (.pointer u)=>cond (Nat.beq u t) ((Ca P t).map fun n=>(t,n)) none
  | some (.struct gs)=>(gs[0]?).bind fun g=>match P.underlying g.type with
   | some (.pointer u)=>cond (Nat.beq u f.type) ((Ca P t).map fun n=>(t,n)) none
   | _=>none
  | _=>none
 | _=>none
def Vb (d:Nat) (pure taint:Bool) (sz:Nat) (cells:LA):Fy :=
 [(nid d,some { dead:=false,sealed:=false,pure,taint,sz,cells })]
def Arz {R:Type} (P:Program) (g:Bj) (d:Nat) (t:TypeId) (v:AV) (k:AV→Fy→O R):O R :=
 match v with
 | .pagg c org=>k (.optr (nid d) 0) (Vb d true org 0 c)
 | .agg c =>
  cond (A17 P t) (cond (Qv g c&&Nat.beq c.length ((Ca P t).getD 0)) (k (.optr (nid d) 0) [(nid d,some { dead:=false,sealed:=false,pure:=false,taint:=false,sz:=0,cells:=c,ty:=Am4 P t })]) none)
   ((GC g c).bind fun q=>k (.optr (nid d) 0) (q.2.1++Vb d true q.2.2 0 q.1))
 | v=>cond (OB g v) (k (.optr (nid d) 0) (Vb d false false 0 [v])) none
def Hd (sz:Nat):Blk:={ dead:=false,sealed:=false,pure:=true,taint:=false,sz,cells:=[] }
def A50 (co:Bool) (v:AV):AV:=match co,v with
 | true,.agg c=>cond (Az c) (.pagg c false) (.agg c)
 | _,v=>v
def sE {R:Type} (P:Program) (g:Bj) (co:Bool) (d:Nat) (t:TypeId) (k:AV→Fy→O R):O R :=
 match P.underlying t,zU P t with
 | some (.slice el),some .nsl=>(Ca P el).bind fun sz=>k (.optr (nid d) 0) [(nid d+1,some (Hd sz)),(nid d,some { dead:=false,sealed:=false,pure:=false,taint:=false,sz:=0,cells:=[.own (nid d+1) 0 0] })]
 | _,some z=>Arz P g d t (A50 co z) k
 | _,none=>none
def Ro (place:Nat→Option (Nat×Nat)):List (Nat×LA)→LA→Option (LA)
 | [],c=>some c
 | (i,vs)::r,c=>(place i).bind fun p=>cond (Nat.beq vs.length p.2&&Nat.ble (p.1+p.2) c.length) (Ro place r (setCells c p.1 vs)) none
def zW {R:Type} (place:Nat→Option (Nat×Nat)):List (Nat×LA)→LA→(LA→O R)→O R
 | [],c,k=>k c
 | (i,vs)::r,c,k=>(place i).bind fun p=>cond (Nat.beq vs.length p.2&&Nat.ble (p.1+p.2) c.length) (zW place r (setCells c p.1 vs) k) none
def F1 (n:Nat) (z:LA):LA:=match z with | [v]=>List.replicate n v | z=>(List.replicate n z).flatten
def OC (g:Bj):List (Nat×AV)→Option (List (Nat×LA)×Fy×Bool)
 | []=>some ([],[],false)
 | (i,v)::r=>(FN g v).bind fun q=>(OC g r).bind fun q'=>some ((i,q.1)::q'.1,q.2.1++q'.2.1,q.2.2||q'.2.2)
def A51:AV→Bool
 | .optr ..=>true
 | .fn _ (_::_)=>true
 | _=>false
def Xl {R:Type} (P:Program) (g:Bj) (d:Nat) (t:TypeId) (len:Nat) (parts:List (Nat×AV)) (k:AV→Fy→O R):O R :=
 match P.underlying t with
 | some (.slice el)=>(Ca P el).bind fun sz=>(nB P el).bind fun z =>
  cond (Nat.beq sz 1&&(Nat.ble len 16777216&&Qv g (parts.map (·.2)))) ((Ro (fun i=>some (i*1,1)) (parts.map fun p=>(p.1,[p.2])) (F1 len z)).bind fun cells =>
   k (.own (nid d) 0 len) (Vb d false false 1 cells)) none
 | _=>none
def Ug {R:Type} (P:Program) (g:Bj) (d:Nat) (t:TypeId) (len:Nat) (parts:List (Nat×AV)) (k:AV→Fy→O R):O R :=
 match P.underlying t with
 | some (.slice el)=>(Ca P el).bind fun sz=>(nB P el).bind fun z=>(OC g parts).bind fun q =>
  cond (Nat.ble (len*sz) 16777216) (zW (fun i=>some (i*sz,sz)) q.1 (F1 len z) fun cells =>
   k (.own (nid d) 0 len) (q.2.1++Vb d true q.2.2 sz cells)) none
 | _=>none
def lx:AV→Bool
 | .own .. | .optr .. | .fn .. | .undef | .agg _ | .pagg _ _ | .tup _ | .omap _=>true
 | _=>false
def zX:AV→Bool
 | .agg c=>c.any lx
 | .pagg _ _=>false
 | v=>lx v
def cellsOf:AV→LA
 | .agg c=>c
 | .pagg c _=>c
 | v=>[v]
def Am5:AV→Bool
 | .imm _ _ _ _ o=>o
 | .iptr _ o=>o
 | _=>false
def tv:AV→Bool
 | .pagg _ o=>o
 | .agg c=>c.any Am5
 | v=>Am5 v
def SE:AV→Bool
 | .pagg _ _=>true
 | _=>false
def nD (P:Program) (t:TypeId):Option (Nat→Option (Nat×Nat)) :=
 match P.underlying t with
 | some (.array _ e)=>(P.info? e).map fun ie=>fun i=>some (i*ie.size,ie.size)
 | some (.struct fs)=>(fs.toList.mapM fun f=>(P.info? f.type).map fun i=>(f.offset,i.size)).map fun pl=>fun i=>pl[i]?
 | _=>none
def Ajz (P:Program) (t:TypeId):Option (LA):=(P.info? t).bind fun i=>(i.zero).map fun v=>Ol v.cells.toList
def G0:List (Nat×AV)→List (Nat×LA)
 | []=>[]
 | (i,v)::r=>(i,cellsOf v)::G0 r
def Ar0 (o:Bool):AV→AV
 | .imm c n s t _=>.imm c n s t o
 | .iptr c _=>.iptr c o
 | v=>v
def zY:AV→LA
 | .agg c=>c
 | .pagg c o=>c.map (Ar0 o)
 | v=>[v]
def Mn:List (Nat×AV)→List (Nat×LA)
 | []=>[]
 | (i,v)::r=>(i,zY v)::Mn r
def bA:AV→Bool
 | .undef=>false
 | .tup _=>false
 | .omap _=>false
 | _=>true
def Am6 (P:Program) (t:TypeId) (parts:List (Nat×AV)):Option AV :=
 (nD P t).bind fun place=>cond (parts.all fun p=>bA p.2) (
 cond (parts.any fun p=>SE p.2)
  (cond (parts.any fun p=>zX p.2) ((Ajz P t).bind fun z=>(Ro place (Mn parts) z).map fun c=>.agg c) ((nB P t).bind fun z=>(Ro place (G0 parts) z).map fun c=>.pagg c (parts.any fun p=>tv p.2)))
  ((Ajz P t).bind fun z=>(Ro place (G0 parts) z).map fun c=>.agg c)) none
def Am7 {R:Type} (P:Program) (t:TypeId) (parts:List (Nat×AV)) (k:AV→O R):O R :=
 (nD P t).bind fun place=>cond (parts.all fun p=>bA p.2) (
 cond (parts.any fun p=>SE p.2)
  (cond (parts.any fun p=>zX p.2) ((Ajz P t).bind fun z=>zW place (Mn parts) z fun c=>k (.agg c)) ((nB P t).bind fun z=>zW place (G0 parts) z fun c=>k (.pagg c (parts.any fun p=>tv p.2))))
  ((Ajz P t).bind fun z=>zW place (G0 parts) z fun c=>k (.agg c))) none
def Vc (P:Program) (t:TypeId):List (Nat×Nat) :=
 match P.underlying t with
 | some (.struct fs)=>fs.toList.filterMap fun f=>match P.underlying f.type with | some (.slice el)=>(Ca P el).map fun s=>(f.offset,s) | _=>none
 | _=>[]
def Hn (d:Nat):List (Nat×Nat)→Nat→LA→LA×Fy
 | [],_,c=>(c,[])
 | (o,sz)::r,j,c=>match c[o]? with
  | some .nsl=>((Hn d r (j+1) (c.set o (.own (nid d+j) 0 0))).1,(nid d+j,some (Hd sz))::(Hn d r (j+1) (c.set o (.own (nid d+j) 0 0))).2)
  | _=>Hn d r (j+1) c
def A3f {R:Type} (P:Program) (t:TypeId) (co:Bool) (d:Nat) (v:AV) (k:AV→Fy→O R):O R :=
 match co,v with
 | true,.agg c=>cond (Nat.ble (Vc P t).length 14) (k (.agg (Hn d (Vc P t) 1 c).1) (Hn d (Vc P t) 1 c).2) none
 | _,v=>k v []
def gF {R:Type} (P:Program) (g:Bj) (d:Nat) (t:TypeId) (k:AV→Fy→O R):O R :=
 match zU P t with
 | some (.agg c)=>cond (Nat.ble (Vc P t).length 14&&Qv g c) (k (.optr (nid d) 0) ((Hn d (Vc P t) 1 c).2++Vb d false false 0 (Hn d (Vc P t) 1 c).1)) none
 | _=>none
def A19 (P:Program):Nat→TypeId→Nat→List (Nat×TypeId)
 | 0,t,off=>[(off,t)]
 | d+1,t,off=>match P.underlying t with
  | some (.struct fs)=>fs.toList.flatMap fun f=>A19 P d f.type (off+f.offset)
  | _=>[(off,t)]
def A52 (P:Program) (t:TypeId):Bool:=match P.underlying t with
 | some (.int _)=>true | some .bool=>true | some .string=>true | some (.slice _)=>true | _=>false
def nE {R:Type} (P:Program) (c:LA) (org:Bool):List (Nat×TypeId)→LA→(LA→O R)→O R
 | [],acc,k=>k acc
 | (off,t)::r,acc,k=>cond (Nat.beq off acc.length&&A52 P t) (a8 P t (c.drop off) org fun v=>nE P c org r (acc++[v]) k) none
def sF {R:Type} (P:Program) (co:Bool) (t:TypeId) (v:AV) (k:AV→O R):O R :=
 match co,v with
 | true,.pagg c org=>nE P c org (A19 P 4 t 0) [] fun l=>cond (Nat.beq c.length l.length) (k (.agg l)) none
 | _,v=>k v
def Aj0 {R:Type} (P:Program) (d:Nat) (t:TypeId) (len cap:AV) (k:AV→Fy→O R):O R :=
 match P.underlying t,len,cap with
 | some (.slice el),.int .i64 l,.int .i64 c=>(Ca P el).bind fun sz=>(Am1 P el).bind fun by_=>(nB P el).bind fun z =>
  cond (decide (0≤l)&&(decide (l≤c)&&(decide (c≤140737488355328)&&decide (c*(by_:Int)≤140737488355328)))) (
   k (.own (nid d) 0 l.toNat) (Vb d true false sz (F1 l.toNat z))) none
 | _,_,_=>none
def A2a (g:Bj) (sz:Nat) (s:AV):Option (LA×Nat×Bool×Fy) :=
 match s with
 | .nsl=>some ([],0,false,[])
 | .imm _ n _ true _=>cond (Nat.beq n 0) (some ([],0,false,[])) none
 | .own b off n=>(Hc g b).bind fun x=>cond (x.pure&&(!x.sealed&&Nat.beq sz x.sz)) (some ((x.cells.drop off).take (n*sz),n,x.taint,[(b,none)])) none
 | _=>none
def tw (P:Program) (g:Bj) (el tx:TypeId) (s:AV):Option (Nat×Nat) :=
 match s with
 | .nsl=>match P.underlying tx with | some .string=>some (el,0) | _=>none
 | .own b off _=>(Hc g b).bind fun x=>(x.ty).bind fun q=>cond (Nat.beq q.1 el&&(Nat.beq q.2 0&&Nat.beq off 0)) (some (el,0)) none
 | _=>none
def Am8 (P:Program) (t:TypeId):Bool:=match P.underlying t with | some (.slice _)=>true | some .string=>true | _=>false
def gG {R:Type} (P:Program) (g:Bj) (d:Nat) (t tx:TypeId) (s x:AV) (k:AV→Fy→O R):O R :=
 match P.underlying t with
 | some (.slice el)=>cond (Am8 P tx) ( (Ca P el).bind fun sz=>(Am1 P el).bind fun by_=>(nB P el).bind fun _ =>
  (A2a g sz s).bind fun old=>lw P el g sz x fun new =>
  cond (Nat.ble (old.2.1+new.2.1) 140737488355328&&Nat.ble ((old.2.1+new.2.1)*by_) 140737488355328) (
   k (.own (nid d) 0 (old.2.1+new.2.1)) (old.2.2.2++[(nid d,some { dead:=false,sealed:=false,pure:=true,taint:=old.2.2.1||new.2.2,sz,cells:=old.1++new.1,ty:=tw P g el tx s })])) none) none
 | _=>none
def Aj1 {R:Type} (P:Program) (g:Bj) (t:TypeId) (s x:AV) (k:AV→Fy→O R):O R :=
 match P.underlying t,s with
 | some (.slice el),.own b off n=>(Ca P el).bind fun sz=>(Hc g b).bind fun y=>lw P el g sz x fun new =>
  cond (y.pure&&(!y.sealed&&Nat.beq sz y.sz)) (
   k (.int .i64 (min new.2.1 n:Nat)) [(b,some { y with cells:=C4 y.cells off (new.1.take ((min new.2.1 n)*sz)),taint:=y.taint||new.2.2 })]) none
 | some (.slice el),.nsl=>(Ca P el).bind fun sz=>lw P el g sz x fun _=>k (.int .i64 0) []
 | _,_=>none
def sG {R:Type} (P:Program) (g:Bj) (t:TypeId) (s:AV) (k:AV→Fy→O R):O R :=
 match P.underlying t,s with
 | some (.slice el),.own b off n=>(Ca P el).bind fun sz=>(nB P el).bind fun z=>(Hc g b).bind fun y =>
  cond (y.pure&&(!y.sealed&&Nat.beq sz y.sz)) (k (.tup []) [(b,some { y with cells:=C4 y.cells off (F1 n z) })]) none
 | _,_=>none
def Aj2 {R:Type} (P:Program) (g:Bj) (d:Nat) (src dst:TypeId) (x:AV) (k:AV→Fy→O R):O R :=
 match P.underlying dst with
 | some (.int kd)=>match x with | .int _ n=>cond (P.underlying src).isSome (k (.int kd (kd.wrap n)) []) none | _=>none
 | some .string=>match P.underlying src with
  | some .string=>match x with | .str s=>k (.str s) [] | _=>none
  | some (.slice el)=>match P.underlying el with
   | some (.int .u8)=>match x with
    | .str _=>none
    | x=>(VY g 1 x).bind fun q=>(IY q.1).bind fun s=>k (.str s) []
   | _=>none
  | _=>none
 | some (.slice el)=>match P.underlying src,P.underlying el,x with
  | some (.slice _),some (.int .u8),.own b off n=>cond (Nat.beq src dst&&Nat.ble 1 n) ((Hc g b).bind fun x=>cond x.sealed none (k (.own b off n) [])) none
  | some .string,some (.int .u8),.str s=>k (.own (nid d) 0 s.length) (Vb d true false 1 (s.map fun b=>.int .u8 (b.toNat:Int)))
  | _,_,_=>none
 | _=>none
def sH {R:Type} (P:Program) (g:Bj) (d:Nat) (src dst:TypeId) (x:AV) (k:AV→Fy→O R):O R :=
 match P.underlying dst with
 | some .unsafePointer=>match P.underlying src,x with
  | some (.pointer t),.optr b off=>(Ca P t).bind fun n=>(Hc g b).bind fun y=>cond (!(Nat.beq n 0)&&Nat.blt off y.cells.length) (k (.optr b off) []) none
  | _,_=>none
 | some (.pointer u)=>match P.underlying src,x with
  | some .unsafePointer,.optr b off=>(Ca P u).bind fun _=>(Hc g b).bind fun y=>(y.ty).bind fun q =>
    cond (Nat.blt 0 q.2&&(Nat.blt 0 y.cells.length&&liesAt P P.depth q.1 (q.2/P.cellsOf q.1) off u 1)) (k (.optr b off) []) none
  | _,_=>none
 | _=>Aj2 P g d src dst x k
def yy:AV→Option UInt8
 | .int .u8 n=>cond (decide (((UInt8.ofNat n.toNat).toNat:Int)=n)) (some (UInt8.ofNat n.toNat)) none
 | _=>none
def Z2:LA→Option (List UInt8)
 | []=>some []
 | x::r=>(yy x).bind fun b=>(Z2 r).bind fun l=>some (b::l)
def Xm {R:Type} (g:Bj) (x:AV) (k:AV→Fy→O R):O R :=
 match x with
 | .nsl=>k .nilptr []
 | .own b off n=>(Hc g b).bind fun _=>cond (Nat.blt 0 n) (k (.optr b off) []) none
 | _=>none
def Xn {R:Type} (P:Program) (g:Bj) (t:TypeId) (x n:AV) (k:AV→Fy→O R):O R :=
 match x,n with
 | .nilptr,.int .i64 n=>cond (n==0) (k (.str []) []) none
 | .optr b off,.int .i64 n=>(Hc g b).bind fun y=>(y.ty).bind fun q=>match P.underlying t with
  | some (.pointer e)=>cond (Nat.beq q.1 e&&(Nat.beq (P.cellsOf e) 1&&(y.pure&&(!y.sealed&&(Nat.beq off 0&&(decide (0<n)&&(decide (n≤(y.cells.length:Int))&&decide (n≤9223372036854775807))))))))
    ((Z2 (y.cells.take n.toNat)).bind fun s=>k (.str s) [(b,none)]) none
  | _=>none
 | _,_=>none
def zZ:LA→Int→Bool
 | [],_=>false
 | .int _ m::r,n=>cond (n==m) true (zZ r n)
 | _::r,n=>zZ r n
def A53 (c:LA) (n:Int):LA:=cond (zZ c n) c (c++[.int .i64 n])
def Am9 (P:Program) (t:TypeId):Bool:=match P.underlying t with
 | some (.map k e)=>(match P.underlying k with | some (.int .i64)=>true | _=>false)&&(match zU P e with | some (.bool false)=>true | _=>false)
 | _=>false
def GD {R:Type} (d:Nat) (r:Option AV) (k:AV→Fy→O R):O R :=
 match r with
 | none=>k (.omap (nid d)) [(nid d,some { dead:=false,sealed:=false,pure:=true,taint:=false,sz:=0,cells:=[],mp:=true })]
 | some _=>none
def sI {R:Type} (P:Program) (g:Bj) (t:TypeId) (m key val:AV) (k:AV→Fy→O R):O R :=
 match m,key,val with
 | .omap b,.int .i64 n,.bool true=>cond (Am9 P t) ((Hc g b).bind fun x=>cond (x.mp&&Nat.beq x.sz 0) (k .undef [(b,some { x with cells:=A53 x.cells n })]) none) none
 | _,_,_=>none
def Aj3 {R:Type} (P:Program) (g:Bj) (t:TypeId) (m key:AV) (comma:Bool) (k:AV→O R):O R :=
 match m,key,comma with
 | .omap b,.int .i64 n,false=>cond (Am9 P t) ((Hc g b).bind fun x=>cond (x.mp&&Nat.beq x.sz 0) (k (.bool (zZ x.cells n))) none) none
 | _,_,_=>none
def OD (s:List UInt8) (p:Int):Nat×Nat:=Utf8.decode ⟨⟨s⟩⟩ p.toNat
def sJ {R:Type} (P:Program) (d:Nat) (t:TypeId) (x:AV) (k:AV→Fy→O R):O R :=
 match P.underlying t,x with
 | some .string,.str s=>k (.omap (nid d)) [(nid d,some { dead:=false,sealed:=false,pure:=true,taint:=false,sz:=1,cells:=[.str s,.int .i64 0],mp:=true })]
 | _,_=>none
def Aj4 {R:Type} (g:Bj) (it:AV) (isString:Bool) (k:AV→Fy→O R):O R :=
 match it,isString with
 | .omap b,true=>(Hc g b).bind fun x=>cond (x.mp&&Nat.beq x.sz 1)
  (match x.cells with
   | [.str s,.int .i64 p]=>cond (decide (p<(s.length:Int)))
     (k (.tup [.bool true,.int .i64 p,.int .i32 ((OD s p).1:Nat)]) [(b,some { x with cells:=[.str s,.int .i64 (p+((OD s p).2:Nat))] })]) (k (.tup [.bool false]) [])
   | _=>none) none
 | _,_=>none
def A54 (g:Bj) (x y:AV):Option Bool :=
 match x,y with
 | .nilptr,.nilptr=>some true
 | .nilptr,.optr _ _=>some false
 | .optr _ _,.nilptr=>some false
 | .nilptr,.iptr _ _=>some false
 | .iptr _ _,.nilptr=>some false
 | .optr b o,.optr b' o'=>(Hc g b).bind fun _=>cond (Nat.beq b b') (some (Nat.beq o o')) none
 | _,_=>none
def Ax6 (P:Program) (t:TypeId):Bool:=match P.underlying t with
 | some (.pointer e)=>match Ca P e with | some n=>!(Nat.beq n 0) | none=>false
 | _=>false
def Aj5 {R:Type} (P:Program) (g:Bj) (t:TypeId) (op:BinOp) (x y:AV) (r:AV→O R):O R :=
 match A54 g x y with
 | some b=>cond (Ax6 P t) (match op with
  | .eql=>r (.bool b)
  | .neq=>r (.bool (!b))
  | _=>none) none
 | none=>Ajy P t op x y r
mutual
def Iq:AV→List Nat
 | .own b _ _=>[b]
 | .optr b _=>[b]
 | .omap b=>[b]
 | .agg c=>Ks c
 | .tup c=>Ks c
 | .fn _ c=>Ks c
 | _=>[]
def Ks:List AV→List Nat
 | []=>[]
 | v::r=>Iq v++Ks r
end
mutual
def iG (ρ:Nat→Nat):AV→AV
 | .own b off n=>.own (ρ b) off n
 | .optr b off=>.optr (ρ b) off
 | .omap b=>.omap (ρ b)
 | .agg c=>.agg (CN ρ c)
 | .tup c=>.tup (CN ρ c)
 | .fn f c=>.fn f (CN ρ c)
 | v=>v
def CN (ρ:Nat→Nat):List AV→List AV
 | []=>[]
 | v::r=>iG ρ v::CN ρ r
end
def SF (g:Bj):AV→Option (AV×Bool)
 | .own b off n=>(Hc g b).bind fun x=>cond x.pure (some (.imm ((x.cells.drop off).take (n*x.sz)) n x.sz false (!x.sealed||x.taint),!x.sealed||x.taint)) none
 | .imm c n sz _ org=>some (.imm c n sz false org,org)
 | .iptr c org=>some (.iptr c org,org)
 | .optr .. | .agg _ | .tup _ | .undef | .fn .. | .pagg .. | .omap _=>none
 | v=>some (v,false)
def bB (g:Bj):LA→Option (LA×Bool)
 | []=>some ([],false)
 | v::r=>(SF g v).bind fun p=>(bB g r).bind fun q=>some (p.1::q.1,p.2||q.2)
def Ana (g:Bj):AV→Option (AV×Bool)
 | .own b off n=>(Hc g b).bind fun x=>cond x.pure (some (.imm ((x.cells.drop off).take (n*x.sz)) n x.sz false (!x.sealed||x.taint),!x.sealed)) none
 | .imm c n sz _ org=>some (.imm c n sz false org,false)
 | .optr b off=>(Hc g b).bind fun x=>cond x.pure (some (.iptr (x.cells.drop off) (!x.sealed||x.taint),!x.sealed)) none
 | .agg c=>(bB g c).bind fun q=>some (.pagg q.1 q.2,true)
 | .fn f []=>some (.fn f [],false)
 | .fn _ _ | .tup _ | .undef | .omap _=>none
 | v=>some (v,false)
def K8 (d:Nat):List (Nat×Nat)→Nat→Nat
 | [],_=>d
 | (i,x)::r,b=>cond (Nat.beq i b) x (K8 d r b)
def Kt:List Nat→Nat→Bool
 | [],_=>false
 | i::r,b=>cond (Nat.beq i b) true (Kt r b)
def tz:List Nat→List Nat→List Nat
 | [],acc=>acc.reverse
 | i::r,acc=>cond (Kt acc i) (tz r acc) (tz r (i::acc))
def bC:List Nat→Bool
 | []=>true
 | i::r=>!Kt r i&&bC r
def A8 (base:Nat):List Nat→List (Nat×Nat)
 | []=>[]
 | i::r=>(i,base)::A8 (base+1) r
def Nv (g:Bj):List Nat→List Nat
 | []=>[]
 | b::r=>(match g b with | some x=>cond x.pure [] (Ks x.cells) | none=>[])++Nv g r
def GE (g:Bj) (ids:List Nat):List Nat:=tz (ids++Nv g (ids++Nv g ids)) []
def bD (g:Bj):List Nat→Bool
 | []=>true
 | b::r=>(match g b with | some x=>!x.dead | none=>false)&&bD g r
def IQ (ρ:Nat→Nat) (x:Blk):Blk:={ x with cells:=cond x.pure x.cells (CN ρ x.cells) }
def sub (g:Bj) (ρ:Nat→Nat):List Nat→Aj
 | []=>[]
 | b::r=>match g b with
  | some x=>Gg (sub g ρ r) (ρ b) (IQ ρ x)
  | none=>sub g ρ r
structure Tw where
 runK:{R:Type}→List AV→Aj→(AV→Aj→O R)→O R
 eq:∀ {R:Type} (args:List AV) (h:Aj) (k:AV→Aj→O R),runK args h k=(runK args h fun v h'=>some (v,h')).bind fun p=>k p.1 p.2
def nF {R:Type}:List (Nat×Tw)→Nat→LA→Aj→(AV→Aj→O R)→O R
 | [],_,_,_,_=>none
 | (g,t)::r,f,args,h,k=>cond (Nat.beq g f) (t.runK args h k) (nF r f args h k)
structure Env where
 P:Program
 nt:Nat
 muts:Nat→List Bool
 nils:List (Nat×Nat)
 free:List Nat
 cob:List Nat
 tbl:List (Nat×Tw)
mutual
def MP:AV→Bool
 | .imm _ _ _ _ o=>o
 | .iptr _ o=>o
 | .pagg _ o=>o
 | .agg c=>Yw c
 | .tup c=>Yw c
 | .fn _ c=>Yw c
 | _=>false
def Yw:List AV→Bool
 | []=>false
 | v::r=>MP v||Yw r
end
def nG:Aj→Bool
 | []=>false
 | (_,x)::r=>x.taint||(cond x.pure false (Yw x.cells))||nG r
def Mo (g:Bj):LA→List Nat
 | []=>[]
 | .own b _ _::r=>match g b with | some x=>cond x.sealed (Mo g r) (b::Mo g r) | none=>Mo g r
 | _::r=>Mo g r
def OE (g:Bj):AV→List Nat
 | .own b _ _=>match g b with | some x=>cond x.sealed [] [b] | none=>[]
 | .optr b _=>match g b with | some x=>cond x.sealed [] [b] | none=>[]
 | .agg c=>Mo g c
 | _=>[]
def OF (g:Bj):List Bool→LA→Option (LA×List Nat×List Nat)
 | _,[]=>some ([],[],[])
 | ms,v::r =>
  cond (ms.headD false)
   ((OF g ms.tail r).bind fun q=>some (v::q.1,Iq v++q.2.1,q.2.2))
   ((Ana g v).bind fun p=>(OF g ms.tail r).bind fun q=>some (p.1::q.1,q.2.1,OE g v++q.2.2))
def VZ (ids:List Nat):List Nat→Bool
 | []=>true
 | b::r=>Kt ids b&&VZ ids r
def Ar1:List Nat→List Nat→Bool
 | [],_=>true
 | i::r,l=>!Kt l i&&Ar1 r l
def Anb:List Nat→Bool
 | []=>true
 | _=>false
def Aj6 {R:Type} (E:Env) (g:Bj) (d:Nat) (f:Nat) (args:LA) (k:AV→Fy→O R):O R :=
 (OF g (E.muts f) args).bind fun q =>
 let ids:=GE g q.2.1
 let tin:=A8 100000 ids
 let outs:=tin.map (·.2)
 cond (bD g ids&&(VZ ids q.2.1&&(VZ ids (Nv g ids)&&(Ar1 q.2.2 ids&&(bC (ids.map (K8 0 tin))&&Nat.ble ids.length 100000))))) (
  nF E.tbl f (CN (K8 0 tin) q.1) (sub g (K8 0 tin) ids) fun rv rh =>
  let all:=GE (Am rh) (Iq rv++outs)
  let new:=all.filter fun b=>!Kt outs b
  let tnew:=A8 (nid d) new
  let σ:=K8 0 ((tin.map fun p=>(p.2,p.1))++tnew)
  cond (!Anb q.2.2&&(MP rv||nG rh)) none
   (cond (bD (Am rh) new&&(Nat.ble new.length 16&&(VZ all (Iq rv)&&(VZ all outs&&(VZ all (Nv (Am rh) all)&&bC (all.map σ))))))
    (k (iG σ rv) ((tin.map fun p=>(p.1,(Am rh p.2).map (IQ σ)))++tnew.map fun p=>(p.2,(Am rh p.1).map (IQ σ)))) none)) none
def Aj7 {R:Type} (c a b:AV) (k:AV→O R):O R :=
 match c,a,b with
 | .bool t,.bool x,.bool y=>k (.bool (cond t x y))
 | .bool t,x,.tup []=>cond t (k x) none
 | .bool t,.tup [],y=>cond t none (k y)
 | .bool t,x,y=>cond t (k x) (k y)
 | _,_,_=>none
def Anc (P : Program) (f : Nat) : Bool := match P.funcs[f]? with | some fn => fn.body.isSome && !(fn.name == "runtime.NumGoroutine") | none => false
def A55 (P : Program) (f : Nat) : Bool := match P.funcs[f]? with | some fn => fn.body.isNone && (fn.name == "internal/abi.NoEscape" && fn.origin == "") | none => false
def Mc (a b:Int):Int:=cond (decide (b<a)) b a
def ly (a b:Int):Int:=cond (decide (b>a)) b a
def A3g:AV→AV→Option AV
 | .int k a,.int _ b=>some (.int k (Mc a b))
 | _,_=>none
def A3h:AV→AV→Option AV
 | .int k a,.int _ b=>some (.int k (ly a b))
 | _,_=>none
def Agu {R:Type} (E:Env) (g:Bj) (d:Nat) (v:Operand→AV) (o:Op) (k:AV→Fy→O R):O R :=
 match o with
 | .move x=>k (v x) []
 | .assign x=>k (v x) []
 | .pick c a b=>Aj7 (v c) (v a) (v b) fun r=>k r []
 | .alloc t=>cond (Kt E.cob (d+1000000)) (gF E.P g d t k) (sE E.P g (Kt E.cob d) d t k)
 | .box t x=>sF E.P (Kt E.cob d) t (v x) fun u=>Arz E.P g d t u k
 | .build t parts=>Am7 E.P t (parts.toList.map fun p=>(p.1,v p.2)) fun r=>A3f E.P t (Kt E.cob d) d r k
 | .buildSlice t len parts=>cond ((parts.toList.map fun p=>(p.1,v p.2)).any fun p=>A51 p.2) (Xl E.P g d t len (parts.toList.map fun p=>(p.1,v p.2)) k) (Ug E.P g d t len (parts.toList.map fun p=>(p.1,v p.2)) k)
 | .load t a=>zV E.P g t (v a) fun r=>k r []
 | .store t a x=>sD E.P g t (v a) (v x) k
 | .nilCheck x=>match v x with | .iptr c o=>k (.iptr c o) [] | .optr b o=>k (.optr b o) [] | _=>none
 | .binOp op t x y _=>Aj5 E.P g t op (v x) (v y) fun r=>k r []
 | .unOp op _ x=>(Bbz op (v x)).bind fun r=>k r []
 | .convert s t x=>sH E.P g d s t (v x) k
 | .makeFunc (.func f) first caps=>cond (Nat.blt f 1000000) (k (.fn (f+1000000*first.toList.length) ((first.toList++caps.toList).map v)) []) none
 | .makeSlice t l c=>Aj0 E.P d t (v l) (v c) k
 | .slice t x lo hi mx=>sC E.P g t (v x) (lo.map v) (hi.map v) (mx.map v) fun r=>k r []
 | .fieldAddr t x f=>Xk E.P t (v x) f fun r=>k r []
 | .field t x f=>sA E.P t (v x) f fun r=>k r []
 | .indexAddr t x i=>Xj E.P t (v x) (v i) fun r=>k r []
 | .index t x i=>sB E.P t (v x) (v i) fun r=>k r []
 | .makeMap _ r=>GD d (r.map v) k
 | .mapUpdate t m x y=>sI E.P g t (v m) (v x) (v y) k
 | .lookup t m x c=>Aj3 E.P g t (v m) (v x) c fun r=>k r []
 | .range t x=>sJ E.P d t (v x) k
 | .next it s=>Aj4 g (v it) s k
 | .extract t i=>match v t with | .tup vs=>(vs[i]?).bind fun r=>k r [] | _=>none
 | .call c=>match c.callee with
  | .builtin .len=>match c.args.toList,c.argTypes.toList with | [x],[t]=>(A9z E.P t (v x)).bind fun r=>k r [] | _,_=>none
  | .builtin .append=>match c.args.toList,c.argTypes.toList with | [s,x],[t,tx]=>gG E.P g d t tx (v s) (v x) k | _,_=>none
  | .builtin .copy=>match c.args.toList,c.argTypes.toList with | [s,x],[t,_]=>Aj1 E.P g t (v s) (v x) k | _,_=>none
  | .builtin .clear=>match c.args.toList,c.argTypes.toList with | [x],[t]=>sG E.P g t (v x) k | _,_=>none
  | .builtin .min=>match c.args.toList with | [x,y]=>(A3g (v x) (v y)).bind fun r=>k r [] | [x,y,z]=>(A3g (v x) (v y)).bind fun q=>(A3g q (v z)).bind fun r=>k r [] | _=>none
  | .builtin .max=>match c.args.toList with | [x,y]=>(A3h (v x) (v y)).bind fun r=>k r [] | [x,y,z]=>(A3h (v x) (v y)).bind fun q=>(A3h q (v z)).bind fun r=>k r [] | _=>none
  | .builtin .unsafeSliceData=>match c.args.toList with | [x]=>Xm g (v x) k | _=>none
  | .builtin .unsafeString=>match c.args.toList,c.argTypes.toList with | [x,y],[t,_]=>Xn E.P g t (v x) (v y) k | _,_=>none
  | .value fo=>match v fo with
   | .fn f caps=>cond (Anc E.P (f%1000000)) (Aj6 E g d (f%1000000) (caps.take (f/1000000)++(c.args.toList.map v++caps.drop (f/1000000))) k)
     (cond (A55 E.P (f%1000000)) (match caps,c.args.toList.map v with | [],[x]=>k x [] | _,_=>none) none)
   | _=>none
  | _=>none
 | _=>none
structure Foot where
 r:List Nat
 w:Option Nat
 f:List Nat
 u:List Nat
def lz:List Operand→List Nat
 | []=>[]
 | .tmp t::r=>t::lz r
 | _::r=>lz r
def Al:Fy→Aj→Aj
 | [],h=>h
 | (b,some x)::r,h=>Al r (Gg h b x)
 | (b,none)::r,h=>Al r (match Am h b with | some x=>Gg h b { x with dead:=true,pure:=true,cells:=[] } | none=>h)
def gH (ops:Array Oper) (o:Oper):Option (Nat×Bool) :=
 match o.guard with
 | none=>none
 | some (j,want)=>((ops[j]?).bind (·.dst)).map fun t=>(t,want)
def SG (ops:Array Oper) (s:Ip) (o:Oper):Option Bool :=
 match o.guard with
 | none=>some true
 | some (j,want)=>match (ops[j]?).bind (·.dst) with
  | some t=>match Hb s t with
   | .bool b=>some (b==want)
   | .tup []=>some false
   | _=>none
  | none=>some false
def Ax7 (nt:Nat) (s:Ip) (d:Option Nat) (v:AV):Ip:=match d with | some d=>cond (Nat.blt d nt) (lq s d v) s | none=>s
def A2b:Op→Bool
 | .binOp op ..=>match op with | .eql | .neq=>true | _=>false
 | .move _ | .assign _ | .pick .. | .build .. | .unOp .. | .makeFunc .. | .fieldAddr .. | .field .. | .indexAddr .. | .index .. | .extract .. | .nilCheck _=>false
 | .call c=>match c.callee with
  | .builtin .len | .builtin .min | .builtin .max=>false
  | _=>true
 | _=>true
def A2c:Op→Bool
 | .load .. | .binOp ..=>true
 | _=>false
def CB (h:Aj) (op:Op) (vals:LA):List Nat:=cond (A2b op) (cond (A2c op) (tz (Ks vals) []) (GE (Am h) (Ks vals))) []
def OG (d b:Nat):Bool:=Nat.ble (nid d) b&&Nat.blt b (nid d+16)
def ii (d:Nat) (F:List Nat) (h:Aj):Fy→Bool
 | []=>true
 | (b,_)::r=>cond (OG d b) (Am h b).isNone (Kt F b&&(Am h b).isSome)&&ii d F h r
def Ar2 {R:Type} (E:Env) (ops:Array Oper) (o:Oper) (st:St) (k:St→Foot→O R):O R :=
 (SG ops st.s o).bind fun wanted=>cond wanted (
  Agu E (fun b=>cond (Kt (CB st.h o.op (o.op.operands.toList.map (ev st.s))) b) (Am st.h b) none) (o.dst.getD 50000) (ev st.s) o.op fun v ups =>
  cond (ii (o.dst.getD 50000) (CB st.h o.op (o.op.operands.toList.map (ev st.s))) st.h ups)
   (k { s:=Ax7 E.nt st.s o.dst v,h:=Al ups st.h } { r:=(match gH ops o with | some p=>[p.1] | none=>[])++lz o.op.operands.toList,w:=o.dst,f:=CB st.h o.op (o.op.operands.toList.map (ev st.s)),u:=ups.map (·.1) }) none)
  (k { st with s:=Ax7 E.nt st.s o.dst (.tup []) } { r:=(match gH ops o with | some p=>[p.1] | none=>[]),w:=o.dst,f:=[],u:=[] })
def sK {R:Type} (ops:Array Oper) (o:Oper) (st:St) (k:St→O R):O R :=
 match o.guard with
 | none=>k st
 | some (j,want)=>match (ops[j]?).bind (·.dst) with
  | none=>k st
  | some t=>match Hb st.s t with
   | .bool b=>cond (b==want) (k { s:=lq st.s t (.bool want),h:=st.h }) (k { s:=lq st.s t (.bool (!want)),h:=st.h })
   | _=>k st
def z6 {R:Type} (E:Env) (ops:Array Oper):List Oper→St→List Foot→(St→List Foot→O R)→O R
 | [],st,tr,k=>k st tr
 | o::r,st,tr,k=>sK ops o st fun st=>Ar2 E ops o st fun st f=>z6 E ops r st (f::tr) k
def Bbv:Option Nat→List Nat→Bool
 | none,_=>false
 | some d,l=>Kt l d
def uA (a b:Foot):Bool :=
 !Bbv a.w b.r&&!Bbv b.w a.r&&(match a.w,b.w with | some x,some y=>!Nat.beq x y | _,_=>true)&&Ar1 a.u (b.f++b.u)&&Ar1 b.u a.f
def bE (e:Edge):Bool:=match e.ground with | .textOnly _=>false | .gcOnly _=>false | _=>true
def SH (o:Oper):List Nat:=(o.after.toList.filter bE).map (·.on)
def And {α:Type}:List Nat→(List Nat→α)→α
 | [],k=>k []
 | i::r,k=>And r fun s=>k (i::s)
theorem OH {α:Type}:∀ (l:List Nat) (k:List Nat→α),And l k=k l
 | [],_=>rfl
 | i::r,k=>by rw[And,OH r]
def Ij:List Oper→List (List Nat)→List (List Nat)
 | [],acc=>acc
 | o::r,acc=>And (tz (SH o++((SH o).flatMap fun i=>(acc[i]?).getD [])) []) fun a=>Ij r (acc++[a])
def FO:Nat→List Oper→Bool
 | _,[]=>true
 | i,o::r=>(o.after.toList.all fun e=>!bE e||Nat.blt e.on i)&&FO (i+1) r
def nH (f:Foot) (anc:List Nat):Nat→List Foot→Bool
 | _,[]=>true
 | i,g::r=>(Kt anc i||uA g f)&&nH f anc (i+1) r
def gI:List Foot→List (List Nat)→List Foot→Bool
 | [],_,_=>true
 | f::r,a::az9,seen=>nH f a 0 seen&&gI r az9 (seen++[f])
 | _::_,[],_=>false
def Nw (b:Nat):Nat:=cond (Nat.ble Jc b) (b - Jc) b
mutual
def GF (g:Bj):AV→AV
 | .own b off n=>match Hc g b with | some _=>.own (Nw b) off n | none=>.undef
 | .optr b off=>match Hc g b with | some _=>.optr (Nw b) off | none=>.undef
 | .omap b=>match Hc g b with | some _=>.omap (Nw b) | none=>.undef
 | .agg c=>.agg (Mp g c)
 | .tup c=>.tup (Mp g c)
 | .fn f c=>.fn f (Mp g c)
 | v=>v
def Mp (g:Bj):List AV→List AV
 | []=>[]
 | v::r=>GF g v::Mp g r
end
def sL (g:Bj) (K:List Nat):Ip→Ip
 | []=>[]
 | (t,v)::r=>cond (Kt K t) ((t,GF g v)::sL g K r) (sL g K r)
def z7 (K:List Nat):Ip→List Nat
 | []=>[]
 | (t,v)::r=>cond (Kt K t) (Iq v++z7 K r) (z7 K r)
def GG (g:Bj):List Nat→Aj
 | []=>[]
 | b::r=>match Hc g b with
  | some x=>Gg (GG g r) (Nw b) { x with cells:=cond x.pure x.cells (Mp g x.cells) }
  | none=>GG g r
def IZ (g:Bj) (ids:List Nat):List Nat:=ids.filter fun b=>match Hc g b with | some _=>true | none=>false
def z8 (g:Bj) (ids:List Nat):List Nat→Bool
 | []=>true
 | b::r=>(Kt ids b||(Hc g b).isNone)&&z8 g ids r
def A2d:List Nat→Bool
 | []=>true
 | b::r=>cond (Nat.ble Jc b) (Nat.blt (Nw b) 100000) true&&A2d r
def clean (K roots:List Nat) (st:St):Option St :=
 let g:=Am st.h
 let ids:=IZ g (GE g (z7 K st.s++roots))
 cond (bC (ids.map Nw)&&(z8 g ids (z7 K st.s)&&(z8 g ids (Nv g ids)&&A2d ids))) (some { s:=sL g K st.s,h:=GG g ids }) none
def gJ {R:Type} (E:Env) (roots:List Nat) (ops:Array Oper) (draw:Bool) (st:St) (k:St→O R):O R :=
 z6 E ops ops.toList st [] fun st tr =>
  cond (!draw||(FO 0 ops.toList&&gI tr.reverse (Ij ops.toList []) [])) ((clean (st.s.map (·.1)) roots st).bind k) none
def z_ (b:Nat):Bool:=Nat.ble 100000 b&&Nat.blt b 200000
def SI (live:List Nat):List (Nat×Nat)→St→Option St
 | [],st=>some st
 | (t,sz)::r,st=>cond (Nat.ble 1000000 sz)
  (match Kt live t,Hb st.s t with
  | true,.nsl=>SI live r { s:=lq st.s t (.imm [] 0 (sz - 1000000) false false),h:=st.h }
  | true,.own b off n=>(ig (Am st.h) (.own b off n)).bind fun q=>SI live r { s:=lq st.s t q.1,h:=Al q.2.1 st.h }
  | _,_=>SI live r st)
  (match Kt live t,Hb st.s t with
  | true,.nsl=>cond (Am st.h (nid t+15)).isSome none (SI live r { s:=lq st.s t (.own (nid t+15) 0 0),h:=Gg st.h (nid t+15) (Hd sz) })
  | _,_=>SI live r st)
def OI (free:List Nat) (b:Nat):Bool:=z_ b&&!Kt free b
def A56 (free ids:List Nat):List (Nat×Nat):=A8 300000 (ids.filter fun b=>!OI free b)
def GH (free ids:List Nat) (b:Nat):Nat:=cond (OI free b) b (K8 0 (A56 free ids) b)
def A57 (ρ:Nat→Nat) (K:List Nat):Ip→Ip
 | []=>[]
 | (t,v)::r=>cond (Kt K t) ((t,iG ρ v)::A57 ρ K r) (A57 ρ K r)
def nI (E:Env) (live roots:List Nat) (st:St):Option St :=
 (SI live E.nils st).bind fun st =>
 let g:=Am st.h
 let ids:=IZ g (GE g (z7 live st.s++roots))
 cond (bC (ids.map (GH E.free ids))&&(VZ ids (z7 live st.s)&&(VZ ids (Nv g ids)&&Nat.ble ids.length 100000))) (some { s:=A57 (GH E.free ids) live st.s,h:=sub g (GH E.free ids) ids }) none
inductive Hint where
 | leaf
 | node (live:List Nat) (a b:Hint)
 | join (live:List Nat) (a b:Hint)
def Hint.live:Hint→List Nat
 | .leaf=>[]
 | .node l _ _=>l
 | .join l _ _=>l
def Hint.a:Hint→Hint
 | .leaf=>.leaf
 | .node _ a _=>a
 | .join _ a _=>a
def Hint.b:Hint→Hint
 | .leaf=>.leaf
 | .node _ _ b=>b
 | .join _ _ b=>b
def Hint.isJoin:Hint→Bool
 | .join _ _ _=>true
 | _=>false
noncomputable def Ag {α:Type} (a:α):{ x:α // x=a }:=Classical.choice ⟨⟨a,rfl⟩⟩
noncomputable def A58 {R:Type} (j:Bool) (f:St→O R):St→O R:=cond j (Ag f).1 f
theorem I_ {R:Type} (j:Bool) (f:St→O R):A58 j f=f:=by cases j;rfl;exact(Ag f).2
noncomputable def A3i {R:Type} (E:Env) (roots:List Nat) (H:Hint) (f:St→O R) (st:St):O R:=cond H.isJoin ((nI E H.live roots st).bind (A58 true f)) (f st)
def bF {R:Type} (cn:St→Option St) (body:(St→O R)→St→O R):Nat→St→O R
 | 0,_=>none
 | n+1,st=>body (fun st=>(cn st).bind (bF cn body n)) st
noncomputable def He {R:Type} (E:Env) (roots:List Nat) (N:Nat):Code→Hint→(St→O R)→(Nat→St→O R)→(St→O R)→St→O R
 | .skip,_,k,_,_,st=>k st
 | .region _ ops draw,_,k,_,_,st=>gJ E roots ops draw st k
 | .seq a b,H,k,x,r,st=>He E roots N a H.a (A3i E roots H fun st=>He E roots N b H.b k x r st) x r st
 | .cond c a b,H,k,x,r,st=>match ev st.s c with
  | .bool t=>cond t (He E roots N a H.a k x r st) (He E roots N b H.b k x r st)
  | _=>none
 | .block id c,H,k,x,r,st=>He E roots N c H.a k (fun j st=>cond (Nat.beq j id) (k st) (x j st)) r st
 | .loop c,H,_,x,r,st=>(nI E H.live roots st).bind (A58 true (bF (nI E H.live roots) (fun k st=>He E roots N c H.a k x r st) N))
 | .exit id,_,_,x,_,st=>x id st
 | .ret,_,_,_,r,st=>r st
 | _,_,_,_,_,_=>none
def Qw {R:Type} (E:Env) (st:St):List ResultVar→LA→(LA→O R)→O R
 | [],acc,k=>k acc.reverse
 | .tmp t::r,acc,k=>Qw E st r (Hb st.s t::acc) k
 | .cell a t::r,acc,k=>zV E.P (Am st.h) t (Hb st.s a) fun v=>Qw E st r (v::acc) k
def A90 (g:Bj) (i:Nat) (m:Nat×Nat) (v:AV):Option (AV×Fy) :=
 cond (Nat.beq m.1 0) (some (v,[]))
 (cond (Nat.beq m.1 1) (match v with
  | .nsl=>some (.imm [] 0 m.2 false false,[])
  | .imm c n sz _ o=>some (.imm c n sz false o,[])
  | .own b off n=>(ig g (.own b off n)).bind fun q=>some (q.1,q.2.1)
  | _=>none)
 (cond (Nat.beq m.1 2) (match v with
  | .nsl=>cond (g (nid 90000+i)).isSome none (some (.own (nid 90000+i) 0 0,[(nid 90000+i,some (Hd m.2))]))
  | v=>some (v,[]))
 (match v with
  | .agg c=>(GC g c).bind fun q=>some (.pagg q.1 q.2.2,q.2.1)
  | .pagg c o=>some (.pagg c o,[])
  | _=>none)))
def Ar3 (h:Aj):Nat→List (Nat×Nat)→LA→Option (LA×Aj)
 | _,_,[]=>some ([],h)
 | i,ms,v::r=>(A90 (Am h) i (ms.headD (0,0)) v).bind fun p=>(Ar3 (Al p.2 h) (i+1) ms.tail r).bind fun q=>some (p.1::q.1,q.2)
def A91 (l:LA):AV:=match l with | [v]=>v | l=>.tup l
def DV {R:Type} (E:Env) (fn:Func) (modes:List (Nat×Nat)) (outs:List Nat) (k:AV→Aj→O R) (st:St):O R :=
 Qw E st fn.results.toList [] fun l =>
 (Ar3 st.h 0 modes l).bind fun q =>
 let v:=A91 q.1
 let g:=Am q.2
 let ids:=IZ g (GE g (Iq v++outs))
 cond (bC (ids.map (GH E.free ids))&&(VZ ids (Iq v)&&(VZ ids (Nv g ids)&&Nat.ble ids.length 100000))) (k (iG (GH E.free ids) v) (sub g (GH E.free ids) ids)) none
def Aj8:Nat→LA→Ip
 | _,[]=>[]
 | i,v::r=>(i,v)::Aj8 (i+1) r
structure Hints where
 H:Hint
 nils:List (Nat×Nat):=[]
 modes:List (Nat×Nat):=[]
 free:List Nat:=[]
 cob:List Nat:=[]
def yz:Aj→Bool
 | []=>true
 | (b,_)::r=>z_ b&&yz r
noncomputable def V_ {R:Type} (P:Program) (muts:Nat→List Bool) (T:List (Nat×Tw)) (hs:Hints) (N f:Nat) (args:LA) (h:Aj) (k:AV→Aj→O R):O R :=
 match P.funcs[f]? with
 | none=>none
 | some fn=>match fn.body with
  | none=>none
  | some c =>
   let E:Env:={ P,nt:=fn.ntmps,muts,nils:=hs.nils,free:=hs.free,cob:=hs.cob,tbl:=T }
   let outs:=h.map (·.1)
   let fin:=DV E fn hs.modes outs k
   cond (Nat.ble args.length fn.ntmps&&yz h) (He E outs N c hs.H fin (fun _ _=>none) fin { s:=Aj8 0 args,h }) none
end Gx

namespace Gx
open Go
mutual
def RepC (J:Nat→Prop) (w:World):AV→Value→Prop
 | .int k n,v=>v=.int k n
 | .bool b,v=>v=.bool b
 | .str s,v=>v=.string ⟨⟨s⟩⟩
 | .nsl,v=>v=.slice none 0 0
 | .imm c len sz tight _,v=>c.length=len*sz∧∃ A cap,v=.slice A len cap∧len≤cap∧(tight=true→cap=len) ∧
   (len=0∨∃ a,A=some a∧J a.block∧RepCs J w c (fun j=>w.cell? (a.add j)) 0)
 | .iptr c _,v=>∃ a,v=.pointer (some a)∧J a.block∧RepCs J w c (fun j=>w.cell? (a.add j)) 0
 | .nilptr,v=>v=.pointer none
 | .nilfn,v=>v=.nilFunc
 | .fn f [],v=>v=.func (.func (f%1000000)) #[] #[]
 | _,_=>False
def RepCs (J:Nat→Prop) (w:World):List AV→(Nat→Option Value)→Nat→Prop
 | [],_,_=>True
 | x::r,rd,i=>(∃ u,rd i=some u∧RepC J w x u)∧RepCs J w r rd (i+1)
end
theorem B4 {J:Nat→Prop} {w:World}:∀ {c:LA} {rd:Nat→Option Value} {i:Nat},
  RepCs J w c rd i↔∀ j x,c[j]?=some x→∃ u,rd (i+j)=some u∧RepC J w x u:=by
 intro c
 induction c with
 | nil=>intro rd i;simp[RepCs]
 | cons x r d =>
  intro rd i
  rw[RepCs,d]
  constructor
  ·rintro⟨h0,e⟩ j y b
   cases j with
   | zero=>simp at b;subst b;simpa using h0
   | succ j=>have:=e j y (by simpa using b);rwa [show i+1+j=i+(j+1) by omega] at this
  ·intro h
   refine⟨by simpa using h 0 x (by simp),fun j y b=>?_⟩
   have:=h (j+1) y (by simpa using b)
   rwa [show i+(j+1)=i+1+j by omega] at this
def Ar4 (J:Nat→Prop) (w w':World):Prop:=∀ k,J k→w'.heap[k]?=w.heap[k]?
theorem sM {J:Nat→Prop} {w w':World} (h:Ar4 J w w') {a:Addr} (b:J a.block):w'.cell? a=w.cell? a:=by
 unfold World.cell?;rw[h a.block b]
theorem Uh (a:Addr) (n:Nat):(a.add n).block=a.block:=by unfold Addr.add;split<;>rfl
mutual
theorem RepC.keep {J J':Nat→Prop} {w w':World} (hJ:∀ k,J k→J' k) (hk:Ar4 J w w'):∀ {x:AV} {v:Value},RepC J w x v→RepC J' w' x v
 | .int ..,_,h=>h
 | .bool _,_,h=>h
 | .str _,_,h=>h
 | .nsl,_,h=>h
 | .imm c _ _ _ _,_,h=>by
  rw[RepC] at h ⊢
  obtain⟨h1,A,cap,h2,h3,h4,h5⟩:=h
  refine⟨h1,A,cap,h2,h3,h4,?_⟩
  rcases h5 with h5 | ⟨a,ha,hj,hc⟩
  ·exact .inl h5
  ·refine .inr ⟨a,ha,hJ _ hj,RepCs.keep hJ hk (c:=c) (fun j=>?_) hc⟩
   exact sM hk (by rw[Uh];exact hj)
 | .iptr c _,_,h=>by
  rw[RepC] at h ⊢
  obtain⟨a,ha,hj,hc⟩:=h
  exact⟨a,ha,hJ _ hj,RepCs.keep hJ hk (c:=c) (fun j=>sM hk (by rw[Uh];exact hj)) hc⟩
 | .nilptr,_,h=>h
 | .nilfn,_,h=>h
 | .fn _ [],_,h=>h
 | .fn _ (_::_),_,h=>by simp[RepC] at h
 | .pagg ..,_,h=>by simp[RepC] at h
 | .agg _,_,h=>by simp[RepC] at h
 | .tup _,_,h=>by simp[RepC] at h
 | .own ..,_,h=>by simp[RepC] at h
 | .optr ..,_,h=>by simp[RepC] at h
 | .undef,_,h=>by simp[RepC] at h
 | .omap _,_,h=>by simp[RepC] at h
theorem RepCs.keep {J J':Nat→Prop} {w w':World} (hJ:∀ k,J k→J' k) (hk:Ar4 J w w'):∀ {c:List AV} {rd rd':Nat→Option Value} {i:Nat},(∀ j,rd' j=rd j)→RepCs J w c rd i→RepCs J' w' c rd' i
 | [],_,_,_,_,_=>trivial
 | x::r,rd,rd',i,he,h=>by
  rw[RepCs] at h ⊢
  obtain⟨⟨u,hu,hx⟩,hr⟩:=h
  exact⟨⟨u,by rw[he];exact hu,RepC.keep hJ hk (x:=x) hx⟩,RepCs.keep hJ hk (c:=r) he hr⟩
end
abbrev Cp:=Nat→Option (Nat×Nat)
def Bh (w:World) (k:Nat):Nat:=match w.heap[k]? with | some (.cells cs _ _)=>cs.size | _=>0
def Bay (sz k:Nat):Value:=match sz with | 0=>.map (some k) | _+1=>.pointer (some ⟨k,0,none⟩)
mutual
def Rep (J:Bool→Nat→Prop) (β:Cp) (h:Aj) (w:World):AV→Value→Prop
 | .own b off n,v=>∃ x A cap,(Am h b=some x∧x.mp=false)∧v=.slice A n cap∧n≤cap∧(cap=0∨∃ k o,A=some ⟨k,o+off,none⟩ ∧
   (x.dead=true∨(β b=some (k,o)∧o+off+cap*x.sz≤Bh w k∧off+n*x.sz≤x.cells.length)))
 | .omap b,v=>∃ x k,(Am h b=some x∧x.mp=true)∧(x.dead=true∨(β b=some (k,0)∧v=Bay x.sz k))
 | .optr b off,v=>∃ x k o,(Am h b=some x∧x.mp=false)∧v=.pointer (some ⟨k,o+off,none⟩)∧(x.dead=true∨β b=some (k,o))
 | .pagg c org,v=>∃ cs,v=.agg ⟨cs⟩∧cs.length=c.length∧RepCs (J org) w c (fun j=>cs[j]?) 0
 | .agg c,v=>∃ cs,v=.agg ⟨cs⟩∧Reps J β h w c cs
 | .tup c,v=>∃ cs,v=.tuple ⟨cs⟩∧Reps J β h w c cs
 | .fn f c,v=>∃ cs:List Value,v=.func (.func (f%1000000)) ⟨cs.take (f/1000000)⟩ ⟨cs.drop (f/1000000)⟩∧Reps J β h w c cs
 | .undef,_=>True
 | .imm c n sz t org,v=>RepC (J org) w (.imm c n sz t org) v
 | .iptr c org,v=>RepC (J org) w (.iptr c org) v
 | .int k n,v=>v=.int k n
 | .bool b,v=>v=.bool b
 | .str s,v=>v=.string ⟨⟨s⟩⟩
 | .nsl,v=>v=.slice none 0 0
 | .nilptr,v=>v=.pointer none
 | .nilfn,v=>v=.nilFunc
def Reps (J:Bool→Nat→Prop) (β:Cp) (h:Aj) (w:World):List AV→List Value→Prop
 | [],cs=>cs=[]
 | x::r,cs=>∃ u us,cs=u::us∧Rep J β h w x u∧Reps J β h w r us
end
structure Ext (J:Bool→Nat→Prop) (β:Cp) (h:Aj) (w:World) (J':Bool→Nat→Prop) (β':Cp) (h':Aj) (w':World):Prop where
 jsub:∀ o k,J o k→J' o k
 keep:∀ o,Ar4 (J o) w w'
 blk:∀ b x,Am h b=some x→∃ x',(Am h' b=some x'∧x'.mp=x.mp)∧(x'.dead=true∨(x.dead=false∧β' b=β b∧x'.sz=x.sz∧(x.mp=false→x'.cells.length=x.cells.length)))
 size:∀ b k o,β b=some (k,o)→Bh w k≤Bh w' k
mutual
theorem Rep.ext {J J':Bool→Nat→Prop} {β β':Cp} {h h':Aj} {w w':World} (E:Ext J β h w J' β' h' w'):∀ {x:AV} {v:Value},Rep J β h w x v→Rep J' β' h' w' x v
 | .own b off n,v,hr=>by
  rw[Rep] at hr ⊢
  obtain⟨x,A,cap,⟨hx,hm⟩,h1,h2,hr⟩:=hr
  obtain⟨x',⟨hx',hm'⟩,hd⟩:=E.blk b x hx
  refine⟨x',A,cap,⟨hx',by rw[hm',hm]⟩,h1,h2,?_⟩
  rcases hr with hr | ⟨k,o,h3,hr⟩
  ·exact .inl hr
  ·refine .inr ⟨k,o,h3,?_⟩
   rcases hd with hd | ⟨hd,hβ,hs,hl⟩
   ·exact .inl hd
   ·rcases hr with hr | ⟨h4,h5,h6⟩
    ·simp[hd] at hr
    ·exact .inr ⟨by rw[hβ];exact h4,by rw[hs];exact Nat.le_trans h5 (E.size b k o h4),by rw[hs,hl hm];exact h6⟩
 | .optr b off,v,hr=>by
  rw[Rep] at hr ⊢
  obtain⟨x,k,o,⟨hx,hm⟩,h1,hr⟩:=hr
  obtain⟨x',⟨hx',hm'⟩,hd⟩:=E.blk b x hx
  refine⟨x',k,o,⟨hx',by rw[hm',hm]⟩,h1,?_⟩
  rcases hd with hd | ⟨hd,hβ,hs,hl⟩
  ·exact .inl hd
  ·rcases hr with hr | hr
   ·simp[hd] at hr
   ·exact .inr (by rw[hβ];exact hr)
 | .omap b,v,hr=>by
  rw[Rep] at hr ⊢
  obtain⟨x,k,⟨hx,hm⟩,hr⟩:=hr
  obtain⟨x',⟨hx',hm'⟩,hd⟩:=E.blk b x hx
  refine⟨x',k,⟨hx',by rw[hm',hm]⟩,?_⟩
  rcases hd with hd | ⟨hd,hβ,hs,hl⟩
  ·exact .inl hd
  ·rcases hr with hr | ⟨hr,hv⟩
   ·simp[hd] at hr
   ·exact .inr ⟨by rw[hβ];exact hr,by rw[hs];exact hv⟩
 | .pagg c org,v,hr=>by
  rw[Rep] at hr ⊢
  obtain⟨cs,h1,h2,h3⟩:=hr
  exact⟨cs,h1,h2,RepCs.keep (E.jsub org) (E.keep org) (fun _=>rfl) h3⟩
 | .agg c,v,hr=>by
  rw[Rep] at hr ⊢
  obtain⟨cs,h1,h2⟩:=hr
  exact⟨cs,h1,Reps.ext E (c:=c) h2⟩
 | .tup c,v,hr=>by
  rw[Rep] at hr ⊢
  obtain⟨cs,h1,h2⟩:=hr
  exact⟨cs,h1,Reps.ext E (c:=c) h2⟩
 | .fn f c,v,hr=>by
  rw[Rep] at hr ⊢
  obtain⟨cs,h1,h2⟩:=hr
  exact⟨cs,h1,Reps.ext E (c:=c) h2⟩
 | .undef,_,_=>by rw[Rep];trivial
 | .imm c n sz t org,v,hr=>by rw[Rep] at hr ⊢;exact RepC.keep (E.jsub org) (E.keep org) hr
 | .iptr c org,v,hr=>by rw[Rep] at hr ⊢;exact RepC.keep (E.jsub org) (E.keep org) hr
 | .int ..,_,hr=>hr
 | .bool _,_,hr=>hr
 | .str _,_,hr=>hr
 | .nsl,_,hr=>hr
 | .nilptr,_,hr=>hr
 | .nilfn,_,hr=>hr
theorem Reps.ext {J J':Bool→Nat→Prop} {β β':Cp} {h h':Aj} {w w':World} (E:Ext J β h w J' β' h' w'):∀ {c:List AV} {cs:List Value},Reps J β h w c cs→Reps J' β' h' w' c cs
 | [],_,hr=>hr
 | x::r,cs,hr=>by
  rw[Reps] at hr ⊢
  obtain⟨u,us,h1,h2,h3⟩:=hr
  exact⟨u,us,h1,Rep.ext E (x:=x) h2,Reps.ext E (c:=r) h3⟩
end
end Gx

namespace Gx
open Go
def A2e:List (Nat×List Value):=[(3,(List.range 20).map fun i=>.int .u64 ((10 ^ i:Nat):Int))]
def Ax8:List Nat:=[0]
end Gx

namespace Gx
open Go
def CellsRep (J:Bool→Nat→Prop) (β:Cp) (h:Aj) (w:World) (x:Blk) (rd:Nat→Option Value):Prop :=
 (x.pure=true→RepCs (J x.taint) w x.cells rd 0) ∧
 (x.pure=false→∀ j c,x.cells[j]?=some c→∃ u,rd j=some u∧Rep J β h w c u∧u.oneCell'=true)
def FrOk (n:Nat) (fr:Nat×Nat):Prop:=fr.1=fr.2∨n≤fr.1
theorem FrOk.at {n:Nat} {fr:Nat×Nat} (h:FrOk n fr) (j:Nat) (b:j<n):¬ (fr.1≤j∧j<fr.2):=by rcases h with h | h<;>omega
def TyOk (X:Option (Nat×Nat)) (ty:TypeId) (o n:Nat):Prop:=∀ t m,X=some (t,m)→ty=t∧o=0∧(m=0∨n=m)
def FrTy (X:Option (Nat×Nat)) (ty:TypeId) (o n:Nat) (fr:Nat×Nat):Prop:=FrOk n fr∧TyOk X ty o n
theorem TyOk.none {ty:TypeId} {o n:Nat}:TyOk .none ty o n:=fun _ _ h=>by cases h
theorem FrOk.un {n:Nat} {fr:Nat×Nat} (h:FrOk n fr) {ty:TypeId} {o:Nat}:FrTy .none ty o n fr:=⟨h,TyOk.none⟩
theorem FrTy.un0 {ty:TypeId} {o n a:Nat}:FrTy .none ty o n (a,a):=⟨.inl rfl,TyOk.none⟩
def A92 (J:Bool→Nat→Prop) (β:Cp) (h:Aj) (w:World) (b:Nat) (x:Blk):Prop :=
 (β b=none∧x.cells=[])∨∃ k o cs ty fr,β b=some (k,o)∧w.heap[k]?=some (.cells cs ty fr) ∧
  FrTy x.ty ty o cs.size fr∧o+x.cells.length≤cs.size∧CellsRep J β h w x (fun j=>cs[o+j]?) ∧
  (x.sealed=false→∀ g,¬ J g k)∧(x.sealed=true→J x.taint k)
def A93 (c:LA) (es:Array MapEntry):Prop:=∃ l:List Int,c=l.map (fun n=>.int .i64 n)∧es.toList.map (fun e=>(e.key,e.val))=l.map (fun n=>(.int .i64 n,.bool true))
def ObjIs (x:Blk) (ob:Obj):Prop:=(x.sz=0∧∃ es clk,ob=.map es clk∧A93 x.cells es)∨(x.sz=1∧∃ s pos,ob=.stringIter ⟨⟨s⟩⟩ pos∧x.cells=[.str s,.int .i64 ((pos:Nat):Int)])
def MapRep (J:Bool→Nat→Prop) (β:Cp) (w:World) (b:Nat) (x:Blk):Prop :=
 x.pure=true∧x.sealed=false∧∃ k ob,β b=some (k,0)∧w.heap[k]?=some ob∧ObjIs x ob∧∀ g,¬ J g k
theorem ObjIs.row {x:Blk} {ob:Obj} (h:ObjIs x ob) {cs:Array Value} {ty:TypeId} {fr:Nat×Nat}:ob≠.cells cs ty fr:=by
 rcases h with⟨_,es,clk,rfl,_⟩ | ⟨_,s,pos,rfl,_⟩<;>exact fun h=>by cases h
def GlobOk (J:Bool→Nat→Prop) (w:World):Prop:=(∀ p ∈ A2e,J false p.1∧∃ ty fr,w.heap[p.1]?=some (.cells p.2.toArray ty fr))∧∀ g ∈ Ax8,J false g∧∃ m,w.cell? ⟨g,0,none⟩=some (.int .i64 m)
theorem GlobOk.to {J J':Bool→Nat→Prop} {w w':World} (h:GlobOk J w) (d:∀ k,J false k→J' false k) (e:Ar4 (J false) w w'):GlobOk J' w':=⟨fun p b =>
 ⟨d _ (h.1 p b).1,by rw[e _ (h.1 p b).1];exact(h.1 p b).2⟩,fun g c=>⟨d _ (h.2 g c).1,by rw[sM e (by exact(h.2 g c).1)];exact(h.2 g c).2⟩⟩
theorem GlobOk.ext {J J':Bool→Nat→Prop} {β β':Cp} {h h':Aj} {w w':World} (G:GlobOk J w) (E:Ext J β h w J' β' h' w'):GlobOk J' w':=G.to (E.jsub false) (E.keep false)
structure SimH (J:Bool→Nat→Prop) (β:Cp) (h:Aj) (w:World):Prop where
 jlt:∀ o k,J o k→k<w.heap.size
 jft:∀ k,J false k→J true k
 gl:GlobOk J w
 blk:∀ b x,Am h b=some x→x.dead=false→x.mp=false→A92 J β h w b x
 mblk:∀ b x,Am h b=some x→x.dead=false→x.mp=true→MapRep J β w b x
 sep:∀ b b' x x' k o o',Am h b=some x→Am h b'=some x'→x.dead=false→x'.dead=false→x.sealed=false→β b=some (k,o)→β b'=some (k,o')→b=b'
mutual
theorem SK {J:Bool→Nat→Prop} {β:Cp} {h:Aj} {w:World}:∀ v:Value,Rep J β h w (ry v) v
 | .int ..=>by simp[ry,Rep]
 | .bool _=>by simp[ry,Rep]
 | .string ⟨⟨s⟩⟩=>by simp[ry,Rep]
 | .slice none 0 0=>by simp[ry,Rep]
 | .slice none 0 (_+1)=>by simp[ry,Rep]
 | .slice none (_+1) _=>by simp[ry,Rep]
 | .slice (some _) _ _=>by simp[ry,Rep]
 | .pointer none=>by simp[ry,Rep]
 | .pointer (some _)=>by simp[ry,Rep]
 | .nilFunc=>by simp[ry,Rep]
 | .agg ⟨cs⟩=>by rw[ry,Rep];exact⟨cs,rfl,gK cs⟩
 | .float ..=>by simp[ry,Rep]
 | .complex ..=>by simp[ry,Rep]
 | .map _=>by simp[ry,Rep]
 | .chan _=>by simp[ry,Rep]
 | .func ..=>by simp[ry,Rep]
 | .iface ..=>by simp[ry,Rep]
 | .nilIface=>by simp[ry,Rep]
 | .tuple _=>by simp[ry,Rep]
theorem gK {J:Bool→Nat→Prop} {β:Cp} {h:Aj} {w:World}:∀ cs:List Value,Reps J β h w (Ol cs) cs
 | []=>by simp[Ol,Reps]
 | v::r=>by rw[Ol,Reps];exact⟨v,r,rfl,SK v,gK r⟩
end
structure SimS (J:Bool→Nat→Prop) (β:Cp) (h:Aj) (w:World) (s:Ip) (t:Array Value):Prop where
 slot:∀ i v,t[i]?=some v→Rep J β h w (Hb s i) v
 out:∀ i,t.size≤i→Hb s i=.undef
theorem Bi {J:Bool→Nat→Prop} {β:Cp} {h:Aj} {w:World} {s:Ip} {a:Act} (H:SimS J β h w s a.tmps) (x:Operand):Rep J β h w (ev s x) (a.eval x):=by
 cases x with
 | tmp t =>
  rw[ev,Act.eval,Array.getD_eq_getD_getElem?]
  cases b:a.tmps[t]? with
  | some v=>exact H.slot t v b
  | none =>
   have:a.tmps.size≤t:=by simpa using b
   rw[H.out t this];simp[Rep]
 | const v=>exact SK v
 | global g=>simp[ev,Rep]
 | func f =>
  rw[ev]
  cases c:Nat.blt f 1000000 with
  | false=>simp[Rep]
  | true =>
   have:f<1000000:=by simpa using c
   simp[Rep,Act.eval,Reps,Nat.mod_eq_of_lt this]
section
variable {R:Type} {r:R} {P:Program} {J:Bool→Nat→Prop} {β:Cp} {h:Aj} {w:World}
theorem Ane {t:TypeId} {op:BinOp} {k:IntKind} {a b:Int} {v:AV} (c:rz op k a b=some v) :
  ∃ vc,(binOp op t (.int k a) (.int k b)).run P w=.ok vc w∧Rep J β h w v vc:=by
 cases op<;>simp[rz] at c<;>subst c<;>simp[binOp,Op.intArith,Op.intBits,Op.intCmp,Rep]
theorem Ax9 {op:BinOp} {t:TypeId} {x y:AV} {k:AV→O R} {vx vy:Value} (c:A3e P t op x y k=some r) (n:Rep J β h w x vx) (q:Rep J β h w y vy) (ox oy:Operand) :
  ∃ v vc,k v=some r∧(do eqGuard op t ox oy vx vy;binOp op t vx vy:Sem Value).run P w=.ok vc w∧Rep J β h w v vc:=by
 unfold A3e at c
 split at c
 ·rename_i j a m b
  rw[Rep] at n q;subst n q
  have f:(eqGuard op t ox oy (.int j a) (.int m b)).run P w=.ok () w:=by
   unfold eqGuard;cases op<;>simp
  split at c
  ·cases e:decide (b<0)<;>rw[e] at c<;>simp at c e
   refine⟨_,_,c,?_,by rw[Rep]⟩
   simp[f,binOp,Op.shift];intro z;omega
  ·cases e:decide (b<0)<;>rw[e] at c<;>simp at c e
   refine⟨_,_,c,?_,by rw[Rep]⟩
   simp[f,binOp,Op.shift];intro z;omega
  ·cases l:Va j m<;>rw[l] at c<;>simp at c
   have i:j=m:=by simpa[Va] using l
   subst i
   cases e:(b==0)<;>rw[e] at c<;>simp at c e
   refine⟨_,_,c,?_,by rw[Rep]⟩
   simp[f,binOp,Op.intDiv,e]
  ·cases l:Va j m<;>rw[l] at c<;>simp at c
   have i:j=m:=by simpa[Va] using l
   subst i
   cases e:(b==0)<;>rw[e] at c<;>simp at c e
   refine⟨_,_,c,?_,by rw[Rep]⟩
   simp[f,binOp,Op.intDiv,e]
  ·cases l:Va j m<;>rw[l] at c<;>simp at c
   have i:j=m:=by simpa[Va] using l
   subst i
   cases hi:rz op j a b with
   | none=>rw[hi] at c;simp at c
   | some v =>
    rw[hi] at c
    obtain⟨vc,A,C⟩:=Ane (P:=P) (J:=J) (β:=β) (h:=h) (w:=w) (t:=t) hi
    exact⟨v,vc,by simpa using c,by simp[f,A],C⟩
 ·rename_i a b
  rw[Rep] at n q;subst n q
  split at c
  ·cases e:gE P t<;>rw[e] at c<;>simp at c
   have s:P.underlying t=some .bool:=by unfold gE at e;split at e<;>simp_all
   refine⟨_,_,c,?_,by rw[Rep]⟩
   have u:(Op.equal t (.bool a) (.bool b)).run P w=.ok (a==b) w:=by
    have:∀ d,(Op.equalIn (d+1) t (.bool a) (.bool b)).run P w=.ok (a==b) w:=fun d=>by
     unfold Op.equalIn;simp only[Sem.run_bind,run_underlying s,Result.andThen_ok,Sem.run_pure]
    exact this 9999
   have f:∀ op,(eqGuard op t ox oy (.bool a) (.bool b)).run P w=.ok () w:=fun op=>by unfold eqGuard;cases op<;>simp
   simp only[Sem.run_bind,f,Result.andThen_ok,binOp,u,Sem.run_pure]
  ·cases e:gE P t<;>rw[e] at c<;>simp at c
   have s:P.underlying t=some .bool:=by unfold gE at e;split at e<;>simp_all
   refine⟨_,_,c,?_,by rw[Rep]⟩
   have u:(Op.equal t (.bool a) (.bool b)).run P w=.ok (a==b) w:=by
    have:∀ d,(Op.equalIn (d+1) t (.bool a) (.bool b)).run P w=.ok (a==b) w:=fun d=>by
     unfold Op.equalIn;simp only[Sem.run_bind,run_underlying s,Result.andThen_ok,Sem.run_pure]
    exact this 9999
   have f:∀ op,(eqGuard op t ox oy (.bool a) (.bool b)).run P w=.ok () w:=fun op=>by unfold eqGuard;cases op<;>simp
   simp only[Sem.run_bind,f,Result.andThen_ok,binOp,u,Sem.run_pure]
  ·simp at c
 ·rename_i a b
  rw[Rep] at n q;subst n q
  have D:(⟨⟨a⟩⟩:ByteArray).toList=a:=by simp[ByteArray.toList_eq]
  have eb:(⟨⟨b⟩⟩:ByteArray).toList=b:=by simp[ByteArray.toList_eq]
  have f:∀ op,(eqGuard op t ox oy (.string ⟨⟨a⟩⟩) (.string ⟨⟨b⟩⟩)).run P w=.ok () w:=fun op=>by unfold eqGuard;cases op<;>simp
  split at c
  ·cases e:Nat.ble (a.length+b.length) 140737488355328<;>rw[e] at c<;>simp at c e
   refine⟨_,_,c,?_,by rw[Rep]⟩
   have F:¬ (((⟨⟨a⟩⟩:ByteArray).size+(⟨⟨b⟩⟩:ByteArray).size:Nat):Int)>IntKind.i64.max:=by
    show ¬ ((a.length+b.length:Nat):Int)>9223372036854775807
    omega
   have G:(⟨⟨a⟩⟩:ByteArray)++⟨⟨b⟩⟩=⟨⟨a++b⟩⟩:=by
    apply ByteArray.ext;simp[ByteArray.data_append]
   simp only[Sem.run_bind,f,Result.andThen_ok,binOp,Op.stringOp,if_neg F,Sem.run_pure,G]
  all_goals first
   | (refine⟨_,_,c,?_,by rw[Rep]⟩;simp only[Sem.run_bind,f,Result.andThen_ok,binOp,Op.stringOp,Sem.run_pure,D,eb];done)
   | simp at c
 ·simp at c
end
end Gx

namespace Gx
open Go
section
variable {R:Type} {r:R} {P:Program} {J:Bool→Nat→Prop} {β:Cp} {h:Aj} {w:World}
theorem ub {α:Type} {o:Option α} {f:α→O R} (b:o.bind f=some r):∃ x,o=some x∧f x=some r:=by
 cases o with
 | none=>simp at b
 | some x=>exact⟨x,rfl,by simpa using b⟩
theorem uc {b:Bool} {x:O R} (c:cond b x none=some r):b=true∧x=some r:=by
 cases b<;>simp at c;exact⟨rfl,c⟩
theorem Aya {b:Bool} {x:O R} (c:cond b none x=some r):b=false∧x=some r:=by
 cases b<;>simp at c;exact⟨rfl,c⟩
theorem A3j {op:UnOp} {x v:AV} {vx:Value} (c:Bbz op x=some v) (e:Rep J β h w x vx) :
  ∃ vc,(Op.unary op vx).run P w=.ok vc w∧Rep J β h w v vc:=by
 unfold Bbz at c
 split at c
 ·rename_i k n
  rw[Rep] at e;subst e;simp at c;subst c
  refine⟨.int k (k.wrap (-n)),by simp[Op.unary,Op.intArith],?_⟩
  rw[Rep]
 ·rename_i k n
  rw[Rep] at e;subst e
  have d:=c
  rw[rz] at d
  simp only[Option.some.injEq] at d;subst d
  refine⟨_,rfl,?_⟩
  rw[Rep];cases k.signed<;>rfl
 ·rename_i b
  rw[Rep] at e;subst e;simp at c;subst c
  exact⟨.bool (!b),by simp[Op.unary],by rw[Rep]⟩
 ·simp at c
def uB (P:Program) (J:Bool→Nat→Prop) (β:Cp) (h:Aj) (w:World) (t:TypeId) (rd:Nat→Option Value) (v:AV):Prop :=
 (∃ d,P.underlying t=some d∧d.isRow=false∧∃ u,rd 0=some u∧Rep J β h w v u) ∨
 (∃ d,P.underlying t=some d∧d.isRow=true∧∃ us:List Value,(P.info? t).map (·.size)=some us.length∧(∀ j u,us[j]?=some u→rd j=some u)∧Rep J β h w v (.agg us.toArray))
theorem RepCs.at {J:Nat→Prop} {c:LA} {rd:Nat→Option Value} (b:RepCs J w c rd 0) {j:Nat} {x:AV} (d:c[j]?=some x):∃ u,rd j=some u∧RepC J w x u:=by
 have:=B4.1 b j x d;simpa using this
theorem RepCs.drop {J:Nat→Prop} {c:LA} {rd:Nat→Option Value} (b:RepCs J w c rd 0) (n:Nat):RepCs J w (c.drop n) (fun j=>rd (n+j)) 0:=by
 rw[B4] at b ⊢
 intro j x d
 rw[List.getElem?_drop] at d
 simpa using b (n+j) x d
theorem RepCs.take {J:Nat→Prop} {c:LA} {rd:Nat→Option Value} (d:RepCs J w c rd 0) (n:Nat):RepCs J w (c.take n) rd 0:=by
 rw[B4] at d ⊢
 intro j x b
 rw[List.getElem?_take] at b
 split at b
 ·exact d j x b
 ·simp at b
theorem RepCs.list {J:Nat→Prop} {c:LA} {rd:Nat→Option Value} (f:RepCs J w c rd 0) :
  ∃ us:List Value,us.length=c.length∧(∀ j u,us[j]?=some u→rd j=some u)∧RepCs J w c (fun j=>us[j]?) 0:=by
 refine⟨c.zipIdx.map fun p=>(rd p.2).getD undef,by simp,fun j u b=>?_,?_⟩
 ·rw[List.getElem?_map,List.getElem?_zipIdx] at b
  cases e:c[j]? with
  | none=>rw[e] at b;simp at b
  | some x =>
   rw[e] at b
   obtain⟨i,d,_⟩:=f.at e
   simp[d] at b
   rw[d,b]
 ·rw[B4]
  intro j x b
  obtain⟨u,d,hr⟩:=f.at b
  refine⟨u,?_,hr⟩
  simp[b,d]
theorem uC {J1 J2:Nat→Prop}:∀ {c:LA} {rd:Nat→Option Value} {i:Nat},Az c=true→RepCs J1 w c rd i→RepCs J2 w c rd i
 | [],_,_,_,_=>trivial
 | x::r,rd,i,b,d=>by
  rw[RepCs] at d ⊢
  obtain⟨⟨u,e,j⟩,f⟩:=d
  have hr:Az r=true:=by unfold Az at b;split at b<;>simp_all
  refine⟨⟨u,e,?_⟩,uC hr f⟩
  unfold Az at b
  split at b<;>simp_all[RepC]
theorem ij {t:TypeId} {c:LA} {org:Bool} {k:Bool→O R} {rd:Nat→Option Value} {i:Nat} (b:DT P t c org k=some r) (d:RepCs (J org) w c rd i):∃ o,k o=some r∧RepCs (J o) w c rd i:=by
 unfold DT at b
 cases e:A17 P t with
 | true=>rw[e] at b;exact⟨org,b,d⟩
 | false =>
  rw[e,cond_false] at b
  obtain⟨f,j⟩:=uc b
  refine⟨false,j,?_⟩
  cases org with
  | false=>exact d
  | true=>exact uC (by simpa using f) d
theorem Z3 {t:TypeId} {c:LA} {org:Bool} {k:AV→O R} {rd:Nat→Option Value} (b:a8 P t c org k=some r) (q:RepCs (J org) w c rd 0) :
  ∃ v,k v=some r∧uB P J β h w t rd v:=by
 unfold a8 at b
 have agg:∀ {d:TypeDesc},P.underlying t=some d→d.isRow=true→((Ca P t).bind fun n=>cond (Nat.ble n c.length) (DT P t (c.take n) org fun o=>k (.pagg (c.take n) o)) none)=some r →
   ∃ v,k v=some r∧uB P J β h w t rd v:=by
  intro d i I b
  obtain⟨n,hn,b⟩:=ub b
  obtain⟨C,b⟩:=uc b
  have G:n≤c.length:=by simpa using C
  obtain⟨us,j,f,D⟩:=(q.take n).list
  have K:us.length=n:=by rw[j];simp;omega
  obtain⟨o,b,F⟩:=ij b D
  refine⟨_,b,.inr ⟨d,i,I,us,?_,f,?_⟩⟩
  ·rw[K];exact hn
  ·rw[Rep];exact⟨us,rfl,by rw[j],F⟩
 split at b
 ·rename_i T i
  obtain⟨x,l,b⟩:=ub b
  obtain⟨n,hn,b⟩:=ub b
  obtain⟨u,j,f⟩:=q.at (by rw[←List.head?_eq_getElem?];exact l)
  refine⟨_,b,.inl ⟨_,i,rfl,u,j,?_⟩⟩
  unfold tp at hn
  split at hn
  ·obtain⟨s,y⟩:=uc hn
   simp[Va] at s y;subst s;subst y
   rw[RepC] at f;rw[Rep];exact f
  ·simp at hn
 ·rename_i i
  obtain⟨x,l,b⟩:=ub b
  obtain⟨n,hn,b⟩:=ub b
  obtain⟨u,j,f⟩:=q.at (by rw[←List.head?_eq_getElem?];exact l)
  refine⟨_,b,.inl ⟨_,i,rfl,u,j,?_⟩⟩
  unfold asBool at hn
  split at hn
  ·simp at hn;subst hn
   rw[RepC] at f;rw[Rep];exact f
  ·simp at hn
 ·rename_i i
  obtain⟨x,l,b⟩:=ub b
  obtain⟨n,hn,b⟩:=ub b
  obtain⟨u,j,f⟩:=q.at (by rw[←List.head?_eq_getElem?];exact l)
  refine⟨_,b,.inl ⟨_,i,rfl,u,j,?_⟩⟩
  unfold tq at hn
  split at hn
  ·simp at hn;subst hn
   rw[RepC] at f;rw[Rep];exact f
  ·simp at hn
 ·rename_i e i
  obtain⟨sz,L,b⟩:=ub b
  obtain⟨x,l,b⟩:=ub b
  obtain⟨p,m,b⟩:=ub b
  obtain⟨u,j,f⟩:=q.at (by rw[←List.head?_eq_getElem?];exact l)
  refine⟨_,b,.inl ⟨_,i,rfl,u,j,?_⟩⟩
  unfold A5x at m
  rw[Rep,RepC]
  split at m
  ·obtain⟨s,z⟩:=uc m
   simp at s z;subst s;subst z
   rw[RepC] at f
   obtain⟨D,A,cap,F,M,U,S⟩:=f
   exact⟨D,A,cap,F,M,by simp,S⟩
  ·simp at m;subst m
   rw[RepC] at f
   exact⟨by simp,none,0,f,by simp,by simp,.inl rfl⟩
  ·simp at m
 ·rename_i i;exact agg i rfl b
 ·rename_i i;exact agg i rfl b
 ·simp at b
theorem C0:∀ {c:LA} {cs:List Value},Reps J β h w c cs↔cs.length=c.length∧∀ (j:Nat) (x:AV) (u:Value),c[j]?=some x→cs[j]?=some u→Rep J β h w x u
 | [],cs=>by rw[Reps];simp
 | x::r,cs=>by
  rw[Reps]
  constructor
  ·rintro⟨u,us,rfl,e,f⟩
   rw[C0] at f
   refine⟨by simp[f.1],fun j y v b d=>?_⟩
   cases j with
   | zero=>simp at b d;subst b d;exact e
   | succ j=>exact f.2 j y v (by simpa using b) (by simpa using d)
  ·rintro⟨i,e⟩
   cases cs with
   | nil=>simp at i
   | cons u us =>
    refine⟨u,us,rfl,e 0 x u (by simp) (by simp),?_⟩
    rw[C0]
    exact⟨by simpa using i,fun j y v b d=>e (j+1) y v (by simpa using b) (by simpa using d)⟩
theorem bG {t:TypeId} {c:LA} {k:AV→O R} {rd:Nat→Option Value} (b:tu P t c k=some r)
  (q:∀ j x,c[j]?=some x→∃ u,rd j=some u∧Rep J β h w x u) :
  ∃ v,k v=some r∧uB P J β h w t rd v:=by
 unfold tu at b
 have agg:∀ {d:TypeDesc},P.underlying t=some d→d.isRow=true→((Ca P t).bind fun n=>cond (Nat.ble n c.length) (k (.agg (c.take n))) none)=some r →
   ∃ v,k v=some r∧uB P J β h w t rd v:=by
  intro d f y b
  obtain⟨n,hn,b⟩:=ub b
  obtain⟨s,b⟩:=uc b
  have m:n≤c.length:=by simpa using s
  refine⟨_,b,.inr ⟨d,f,y,(c.take n).zipIdx.map fun p=>(rd p.2).getD undef,?_,fun j u l=>?_,?_⟩⟩
  ·simp;rw[Nat.min_eq_left m];exact Option.map_eq_some_iff.1 hn
  ·rw[List.getElem?_map,List.getElem?_zipIdx] at l
   cases e:(c.take n)[j]? with
   | none=>rw[e] at l;simp at l
   | some x =>
    rw[e] at l
    rw[List.getElem?_take] at e
    split at e
    ·obtain⟨z,i,_⟩:=q j x e
     simp[i] at l
     rw[i,l]
    ·simp at e
  ·rw[Rep]
   refine⟨_,rfl,C0.2 ⟨by simp,fun j x u e f=>?_⟩⟩
   simp[e] at f
   rw[List.getElem?_take] at e
   split at e
   ·obtain⟨z,i,hr⟩:=q j x e
    simp[i] at f;subst f;exact hr
   ·simp at e
 split at b
 ·rename_i f;exact agg f rfl b
 ·rename_i f;exact agg f rfl b
 ·rename_i d _ _ f
  obtain⟨x,e,b⟩:=ub b
  obtain⟨u,A,C⟩:=q 0 x (by rw[←List.head?_eq_getElem?];exact e)
  refine⟨x,b,.inl ⟨d,f,?_,u,A,C⟩⟩
  cases d<;>simp_all
 ·simp at b
theorem Aj9 {n:Nat} {k:AV→O R}:∀ {c:LA} {i:Nat},SD n k c i=some r→i≤n∧∃ x,c[n - i]?=some x∧k x=some r
 | [],i,b=>by simp[SD] at b
 | v::c,i,b=>by
  rw[SD] at b
  cases d:Nat.beq n i with
  | true =>
   rw[d] at b
   have:n=i:=Nat.eq_of_beq_eq_true d
   subst this
   exact⟨Nat.le_refl _,v,by simp,b⟩
  | false =>
   rw[d] at b
   obtain⟨j,x,e,f⟩:=Aj9 (c:=c) b
   refine⟨by omega,x,?_,f⟩
   rw[show n - i=(n - (i+1))+1 by omega];simpa using e
theorem nK {t:TypeId} {c:LA} {off:Nat} {k:AV→O R} (b:a_ P t c off k=some r):tu P t (c.drop off) k=some r:=by
 unfold a_ at b
 unfold tu
 split at b
 ·exact b
 ·exact b
 ·rename_i d j l m
  obtain⟨_,x,e,f⟩:=Aj9 b
  have i:(c.drop off).head?=some x:=by rw[List.head?_eq_getElem?,List.getElem?_drop];simpa using e
  rw[i];exact f
 ·simp at b
theorem gL {t:TypeId} {d:TypeDesc} (b:P.underlying t=some d):(isAgg t).run P w=.ok d.isRow w:=by
 unfold isAgg
 rw[Sem.run_bind,run_underlying b w]
 cases d<;>simp
theorem ik {t:TypeId} {a:Addr} {v:AV} (hr:uB P J β h w t (fun j=>w.cell? (a.add j)) v):∃ vc,(loadVar t a).run P w=.ok vc w∧Rep J β h w v vc:=by
 rcases hr with⟨d,c,e,u,b,f⟩ | ⟨d,c,e,us,b,f,l⟩
 ·refine⟨u,?_,f⟩
  have k:w.cell? a=some u:=by simpa[Addr.add] using b
  simp[loadVar,gL c,e,k]
 ·refine⟨_,?_,l⟩
  have m:=run_loadCells_list (P:=P) w a us f
  cases hq:P.info? t with
  | none=>simp[hq] at b
  | some i =>
   have hs:i.size=us.length:=by simpa[hq] using b
   simp[loadVar,Sem.run_bind,gL c,e,Go.sizeOf,typeInfo,hq,hs,m]
theorem Yx {t:TypeId} {cs:List Value} {off:Nat} {v:AV} (hr:uB P J β h w t (fun j=>cs[off+j]?) v):∃ vc,(part t ⟨cs⟩ off).run P w=.ok vc w∧Rep J β h w v vc:=by
 rcases hr with⟨d,c,e,u,b,f⟩ | ⟨d,c,e,us,b,f,l⟩
 ·refine⟨u,?_,f⟩
  simp at b
  simp[part,gL c,e,b]
 ·refine⟨_,?_,l⟩
  cases hq:P.info? t with
  | none=>simp[hq] at b
  | some i =>
   have hs:i.size=us.length:=by simpa[hq] using b
   have:(⟨cs⟩:Array Value).extract off (off+us.length)=us.toArray:=by
    apply Array.ext'
    simp
    apply List.ext_getElem?
    intro j
    rw[List.getElem?_take,List.getElem?_drop]
    split
    ·rename_i k
     rw[List.getElem?_eq_getElem k]
     exact f j _ (List.getElem?_eq_getElem k)
    ·rename_i k
     rw[List.getElem?_eq_none (by omega)]
   simp only[part,Sem.run_bind,gL c,e,Go.sizeOf,typeInfo,run_program,Result.andThen_ok,hq,Sem.run_pure,hs,if_true,this]
end
end Gx

namespace Gx
open Go
section
variable {R:Type} {r:R} {P:Program} {J:Bool→Nat→Prop} {β:Cp} {h:Aj} {w:World} {g:Bj}
theorem Vd {k:Nat} {cs:Array Value} {ty:TypeId} {fr:Nat×Nat} (b:w.heap[k]?=some (.cells cs ty fr)) (i:Nat):w.cell? ⟨k,i,none⟩=cs[i]?:=by
 simp[World.cell?,b]
def Looks (g:Bj) (h:Aj):Prop:=∀ b x,g b=some x→Am h b=some x
theorem Es {b:Nat} {x:Blk} (d:Looks g h) (c:Hc g b=some x):Am h b=some x∧x.dead=false:=by
 unfold Hc at c
 obtain⟨y,e,c⟩:=ub c
 obtain⟨f,c⟩:=Aya c
 simp at c;subst c
 exact⟨d b _ e,f⟩
theorem Anf {b off:Nat} {x:Blk} {v:Value} (S:SimH J β h w) (f:Am h b=some x) (i:x.dead=false) (hr:Rep J β h w (.optr b off) v) :
  ∃ k o cs ty fr,β b=some (k,o)∧v=.pointer (some ⟨k,o+off,none⟩)∧w.heap[k]?=some (.cells cs ty fr) ∧
  FrTy x.ty ty o cs.size fr∧o+x.cells.length≤cs.size∧CellsRep J β h w x (fun j=>cs[o+j]?) ∧
  (x.sealed=false→∀ g,¬ J g k)∧(x.sealed=true→J x.taint k):=by
 rw[Rep] at hr
 obtain⟨y,k,o,⟨d,l⟩,m,hr⟩:=hr
 rw[f] at d;simp at d;subst d
 rcases hr with hr | e
 ·simp[i] at hr
 ·rcases S.blk b x f i l with⟨hn,_⟩ | ⟨A,o',cs,ty,fr,c,n,q,s,t,u,z⟩
  ·rw[e] at hn;simp at hn
  ·rw[e] at c;simp at c;obtain⟨rfl,rfl⟩:=c
   exact⟨k,o,cs,ty,fr,e,m,n,q,s,t,u,z⟩
theorem CellsRep.reads {t:TypeId} {x:Blk} {cs:Array Value} {o off:Nat} {k:AV→O R} (f:CellsRep J β h w x (fun j=>cs[o+j]?))
  (b:cond x.pure (a8 P t (x.cells.drop off) x.taint k) (a_ P t x.cells off k)=some r) :
  ∃ v,k v=some r∧uB P J β h w t (fun j=>cs[o+off+j]?) v:=by
 cases c:x.pure with
 | true =>
  rw[c] at b
  have:=(f.1 c).drop off
  obtain⟨v,d,e⟩:=Z3 (β:=β) (h:=h) b this
  exact⟨v,d,by simpa[Nat.add_assoc] using e⟩
 | false =>
  rw[c] at b
  obtain⟨v,d,e⟩:=bG (J:=J) (β:=β) (h:=h) (w:=w) (rd:=fun j=>cs[o+(off+j)]?) (nK b) (fun j y i=>by
   rw[List.getElem?_drop] at i
   obtain⟨u,l,hr,_⟩:=f.2 c _ _ i
   exact⟨u,l,hr⟩)
  exact⟨v,d,by simpa[Nat.add_assoc] using e⟩
theorem uD {t:TypeId} {p:AV} {vp:Value} {k:AV→O R} (S:SimH J β h w) (s:Looks g h) (d:zV P g t p k=some r) (e:Rep J β h w p vp) :
  ∃ v vc,k v=some r∧(Instr.loadAt t vp).run P w=.ok vc w∧Rep J β h w v vc:=by
 unfold zV at d
 split at d
 ·rename_i c org
  rw[Rep,RepC] at e
  obtain⟨a,rfl,_,f⟩:=e
  obtain⟨v,i,l⟩:=Z3 (β:=β) (h:=h) d f
  obtain⟨vc,m,n⟩:=ik l
  exact⟨v,vc,i,by simp[Instr.loadAt,Instr.sureAddr,m],n⟩
 ·rename_i b off
  obtain⟨x,u,d⟩:=ub d
  obtain⟨y,z⟩:=Es s u
  obtain⟨kk,o,cs,ty,fr,C,rfl,A,_,_,f,_⟩:=Anf S y z e
  obtain⟨v,i,l⟩:=f.reads d
  have q:uB P J β h w t (fun j=>w.cell? ((⟨kk,o+off,none⟩:Addr).add j)) v:=by
   simpa only[Addr.add_mid,Vd A] using l
  obtain⟨vc,m,n⟩:=ik q
  exact⟨v,vc,i,by simp[Instr.loadAt,Instr.sureAddr,m],n⟩
 ·simp at d
theorem D1 {t:TypeId} {n:Nat} (hs:Ca P t=some n) (w:World):(Go.sizeOf t).run P w=.ok n w:=by
 unfold Ca at hs
 cases hq:P.info? t with
 | none=>simp[hq] at hs
 | some i=>simp[hq] at hs;simp[Go.sizeOf,typeInfo,hq,hs]
theorem Xo {i:Int} {n:Nat} (hi:Ae i n=true):0≤i∧i<(n:Int):=by simpa[Ae] using hi
theorem nL {J:Nat→Prop} {c:LA} {a:Addr} (b:RepCs J w c (fun j=>w.cell? (a.add j)) 0) (n:Nat):RepCs J w (c.drop n) (fun j=>w.cell? ((a.add n).add j)) 0:=by
 have e:∀ j,(a.add n).add j=a.add (n+j):=fun j=>by
  unfold Addr.add
  by_cases d:n=0<;>by_cases f:j=0<;>simp[d,f,Nat.add_assoc]
 simpa[e] using b.drop n
theorem A8m {b off n:Nat} {v:Value} (m:Nat) (hr:Rep J β h w (.own b off n) v) (hn:n≠0) :
  ∃ k o cap,v=.slice (some ⟨k,o,none⟩) n cap∧Rep J β h w (.optr b (off+m)) (.pointer (some ⟨k,o+m,none⟩)):=by
 rw[Rep] at hr
 obtain⟨x,A,cap,c,rfl,d,hr⟩:=hr
 rcases hr with hr | ⟨k,o,rfl,hr⟩
 ·omega
 ·refine⟨k,o+off,cap,rfl,?_⟩
  rw[Rep];exact⟨x,k,o,c,by rw[Nat.add_assoc],hr.imp id (·.1)⟩
theorem io {t b:TypeId} {c:IntKind} {i:Int} {len cap sz:Nat} {a:Addr} (d:P.underlying t=some (.slice b)) (hs:Ca P b=some sz) (e:Ae i len=true) :
  (Instr.indexAt t (.slice (some a) len cap) (.int c i)).run P w=.ok (.pointer (some (a.add (i.toNat*sz)))) w:=by
 obtain⟨h0,f⟩:=Xo e
 simp[Instr.indexAt,asIntOf,run_underlying d,h0,f,D1 hs]
theorem ip {t b:TypeId} {c:IntKind} {i:Int} {len sz:Nat} {a:Addr} (d:P.underlying t=some (.array len b)) (hs:Ca P b=some sz) (e:Ae i len=true) :
  (Instr.indexAt t (.pointer (some a)) (.int c i)).run P w=.ok (.pointer (some (a.add (i.toNat*sz)))) w:=by
 obtain⟨h0,f⟩:=Xo e
 simp[Instr.indexAt,asIntOf,run_underlying d,h0,f,D1 hs,Instr.sureAddr]
theorem sN {t:TypeId} {x i:AV} {vx vi:Value} {k:AV→O R} (e:Xj P t x i k=some r) (f:Rep J β h w x vx) (hi:Rep J β h w i vi) :
  ∃ v vc,k v=some r∧(Instr.indexAt t vx vi).run P w=.ok vc w∧Rep J β h w v vc:=by
 unfold Xj at e
 split at e
 ·rename_i n c len sz tight org q i j
  obtain⟨s,hs,l⟩:=ub e
  obtain⟨F,K⟩:=uc l
  obtain⟨d,m⟩:=uc K
  have u:s=sz:=by simp at F;exact F.symm
  subst u
  rw[Rep] at hi;subst hi
  rw[Rep,RepC] at f
  obtain⟨G,A,cap,rfl,I,_,hA⟩:=f
  rcases hA with hA | ⟨a,rfl,z,C⟩
  ·have:=Xo d;omega
  refine⟨_,_,m,io j hs d,?_⟩
  rw[Rep,RepC]
  exact⟨_,rfl,by rw[Uh];exact z,nL C _⟩
 ·rename_i n b off len q i j
  obtain⟨sz,hs,l⟩:=ub e
  obtain⟨d,m⟩:=uc l
  rw[Rep] at hi;subst hi
  obtain⟨kk,o,cap,rfl,D⟩:=A8m (i.toNat*sz) f (by have:=Xo d;omega)
  exact⟨_,_,m,io j hs d,by rw[Addr.add_mid];exact D⟩
 ·rename_i len n c org q i j
  obtain⟨sz,hs,l⟩:=ub e
  obtain⟨d,m⟩:=uc l
  rw[Rep] at hi;subst hi
  rw[Rep,RepC] at f
  obtain⟨a,rfl,z,C⟩:=f
  refine⟨_,_,m,ip j hs d,?_⟩
  rw[Rep,RepC]
  exact⟨_,rfl,by rw[Uh];exact z,nL C _⟩
 ·rename_i len n b off q i j
  obtain⟨sz,hs,l⟩:=ub e
  obtain⟨d,m⟩:=uc l
  rw[Rep] at hi;subst hi
  rw[Rep] at f
  obtain⟨y,kk,o,L,rfl,D⟩:=f
  refine⟨_,_,m,ip j hs d,?_⟩
  rw[Rep,Addr.add_mid]
  exact⟨y,kk,o,L,by rw[Nat.add_assoc],D⟩
 ·simp at e
theorem nM {t:TypeId} {f:Nat} {p:Nat×TypeId} (b:yx P t f=some p):∃ fs fd,P.underlying t=some (.struct fs)∧fs[f]?=some fd∧fd.offset=p.1∧fd.type=p.2:=by
 unfold yx at b
 split at b
 ·rename_i fs c
  cases hq:fs[f]? with
  | none=>simp[hq] at b
  | some fd=>simp[hq] at b;subst b;exact⟨fs,fd,c,hq,rfl,rfl⟩
 ·simp at b
theorem sO {t:TypeId} {x:AV} {f:Nat} {vx:Value} {k:AV→O R} (i:Xk P t x f k=some r) (b:Rep J β h w x vx) :
  ∃ v vc,k v=some r∧(Instr.fieldAt t vx f).run P w=.ok vc w∧Rep J β h w v vc:=by
 unfold Xk at i
 obtain⟨p,j,l⟩:=ub i
 obtain⟨n,hn,m⟩:=ub l
 obtain⟨h0,c⟩:=Aya m
 obtain⟨fs,fd,q,s,u,z⟩:=nM j
 have d:n≠0:=by intro e;subst e;simp at h0
 have run:∀ a:Addr,(Instr.fieldAt t (.pointer (some a)) f).run P w=.ok (.pointer (some (a.add p.1))) w:=fun a=>by
  simp[Instr.fieldAt,run_underlying q,s,Instr.sureAddr,fieldPlace,z,D1 hn,d,u]
 split at c
 ·rw[Rep,RepC] at b
  obtain⟨a,rfl,A,C⟩:=b
  refine⟨_,_,c,run a,?_⟩
  rw[Rep,RepC]
  exact⟨_,rfl,by rw[Uh];exact A,nL C _⟩
 ·rw[Rep] at b
  obtain⟨y,kk,o,D,rfl,F⟩:=b
  refine⟨_,_,c,run _,?_⟩
  rw[Rep,Addr.add_mid]
  exact⟨y,kk,o,D,by rw[Nat.add_assoc],F⟩
 ·simp at c
theorem Ang {t:TypeId} {x:AV} {f:Nat} {vx:Value} {k:AV→O R} (s:sA P t x f k=some r) (d:Rep J β h w x vx) :
  ∃ v vc,k v=some r∧(Instr.field t vx f).run P w=.ok vc w∧Rep J β h w v vc:=by
 unfold sA at s
 obtain⟨p,D,e⟩:=ub s
 obtain⟨fs,fd,u,z,A,C⟩:=nM D
 split at e
 ·rename_i c org
  rw[Rep] at d
  obtain⟨cs,rfl,F,b⟩:=d
  obtain⟨v,i,l⟩:=Z3 (β:=β) (h:=h) e (b.drop p.1)
  obtain⟨vc,m,n⟩:=Yx l
  exact⟨v,vc,i,by simp[Instr.field,run_underlying u,z,asAgg,C,A,m],n⟩
 ·rename_i c
  rw[Rep] at d
  obtain⟨cs,rfl,b⟩:=d
  rw[C0] at b
  obtain⟨v,i,l⟩:=bG (J:=J) (β:=β) (h:=h) (w:=w) (rd:=fun j=>cs[p.1+j]?) e (fun j y q=>by
   rw[List.getElem?_drop] at q
   have:p.1+j<cs.length:=by
    rw[b.1];exact(List.getElem?_eq_some_iff.1 q).1
   exact⟨cs[p.1+j],List.getElem?_eq_getElem this,b.2 _ _ _ q (List.getElem?_eq_getElem this)⟩)
  obtain⟨vc,m,n⟩:=Yx l
  exact⟨v,vc,i,by simp[Instr.field,run_underlying u,z,asAgg,C,A,m],n⟩
 ·simp at e
theorem Anh {t:TypeId} {x i:AV} {vx vi:Value} {k:AV→O R} (b:sB P t x i k=some r) (d:Rep J β h w x vx) (hi:Rep J β h w i vi) :
  ∃ v vc,k v=some r∧(Instr.index t vx vi).run P w=.ok vc w∧Rep J β h w v vc:=by
 unfold sB at b
 split at b
 ·rename_i s G i e
  obtain⟨f,l⟩:=uc b
  obtain⟨h0,q⟩:=Xo f
  rw[Rep] at hi;rw[Rep] at d;subst hi d
  have m:i.toNat<s.length:=by omega
  refine⟨_,.int .u8 ((s.getD i.toNat 0).toNat:Int),l,?_,by rw[Rep]⟩
  have I:(⟨⟨s⟩⟩:ByteArray)[i.toNat]?=some s[i.toNat]:=by
   have:i.toNat<(⟨⟨s⟩⟩:ByteArray).size:=m
   rw[getElem?_pos (⟨⟨s⟩⟩:ByteArray) i.toNat this];rfl
  simp only[Instr.index,asIntOf,Sem.run_bind,Sem.run_pure,Result.andThen_ok,run_underlying e,h0,if_true,I,List.getD_eq_getElem?_getD,List.getElem?_eq_getElem m,Option.getD_some]
 ·rename_i len K c org G i e
  obtain⟨sz,hs,l⟩:=ub b
  obtain⟨f,q⟩:=uc l
  obtain⟨h0,u⟩:=Xo f
  rw[Rep] at hi;rw[Rep] at d;subst hi
  obtain⟨cs,rfl,L,n⟩:=d
  obtain⟨v,z,A⟩:=Z3 (β:=β) (h:=h) q (n.drop (i.toNat*sz))
  obtain⟨vc,C,D⟩:=Yx A
  exact⟨v,vc,z,by simp[Instr.index,asIntOf,run_underlying e,h0,u,D1 hs,C],D⟩
 ·rename_i len K c G i e
  obtain⟨sz,hs,l⟩:=ub b
  obtain⟨f,q⟩:=uc l
  obtain⟨h0,u⟩:=Xo f
  rw[Rep] at hi;rw[Rep] at d;subst hi
  obtain⟨cs,rfl,n⟩:=d
  rw[C0] at n
  obtain⟨v,z,A⟩:=bG (J:=J) (β:=β) (h:=h) (w:=w) (rd:=fun j=>cs[i.toNat*sz+j]?) (nK q) (fun j y F=>by
   rw[List.getElem?_drop] at F
   have:i.toNat*sz+j<cs.length:=by
    rw[n.1];exact(List.getElem?_eq_some_iff.1 F).1
   exact⟨cs[i.toNat*sz+j],List.getElem?_eq_getElem this,n.2 _ _ _ F (List.getElem?_eq_getElem this)⟩)
  obtain⟨vc,C,D⟩:=Yx A
  exact⟨v,vc,z,by simp[Instr.index,asIntOf,run_underlying e,h0,u,D1 hs,C],D⟩
 ·simp at b
end
end Gx

namespace Gx
open Go
section
variable {R:Type} {r:R} {P:Program} {J:Bool→Nat→Prop} {β:Cp} {h:Aj} {w:World} {g:Bj}
def IR (J:Bool→Nat→Prop) (β:Cp) (h:Aj) (w:World):Option AV→Option Value→Prop
 | none,none=>True
 | some x,some v=>Rep J β h w x v
 | _,_=>False
theorem bH {o:Option AV} {vo:Option Value} {d:Nat} {i:Int} (b:nC o d=some i) (c:IR J β h w o vo) :
  (o=none∧vo=none∧i=d)∨∃ k,vo=some (.int k i):=by
 unfold nC at b
 split at b
 ·simp at b;subst b
  cases vo with
  | none=>exact .inl ⟨rfl,rfl,rfl⟩
  | some v=>simp[IR] at c
 ·rename_i k j
  simp at b;subst b
  cases vo with
  | none=>simp[IR] at c
  | some v=>rw[IR,Rep] at c;subst c;exact .inr ⟨k,rfl⟩
 ·simp at b
theorem Yy {lo hi mx:Option AV} {vlo vhi vmx:Option Value} {n cap:Nat} {k:Nat→Nat→O R} {isSlice:Bool} (u:DU lo hi mx n k=some r)
  (s:IR J β h w lo vlo)
  (f:IR J β h w hi vhi)
  (j:IR J β h w mx vmx) (v:n≤cap) :
  ∃ l d m,k l d=some r∧l≤d∧d≤n∧d≤m∧m≤cap∧(mx=none→m=cap)∧(∀ e i,vmx=some (.int e i)→(m:Int)=i)∧(∀ e i,vhi=some (.int e i)→(d:Int)=i)∧(hi=none→d=n) ∧
   (Instr.sliceBounds isSlice n cap vlo vhi vmx).run P w=.ok (l,d,m) w:=by
 unfold DU at u
 obtain⟨l,C,D⟩:=ub u
 obtain⟨c,F,G⟩:=ub D
 obtain⟨m,I,t⟩:=ub G
 obtain⟨x,t⟩:=Aya t
 obtain⟨z,A⟩:=uc t
 simp at z x
 obtain⟨c1,K,L,M⟩:=z
 have run:∀ (e:IntKind) (i:Int) (y:Nat) (code:BoundsCode),0≤i→i≤(y:Int)→(Instr.sliceBound (.int e i) y code).run P w=.ok i.toNat w:=fun e i y code a b=>by
  simp[Instr.sliceBound,asIntOf,a,b]
 have bl:=bH (J:=J) (β:=β) (h:=h) (w:=w) C s
 have bh:=bH (J:=J) (β:=β) (h:=h) (w:=w) F f
 have bm:=bH (J:=J) (β:=β) (h:=h) (w:=w) I j
 rcases bm with⟨rfl,rfl,rfl⟩ | ⟨km,rfl⟩
 ·refine⟨l.toNat,c.toNat,cap,A,by omega,by omega,by omega,by omega,fun _=>rfl,by simp,?_,?_,?_⟩
  ·intro e i q
   rcases bh with⟨_,rfl,_⟩ | ⟨kh,rfl⟩
   ·simp at q
   ·simp at q;omega
  ·intro hn
   rcases bh with⟨_,_,rfl⟩ | ⟨kh,rfl⟩
   ·simp
   ·subst hn;simp[IR] at f
  ·rcases bh with⟨_,rfl,rfl⟩ | ⟨kh,rfl⟩<;>rcases bl with⟨_,rfl,rfl⟩ | ⟨kl,rfl⟩
   ·simp[Instr.sliceBounds]
   ·simp[Instr.sliceBounds,run _ l n _ c1 (by omega)]
   ·simp[Instr.sliceBounds,run _ c cap _ (by omega) (by omega)]
   ·simp[Instr.sliceBounds,run _ c cap _ (by omega) (by omega),run _ l c.toNat _ c1 (by omega)]
 ·rcases bh with⟨rfl,rfl,rfl⟩ | ⟨kh,rfl⟩
  ·have:mx.isSome=true:=by
    cases mx with
    | none=>simp[IR] at j
    | some _=>rfl
   have:=x this;simp at this
  ·refine⟨l.toNat,c.toNat,m.toNat,A,by omega,by omega,by omega,by omega,?_,?_,?_,?_,?_⟩
   ·intro hn;subst hn;simp[IR] at j
   ·intro e i q;simp at q;omega
   ·intro e i q;simp at q;omega
   ·intro hn;subst hn;simp[IR] at f
   ·rcases bl with⟨_,rfl,rfl⟩ | ⟨kl,rfl⟩
    ·simp[Instr.sliceBounds,run _ m cap _ (by omega) (by omega),run _ c m.toNat _ (by omega) (by omega)]
    ·simp[Instr.sliceBounds,run _ m cap _ (by omega) (by omega),run _ c m.toNat _ (by omega) (by omega),run _ l c.toNat _ c1 (by omega)]
theorem Ani {t:TypeId} {x:AV} {lo hi mx:Option AV} {vx:Value} {vlo vhi vmx:Option Value} {k:AV→O R} (hl:Looks g h) (q:sC P g t x lo hi mx k=some r)
  (C:Rep J β h w x vx) (u:IR J β h w lo vlo) (e:IR J β h w hi vhi) (f:IR J β h w mx vmx) :
  ∃ v vc,k v=some r∧(Instr.sliceAt t vx vlo vhi vmx).run P w=.ok vc w∧Rep J β h w v vc:=by
 unfold sC at q
 split at q
 ·rename_i s D
  obtain⟨hm,L⟩:=Aya q
  have V:mx=none:=by cases mx<;>simp_all
  subst V
  have hv:vmx=none:=by cases vmx<;>simp_all[IR]
  subst hv
  rw[Rep] at C;subst C
  obtain⟨l,d,m,F,M,T,_,_,X,_,_,_,U⟩:=Yy (P:=P) (isSlice:=false) L u e (vmx:=none) (by simp[IR]) (Nat.le_refl _)
  refine⟨_,_,F,?_,by rw[Rep]⟩
  have hs:(⟨⟨s⟩⟩:ByteArray).size=s.length:=rfl
  have K:(⟨⟨s⟩⟩:ByteArray).extract l d=⟨⟨(s.drop l).take (d - l)⟩⟩:=by
   apply ByteArray.ext
   rw[ByteArray.data_extract]
   simp
  simp[Instr.sliceAt,Instr.slice,run_underlying D,hs,U,K]
 ·rename_i el D
  rw[Rep] at C;subst C
  obtain⟨sz,hs,q⟩:=ub q
  obtain⟨l,d,m,F,M,T,X,U,_,_,_,_,Y⟩:=Yy (P:=P) (isSlice:=true) q u e f (Nat.le_refl _)
  have:l=0:=by omega
  have:d=0:=by omega
  have:m=0:=by omega
  subst l;subst d;subst m
  refine⟨_,.slice none 0 0,F,?_,by rw[Rep]⟩
  simp[Instr.sliceAt,Instr.slice,run_underlying D,Y,D1 hs]
 ·rename_i el c n sz tight org D
  obtain⟨G,hs,L⟩:=ub q
  obtain⟨K,F⟩:=uc L
  have z:G=sz:=by simp at K;exact K.symm
  subst z
  rw[Rep,RepC] at C
  obtain⟨S,A,cap,rfl,i,ht,hA⟩:=C
  obtain⟨l,d,m,M,T,X,U,Y,h8,h9,h10,h11,h12⟩:=Yy (P:=P) (isSlice:=true) F u e f i
  refine⟨_,.slice (if m=l then A else A.map (·.add (l*G))) (d - l) (m - l),M,?_,?_⟩
  ·simp[Instr.sliceAt,Instr.slice,run_underlying D,h12,D1 hs]
  ·rw[Rep,RepC]
   refine⟨?_,_,_,rfl,by omega,?_,?_⟩
   ·simp;rw[S,←Nat.sub_mul]
    exact Nat.min_eq_left (Nat.mul_le_mul_right _ (by omega))
   ·intro j
    unfold A18 at j
    split at j
    ·have:=ht j
     have:=h8 rfl
     have:=h11 rfl
     omega
    ·rename_i ka a kb b
     cases vhi with
     | none=>simp[IR] at e
     | some u1=>cases vmx with
      | none=>simp[IR] at f
      | some u2 =>
       rw[IR,Rep] at e f;subst e f
       have e1:=h10 _ _ rfl
       have e2:=h9 _ _ rfl
       simp at j
       omega
    ·simp at j
   ·by_cases hz:d - l=0
    ·exact .inl hz
    ·right
     rcases hA with hA | ⟨a,rfl,hj,hc⟩
     ·omega
     ·refine⟨a.add (l*G),by rw[if_neg (by omega)];rfl,by rw[Uh];exact hj,(nL hc _).take _⟩
 ·rename_i el b off n D
  obtain⟨sz,hs,L⟩:=ub q
  obtain⟨y,hy,F⟩:=ub L
  obtain⟨K,M⟩:=uc F
  obtain⟨hb,hd⟩:=Es hl hy
  have z:sz=y.sz:=by simpa using K
  rw[Rep] at C
  obtain⟨x,A,cap,⟨I,hmp⟩,rfl,i,hr⟩:=C
  rw[hb] at I;simp at I;subst I
  obtain⟨l,d,m,T,X,U,Y,h8,_,_,_,_,h9⟩:=Yy (P:=P) (isSlice:=true) M u e f i
  refine⟨_,.slice (if m=l then A else A.map (·.add (l*sz))) (d - l) (m - l),T,?_,?_⟩
  ·simp[Instr.sliceAt,Instr.slice,run_underlying D,h9,D1 hs]
  ·rw[Rep]
   refine⟨y,_,_,⟨hb,hmp⟩,rfl,by omega,?_⟩
   by_cases hz:m - l=0
   ·exact .inl hz
   ·right
    rcases hr with hr | ⟨kk,o,rfl,hr⟩
    ·omega
    ·refine⟨kk,o,by rw[if_neg (by omega)];simp[Addr.add_mid,Nat.add_assoc],?_⟩
     rcases hr with hr | ⟨r1,r2,r3⟩
     ·simp[hd] at hr
     ·refine .inr ⟨r1,?_,?_⟩
      ·have:l*sz+(m - l)*y.sz≤cap*y.sz:=by
        rw[z,←Nat.add_mul];exact Nat.mul_le_mul_right _ (by omega)
       omega
      ·have:l*sz+(d - l)*y.sz≤n*y.sz:=by
        rw[z,←Nat.add_mul];exact Nat.mul_le_mul_right _ (by omega)
       omega
 ·simp at q
theorem Ayb {t:TypeId} {x v:AV} {vx:Value} {ty:TypeId} (b:A9z P t x=some v) (d:Rep J β h w x vx) :
  ∃ vc,(Builtin.len_ #[t] ty #[vx]).run P w=.ok vc w∧Rep J β h w v vc:=by
 unfold A9z at b
 split at b
 ·rename_i c
  simp at b;subst b;rw[Rep] at d;subst d
  exact⟨.int .i64 0,by simp[Builtin.len_,run_underlying c,goInt],by rw[Rep]⟩
 ·rename_i n _ _ _ c
  simp at b;subst b;rw[Rep,RepC] at d
  obtain⟨_,A,cap,rfl,_⟩:=d
  exact⟨.int .i64 n,by simp[Builtin.len_,run_underlying c,goInt],by rw[Rep]⟩
 ·rename_i n c
  simp at b;subst b;rw[Rep] at d
  obtain⟨_,A,cap,_,rfl,_⟩:=d
  exact⟨.int .i64 n,by simp[Builtin.len_,run_underlying c,goInt],by rw[Rep]⟩
 ·rename_i s c
  simp at b;subst b;rw[Rep] at d;subst d
  refine⟨.int .i64 s.length,?_,by rw[Rep]⟩
  have hs:(⟨⟨s⟩⟩:ByteArray).size=s.length:=rfl
  simp[Builtin.len_,run_underlying c,goInt,hs]
 ·rename_i n _ c
  simp at b;subst b
  exact⟨.int .i64 n,by simp[Builtin.len_,run_underlying c,goInt],by rw[Rep]⟩
 ·simp at b
theorem nN {J:Nat→Prop}:∀ {x:AV} {u:Value},RepC J w x u→u.oneCell'=true
 | .int ..,_,hr=>by rw[RepC] at hr;subst hr;rfl
 | .bool _,_,hr=>by rw[RepC] at hr;subst hr;rfl
 | .str _,_,hr=>by rw[RepC] at hr;subst hr;rfl
 | .nsl,_,hr=>by rw[RepC] at hr;subst hr;rfl
 | .imm ..,_,hr=>by rw[RepC] at hr;obtain⟨_,A,cap,rfl,_⟩:=hr;rfl
 | .iptr ..,_,hr=>by rw[RepC] at hr;obtain⟨a,rfl,_⟩:=hr;rfl
 | .nilptr,_,hr=>by rw[RepC] at hr;subst hr;rfl
 | .nilfn,_,hr=>by rw[RepC] at hr;subst hr;rfl
 | .fn _ [],_,hr=>by rw[RepC] at hr;subst hr;rfl
 | .fn _ (_::_),_,hr=>by simp[RepC] at hr
 | .pagg ..,_,hr=>by simp[RepC] at hr
 | .agg _,_,hr=>by simp[RepC] at hr
 | .tup _,_,hr=>by simp[RepC] at hr
 | .own ..,_,hr=>by simp[RepC] at hr
 | .optr ..,_,hr=>by simp[RepC] at hr
 | .undef,_,hr=>by simp[RepC] at hr
 | .omap _,_,hr=>by simp[RepC] at hr
theorem RepCs.one {J:Nat→Prop} {c:LA} {us:List Value} (e:RepCs J w c (fun j=>us[j]?) 0) (k:us.length=c.length):∀ u ∈ us,u.oneCell'=true:=by
 intro u f
 obtain⟨j,i,rfl⟩:=List.getElem_of_mem f
 have d:j<c.length:=by omega
 obtain⟨l,b,hr⟩:=e.at (List.getElem?_eq_getElem d)
 simp[List.getElem?_eq_getElem i] at b
 rw[b];exact nN hr
structure Yield (P:Program) (w:World) (sz:Nat) (vx:Value) (n:Nat) (us:List Value):Prop where
 len:∀ w':World,(Builtin.lenOf vx).run P w'=.ok n w'
 cells:∀ (w':World) (m:Nat),(∀ a,w'.cell? a=w.cell? a)→m≤n→(Builtin.firstCells sz m vx).run P w'=.ok (us.take (m*sz)).toArray w'
 length:us.length=n*sz
theorem uE {sz:Nat} {x:AV} {vx:Value} {q:LA×Nat×Bool} (S:SimH J β h w) (Y:Looks g h) (f:VY g sz x=some q) (i:Rep J β h w x vx) :
  ∃ us:List Value,Yield P w sz vx q.2.1 us∧q.1.length=us.length∧RepCs (J q.2.2) w q.1 (fun j=>us[j]?) 0:=by
 have ofSlice:∀ (a:Addr) (n cap:Nat) (us:List Value),us.length=n*sz→(∀ j u,us[j]?=some u→w.cell? (a.add j)=some u)→Yield P w sz (.slice (some a) n cap) n us:=fun a n cap us d hu =>
  ⟨fun _=>rfl,fun w' m e K=>by
   have hle:m*sz≤n*sz:=Nat.mul_le_mul_right _ K
   refine run_firstCells_some (P:=P) w' sz m a n cap (us.take (m*sz)) (by simp;omega) (fun j v D=>?_)
   rw[e]
   rw[List.getElem?_take] at D
   split at D
   ·exact hu j v D
   ·simp at D,d⟩
 have ofEmpty:∀ (A:Option Addr) (cap:Nat),Yield P w sz (.slice A 0 cap) 0 []:=fun A cap =>
  ⟨fun _=>rfl,fun w' m e K=>by
   have:m=0:=by omega
   subst this
   cases A with
   | none=>simp[run_firstCells_none]
   | some a=>have:=run_firstCells_some (P:=P) w' sz 0 a 0 cap [] (by simp) (fun j v D=>by simp at D);simpa using this,by simp⟩
 unfold VY at f
 split at f
 ·simp at f;subst f;rw[Rep] at i;subst i
  exact⟨[],ofEmpty _ _,rfl,by simp[RepCs]⟩
 ·rename_i c n L tight org
  obtain⟨e,t⟩:=uc f
  have M:L=sz:=by simp at e;exact e.symm
  subst M
  simp at t;subst t
  rw[Rep,RepC] at i
  obtain⟨d,A,cap,rfl,F,ht,hA⟩:=i
  rcases hA with rfl | ⟨a,rfl,G,hc⟩
  ·have:c=[]:=by simpa using d
   subst this
   exact⟨[],ofEmpty _ _,rfl,by simp[RepCs]⟩
  ·obtain⟨us,l,O,T⟩:=hc.list
   exact⟨us,ofSlice a n cap us (by rw[l,d]) O,l.symm,T⟩
 ·rename_i b off n
  obtain⟨y,hy,t⟩:=ub f
  obtain⟨e,l⟩:=uc t
  obtain⟨I,V⟩:=Es Y hy
  simp at e l
  obtain⟨hp,e⟩:=e
  subst l;subst e
  rw[Rep] at i
  obtain⟨x,A,cap,⟨z,U⟩,rfl,F,hr⟩:=i
  rw[I] at z;simp at z;subst z
  rcases hr with hr | ⟨kk,o,rfl,hr⟩
  ·have:n=0:=by omega
   subst this
   exact⟨[],ofEmpty _ _,by simp,by simp[RepCs]⟩
  ·rcases hr with hr | ⟨X,r2,r3⟩
   ·simp[V] at hr
   ·rcases S.blk b y I V U with⟨hn,_⟩ | ⟨k',o',cs,ty,fr,C,g1,g2,g3,g4,g5,g6⟩
    ·rw[X] at hn;simp at hn
    ·rw[X] at C;simp at C;obtain⟨rfl,rfl⟩:=C
     obtain⟨us,l,O,T⟩:=(((g4.1 hp).drop off).take (n*y.sz)).list
     have d:us.length=n*y.sz:=by rw[l];simp;omega
     refine⟨us,ofSlice _ n cap us d (fun j u G=>?_),l.symm,T⟩
     have:=O j u G
     rw[Addr.add_mid,Vd g1,Nat.add_assoc];exact this
 ·rename_i s
  obtain⟨e,t⟩:=uc f
  simp at e t
  subst e;subst t
  rw[Rep] at i;subst i
  refine⟨s.map fun b=>.int .u8 (b.toNat:Int),⟨fun _=>rfl,fun w' m _ K=>?_,by simp⟩,by simp,?_⟩
  ·simp[Builtin.firstCells]
  ·rw[B4]
   intro j x G
   simp at G
   obtain⟨b,I,rfl⟩:=G
   exact⟨_,by simp[I];rfl,by rw[RepC]⟩
 ·simp at f
theorem SL {e:TypeId} {sz:Nat} {x:AV} {vx:Value} {k:LA×Nat×Bool→O R} (S:SimH J β h w) (f:Looks g h) (d:lw P e g sz x k=some r) (i:Rep J β h w x vx) :
  ∃ (q:LA×Nat×Bool) (us:List Value),k q=some r∧Yield P w sz vx q.2.1 us∧q.1.length=us.length∧RepCs (J q.2.2) w q.1 (fun j=>us[j]?) 0:=by
 unfold lw at d
 obtain⟨q,hq,l⟩:=ub d
 obtain⟨us,Y,b,c⟩:=uE (P:=P) S f hq i
 obtain⟨o,m,n⟩:=ij l c
 exact⟨_,us,m,Y,b,n⟩
end
end Gx

namespace Gx
open Go
theorem aO {a b:Nat} (h:a≠b):Nat.beq a b=false:=by
 cases c:Nat.beq a b with
 | false=>rfl
 | true=>exact absurd (Nat.eq_of_beq_eq_true c) h
theorem CO {a b:Nat} (h:Nat.beq a b=false):a≠b:=fun e=>by subst e;rw[Nat.beq_refl] at h;cases h
theorem Ah:∀ (h:Aj) (b:Nat) (y:Blk) (c:Nat),Am (Gg h b y) c=if c=b then some y else Am h c
 | [],b,y,c=>by
  by_cases e:c=b
  ·subst e;simp[Gg,Am]
  ·have:Nat.beq b c=false:=aO (fun f=>e f.symm)
   simp[Gg,Am,e,this]
 | (i,x)::r,b,y,c=>by
  rw[Gg]
  cases k:Nat.beq i b with
  | true =>
   have d:i=b:=by simpa using k
   subst d
   by_cases e:c=i
   ·subst e;simp[Am]
   ·have:Nat.beq i c=false:=aO (fun f=>e f.symm)
    simp[Am,e,this]
  | false =>
   have d:i≠b:=CO k
   cases m:Nat.blt b i with
   | true =>
    by_cases e:c=b
    ·subst e;simp[Am]
    ·have:Nat.beq b c=false:=aO (fun f=>e f.symm)
     simp[Am,e,this]
   | false =>
    simp only[cond_false]
    rw[Am]
    cases l:Nat.beq i c with
    | true =>
     have j:i=c:=by simpa using l
     subst j
     simp[Am,d]
    | false=>simp[Am,l,Ah r b y c]
theorem Qx:∀ (h:Ip) (b:Nat) (y:AV) (c:Nat),Hb (lq h b y) c=if c=b then y else Hb h c
 | [],b,y,c=>by
  by_cases e:c=b
  ·subst e;simp[lq,Hb]
  ·have:Nat.beq b c=false:=aO (fun f=>e f.symm)
   simp[lq,Hb,e,this]
 | (i,x)::r,b,y,c=>by
  rw[lq]
  cases k:Nat.beq i b with
  | true =>
   have d:i=b:=by simpa using k
   subst d
   by_cases e:c=i
   ·subst e;simp[Hb]
   ·have:Nat.beq i c=false:=aO (fun f=>e f.symm)
    simp[Hb,e,this]
  | false =>
   have d:i≠b:=CO k
   cases m:Nat.blt b i with
   | true =>
    by_cases e:c=b
    ·subst e;simp[Hb]
    ·have:Nat.beq b c=false:=aO (fun f=>e f.symm)
     simp[Hb,e,this]
   | false =>
    simp only[cond_false]
    rw[Hb]
    cases l:Nat.beq i c with
    | true =>
     have j:i=c:=by simpa using l
     subst j
     simp[Hb,d]
    | false=>simp[Hb,l,Qx r b y c]
def Ar5 (β:Cp) (h:Aj) (k:Nat):Prop:=∃ b x o,Am h b=some x∧x.dead=false∧x.sealed=false∧β b=some (k,o)
structure Step (J:Bool→Nat→Prop) (β:Cp) (h:Aj) (w:World) (J':Bool→Nat→Prop) (β':Cp) (h':Aj) (w':World):Prop where
 ext:Ext J β h w J' β' h' w'
 sim:SimH J' β' h' w'
 os:w'.os=w.os
 tape:w'.tape=w.tape
 output:w'.output=w.output
 size:w.heap.size≤w'.heap.size
 frame:∀ k,k<w.heap.size→¬ Ar5 β h k→w'.heap[k]?=w.heap[k]?
 wr:∀ k,Ar5 β' h' k→k<w.heap.size→Ar5 β h k
 jup:∀ o k,J' o k→J o k∨Ar5 β h k∨w.heap.size≤k
section
variable {J J' J'':Bool→Nat→Prop} {β β' β'':Cp} {h h' h'':Aj} {w w' w'':World}
theorem Ext.refl:Ext J β h w J β h w:=⟨fun _ _ c=>c,fun _ _ _=>rfl,fun b x d=>⟨x,⟨d,rfl⟩,by cases e:x.dead<;>simp⟩,fun _ _ _ _=>Nat.le_refl _⟩
theorem Ext.trans (A:Ext J β h w J' β' h' w') (B:Ext J' β' h' w' J'' β'' h'' w'') (hs:∀ b k o,β b=some (k,o)→Bh w k≤Bh w'' k):Ext J β h w J'' β'' h'' w'' where
 jsub o k d:=B.jsub o k (A.jsub o k d)
 keep o k d:=(B.keep o k (A.jsub o k d)).trans (A.keep o k d)
 blk b x i:=by
  obtain⟨x',⟨j,m1⟩,e⟩:=A.blk b x i
  obtain⟨x'',⟨l,m3⟩,c⟩:=B.blk b x' j
  refine⟨x'',⟨l,m3.trans m1⟩,?_⟩
  rcases c with c | ⟨c,m,n,q⟩
  ·exact .inl c
  ·rcases e with e | ⟨s,t,u,v⟩
   ·simp[c] at e
   ·exact .inr ⟨s,m.trans t,n.trans u,fun f=>(q (m1.trans f)).trans (v f)⟩
 size:=hs
theorem Step.refl (S:SimH J β h w):Step J β h w J β h w:=⟨Ext.refl,S,rfl,rfl,rfl,Nat.le_refl _,fun _ _ _=>rfl,fun _ b _=>b,fun _ _ c=>.inl c⟩
theorem Step.trans (A:Step J β h w J' β' h' w') (B:Step J' β' h' w' J'' β'' h'' w'') (hs:∀ b k o,β b=some (k,o)→Bh w k≤Bh w'' k):Step J β h w J'' β'' h'' w'' where
 ext:=A.ext.trans B.ext hs
 sim:=B.sim
 os:=B.os.trans A.os
 tape:=B.tape.trans A.tape
 output:=B.output.trans A.output
 size:=Nat.le_trans A.size B.size
 frame k c e:=(B.frame k (Nat.lt_of_lt_of_le c A.size) (fun f=>e (A.wr k f c))).trans (A.frame k c e)
 wr k e c:=A.wr k (B.wr k e (Nat.lt_of_lt_of_le c A.size)) c
 jup o k i:=by
  rcases B.jup o k i with d | d | d
  ·exact A.jup o k d
  ·by_cases c:k<w.heap.size
   ·exact .inr (.inl (A.wr k d c))
   ·exact .inr (.inr (by omega))
  ·exact .inr (.inr (Nat.le_trans A.size d))
theorem CellsRep.ext (E:Ext J β h w J' β' h' w') {x:Blk} {rd:Nat→Option Value} (d:CellsRep J β h w x rd):CellsRep J' β' h' w' x rd :=
 ⟨fun b=>RepCs.keep (E.jsub _) (E.keep _) (fun _=>rfl) (d.1 b),fun b j c e=>by
  obtain⟨u,f,i,k⟩:=d.2 b j c e
  exact⟨u,f,Rep.ext E i,k⟩⟩
theorem E8 {k:Nat} {cs:Array Value} {ty:TypeId} {fr:Nat×Nat} (b:w.heap[k]?=some (.cells cs ty fr)):Bh w k=cs.size:=by simp[Bh,b]
theorem SM {k:Nat} {o:Obj} (d:w.heap[k]?=some o):k<w.heap.size:=by
 rcases Nat.lt_or_ge k w.heap.size with b | c
 ·exact b
 ·rw[Array.getElem?_eq_none c] at d;cases d
theorem MapRep.keep {b:Nat} {x:Blk} (M:MapRep J β w b x) (d:β' b=β b) (e:∀ k o,β b=some (k,o)→w'.heap[k]?=w.heap[k]?) (f:∀ g k o,β b=some (k,o)→J' g k→J g k):MapRep J' β' w' b x:=by
 obtain⟨i,j,k,ob,c,l,m,n⟩:=M
 exact⟨i,j,k,ob,by rw[d];exact c,by rw[e k 0 c];exact l,m,fun g q=>n g (f g k 0 c q)⟩
theorem Step.drew (S:SimH J β h w):Step J β h w J β h w.drew where
 ext:=⟨fun _ _ c=>c,fun _ _ _=>rfl,fun b x d=>⟨x,⟨d,rfl⟩,by cases e:x.dead<;>simp⟩,fun _ _ _ _=>Nat.le_refl _⟩
 sim:=by
  have E:Ext J β h w J β h w.drew:=⟨fun _ _ c=>c,fun _ _ _=>rfl,fun b x d=>⟨x,⟨d,rfl⟩,by cases e:x.dead<;>simp⟩,fun _ _ _ _=>Nat.le_refl _⟩
  refine⟨S.jlt,S.jft,S.gl.ext E,fun b x d e f=>?_,fun b x d e f=>(S.mblk b x d e f).keep rfl (fun _ _ _=>rfl) (fun _ _ _ _ c=>c),S.sep⟩
  rcases S.blk b x d e f with i | ⟨k,o,cs,ty,fr,i,j,l,m,n,q⟩
  ·exact .inl i
  ·exact .inr ⟨k,o,cs,ty,fr,i,j,l,m,n.ext E,q⟩
 os:=rfl
 tape:=rfl
 output:=rfl
 size:=Nat.le_refl _
 frame _ _ _:=rfl
 wr _ f _:=f
 jup _ _ c:=.inl c
theorem D0 (w:World) (o:Obj) {k:Nat} (b:k<w.heap.size):(w.alloc o).heap[k]?=w.heap[k]?:=by
 show(w.heap.push o)[k]?=_
 rw[Array.getElem?_push,if_neg (by omega)]
theorem CC (S:SimH J β h w) {b:Nat} {x:Blk} {k o:Nat} (f:Am h b=some x) (i:x.dead=false) (d:β b=some (k,o)):k<w.heap.size:=by
 cases j:x.mp with
 | false =>
  rcases S.blk b x f i j with⟨hn,_⟩ | ⟨l,o',cs,ty,fr,c,e,_⟩
  ·rw[d] at hn;simp at hn
  ·rw[d] at c;simp at c;obtain⟨rfl,rfl⟩:=c;exact SM e
 | true =>
  obtain⟨_,_,l,ob,c,e,_⟩:=S.mblk b x f i j
  rw[d] at c;simp at c;obtain⟨rfl,_⟩:=c;exact SM e
theorem Step.new (S:SimH J β h w) {d:Nat} {x:Blk} {cs:Array Value} {ty:TypeId} {fr:Nat×Nat} (hn:Am h d=none) (O:x.dead=false) (A:x.sealed=false)
  (C:FrTy x.ty ty 0 cs.size fr) (K:x.cells.length≤cs.size) (T:CellsRep J β h w x (fun j=>cs[j]?)) (D:x.mp=false:=by rfl) :
  Step J β h w J (fun b=>if b=d then some (w.heap.size,0) else β b) (Gg h d x) (w.alloc (.cells cs ty fr)):=by
 have ne:∀ {b y},Am h b=some y→b≠d:=fun c e=>by subst e;rw[hn] at c;cases c
 have E:Ext J β h w J (fun b=>if b=d then some (w.heap.size,0) else β b) (Gg h d x) (w.alloc (.cells cs ty fr)):=by
  refine⟨fun _ _ i=>i,fun o k i=>D0 w _ (S.jlt o k i),fun b y c=>⟨y,⟨by rw[Ah,if_neg (ne c)];exact c,rfl⟩,?_⟩,fun b k o f=>?_⟩
  ·cases n:y.dead
   ·exact .inr ⟨rfl,by simp[ne c],rfl,fun _=>rfl⟩
   ·exact .inl rfl
  ·by_cases s:k<w.heap.size
   ·simp[Bh,D0 w _ s]
   ·simp[Bh,Array.getElem?_eq_none (Nat.le_of_not_lt s)]
 have t:(w.alloc (.cells cs ty fr)).heap[w.heap.size]?=some (.cells cs ty fr):=by
  show(w.heap.push _)[_]?=_;simp
 have U:(w.alloc (.cells cs ty fr)).heap.size=w.heap.size+1:=by show(w.heap.push _).size=_;simp
 refine⟨E,⟨fun o k i=>by have:=S.jlt o k i;omega,S.jft,S.gl.ext E,fun b y c n v=>?_,fun b y c n v=>by
   rw[Ah] at c
   by_cases e:b=d
   ·rw[if_pos e] at c;simp at c;subst c;simp[D] at v
   ·rw[if_neg e] at c
    exact(S.mblk b y c n v).keep (by simp[e]) (fun k o f=>D0 w _ (CC S c n f)) (fun _ _ _ _ i=>i),?_⟩,rfl,rfl,rfl,by omega,fun k s _=>D0 w _ s,?_,fun _ _ i=>.inl i⟩
 ·rw[Ah] at c
  by_cases e:b=d
  ·subst e;simp at c;subst c
   exact .inr ⟨w.heap.size,0,cs,ty,fr,by simp,t,C,by omega,by simpa using T.ext E,fun _ g i=>by have:=S.jlt g _ i;omega,fun hs=>by simp[A] at hs⟩
  ·rw[if_neg e] at c
   rcases S.blk b y c n v with z | ⟨k,o,F,G,I,z,L,V,X,Y,h6⟩
   ·exact .inl ⟨by simp[e,z.1],z.2⟩
   ·exact .inr ⟨k,o,F,G,I,by simp[e,z],by rw[D0 w _ (SM L)];exact L,V,X,Y.ext E,h6⟩
 ·intro b M y y' k o o' c l n u hs f m
  rw[Ah] at c l
  by_cases e:b=d<;>by_cases q:M=d
  ·rw[e,q]
  ·rw[if_neg q] at l
   simp[e] at f;simp[q] at m
   have:=CC S l u m;omega
  ·rw[if_neg e] at c
   simp[q] at m;simp[e] at f
   have:=CC S c n f;omega
  ·rw[if_neg e] at c;rw[if_neg q] at l
   simp[e] at f;simp[q] at m
   exact S.sep b M y y' k o o' c l n u hs f m
 ·rintro k ⟨b,y,o,c,n,hs,f⟩ s
  rw[Ah] at c
  by_cases e:b=d
  ·simp[e] at f;omega
  ·rw[if_neg e] at c;simp[e] at f
   exact⟨b,y,o,c,n,hs,f⟩
theorem Step.newNone (S:SimH J β h w) {d:Nat} {x:Blk} (hn:Am h d=none) (D:x.cells=[]) (s:x.mp=false:=by rfl) :
  Step J β h w J (fun b=>if b=d then none else β b) (Gg h d x) w:=by
 have ne:∀ {b y},Am h b=some y→b≠d:=fun c e=>by subst e;rw[hn] at c;cases c
 have E:Ext J β h w J (fun b=>if b=d then none else β b) (Gg h d x) w:=by
  refine⟨fun _ _ m=>m,fun o k m=>rfl,fun b y c=>⟨y,⟨by rw[Ah,if_neg (ne c)];exact c,rfl⟩,?_⟩,fun b k o f=>Nat.le_refl _⟩
  cases i:y.dead
  ·exact .inr ⟨rfl,by simp[ne c],rfl,fun _=>rfl⟩
  ·exact .inl rfl
 refine⟨E,⟨S.jlt,S.jft,S.gl.ext E,fun b y c i n=>?_,fun b y c i n=>by
   rw[Ah] at c
   by_cases e:b=d
   ·rw[if_pos e] at c;simp at c;subst c;simp[s] at n
   ·rw[if_neg e] at c
    exact(S.mblk b y c i n).keep (by simp[e]) (fun k o f=>rfl) (fun _ _ _ _ m=>m),?_⟩,rfl,rfl,rfl,Nat.le_refl _,fun k F _=>rfl,?_,fun _ _ m=>.inl m⟩
 ·rw[Ah] at c
  by_cases e:b=d
  ·subst e;simp at c;subst c
   exact .inl ⟨by simp,D⟩
  ·rw[if_neg e] at c
   rcases S.blk b y c i n with q | ⟨k,o,t,u,v,q,G,I,K,L,M⟩
   ·exact .inl ⟨by simp[e,q.1],q.2⟩
   ·exact .inr ⟨k,o,t,u,v,by simp[e,q],G,I,K,L.ext E,M⟩
 ·intro b C y O k o o' c j i z hs f l
  rw[Ah] at c j
  by_cases e:b=d
  ·simp[e] at f
  ·by_cases A:C=d
   ·simp[A] at l
   ·rw[if_neg e] at c;rw[if_neg A] at j
    simp[e] at f;simp[A] at l
    exact S.sep b C y O k o o' c j i z hs f l
 ·rintro k ⟨b,y,o,c,i,hs,f⟩ F
  rw[Ah] at c
  by_cases e:b=d
  ·simp[e] at f
  ·rw[if_neg e] at c;simp[e] at f
   exact⟨b,y,o,c,i,hs,f⟩
theorem Step.newObj (S:SimH J β h w) {d:Nat} {x:Blk} {ob:Obj} (hn:Am h d=none) (M:x.dead=false) (z:x.sealed=false) (A:x.pure=true) (C:ObjIs x ob) (D:x.mp=true) :
  Step J β h w J (fun b=>if b=d then some (w.heap.size,0) else β b) (Gg h d x) (w.alloc ob):=by
 have ne:∀ {b y},Am h b=some y→b≠d:=fun c e=>by subst e;rw[hn] at c;cases c
 have E:Ext J β h w J (fun b=>if b=d then some (w.heap.size,0) else β b) (Gg h d x) (w.alloc ob):=by
  refine⟨fun _ _ i=>i,fun o k i=>D0 w _ (S.jlt o k i),fun b y c=>⟨y,⟨by rw[Ah,if_neg (ne c)];exact c,rfl⟩,?_⟩,fun b k o f=>?_⟩
  ·cases m:y.dead
   ·exact .inr ⟨rfl,by simp[ne c],rfl,fun _=>rfl⟩
   ·exact .inl rfl
  ·by_cases q:k<w.heap.size
   ·simp[Bh,D0 w _ q]
   ·simp[Bh,Array.getElem?_eq_none (Nat.le_of_not_lt q)]
 have s:(w.alloc ob).heap[w.heap.size]?=some ob:=by
  show(w.heap.push _)[_]?=_;simp
 have O:(w.alloc ob).heap.size=w.heap.size+1:=by show(w.heap.push _).size=_;simp
 refine⟨E,⟨fun o k i=>by have:=S.jlt o k i;omega,S.jft,S.gl.ext E,fun b y c m u=>?_,fun b y c m u=>?_,?_⟩,rfl,rfl,rfl,by omega,fun k q _=>D0 w _ q,?_,fun _ _ i=>.inl i⟩
 ·rw[Ah] at c
  by_cases e:b=d
  ·rw[if_pos e] at c;simp at c;subst c;simp[D] at u
  ·rw[if_neg e] at c
   rcases S.blk b y c m u with v | ⟨k,o,F,G,I,v,K,T,U,V,X⟩
   ·exact .inl ⟨by simp[e,v.1],v.2⟩
   ·exact .inr ⟨k,o,F,G,I,by simp[e,v],by rw[D0 w _ (SM K)];exact K,T,U,V.ext E,X⟩
 ·rw[Ah] at c
  by_cases e:b=d
  ·rw[if_pos e] at c;simp at c;subst c
   exact⟨A,z,w.heap.size,ob,by simp[e],s,C,fun g i=>by have:=S.jlt g _ i;omega⟩
  ·rw[if_neg e] at c
   exact(S.mblk b y c m u).keep (by simp[e]) (fun k o f=>D0 w _ (CC S c m f)) (fun _ _ _ _ i=>i)
 ·intro b L y Y k o o' c j m t hs f l
  rw[Ah] at c j
  by_cases e:b=d<;>by_cases n:L=d
  ·rw[e,n]
  ·rw[if_neg n] at j
   simp[e] at f;simp[n] at l
   have:=CC S j t l;omega
  ·rw[if_neg e] at c
   simp[n] at l;simp[e] at f
   have:=CC S c m f;omega
  ·rw[if_neg e] at c;rw[if_neg n] at j
   simp[e] at f;simp[n] at l
   exact S.sep b L y Y k o o' c j m t hs f l
 ·rintro k ⟨b,y,o,c,m,hs,f⟩ q
  rw[Ah] at c
  by_cases e:b=d
  ·simp[e] at f;omega
  ·rw[if_neg e] at c;simp[e] at f
   exact⟨b,y,o,c,m,hs,f⟩
theorem Step.kill (S:SimH J β h w) {d:Nat} {x y:Blk} (G:Am h d=some x) (j:y.dead=true) (q:y.mp=x.mp:=by rfl):Step J β h w J β (Gg h d y) w:=by
 have E:Ext J β h w J β (Gg h d y) w:=by
  refine⟨fun _ _ l=>l,fun o k l=>rfl,fun b z c=>?_,fun b k o m=>Nat.le_refl _⟩
  by_cases e:b=d
  ·subst e;rw[G] at c;simp at c;subst c;exact⟨y,⟨by rw[Ah,if_pos rfl],q⟩,.inl j⟩
  ·refine⟨z,⟨by rw[Ah,if_neg e];exact c,rfl⟩,?_⟩
   cases i:z.dead
   ·exact .inr ⟨rfl,rfl,rfl,fun _=>rfl⟩
   ·exact .inl rfl
 refine⟨E,⟨S.jlt,S.jft,S.gl.ext E,fun b z c i s=>?_,fun b z c i s=>by
   rw[Ah] at c
   by_cases e:b=d
   ·rw[if_pos e] at c;simp at c;subst c;simp[j] at i
   ·rw[if_neg e] at c
    exact(S.mblk b z c i s).keep rfl (fun k o m=>rfl) (fun _ _ _ _ l=>l),?_⟩,rfl,rfl,rfl,Nat.le_refl _,fun k I _=>rfl,?_,fun _ _ l=>.inl l⟩
 ·rw[Ah] at c
  by_cases e:b=d
  ·rw[if_pos e] at c;simp at c;subst c;simp[j] at i
  ·rw[if_neg e] at c
   rcases S.blk b z c i s with t | ⟨k,o,u,v,A,t,K,L,M,O,T⟩
   ·exact .inl t
   ·exact .inr ⟨k,o,u,v,A,t,K,L,M,O.ext E,T⟩
 ·intro b D z U k o o' c f i n hs m C
  rw[Ah] at c f
  by_cases e:b=d
  ·rw[if_pos e] at c;simp at c;subst c;simp[j] at i
  ·by_cases F:D=d
   ·rw[if_pos F] at f;simp at f;subst f;simp[j] at n
   ·rw[if_neg e] at c;rw[if_neg F] at f
    exact S.sep b D z U k o o' c f i n hs m C
 ·rintro k ⟨b,z,o,c,i,hs,m⟩ I
  rw[Ah] at c
  by_cases e:b=d
  ·rw[if_pos e] at c;simp at c;subst c;simp[j] at i
  ·rw[if_neg e] at c
   exact⟨b,z,o,c,i,hs,m⟩
theorem Step.giveUp (S:SimH J β h w) {d k o:Nat} {x y:Blk} (A:Am h d=some x) (C:x.dead=false) (hs:x.sealed=false) (D:β d=some (k,o)) (F:x.mp=false) (M:y.dead=true)
  (other:∀ j,j≠k→w'.heap[j]?=w.heap[j]?) (size:w'.heap.size=w.heap.size) (os:w'.os=w.os) (tape:w'.tape=w.tape) (output:w'.output=w.output) (G:Bh w k≤Bh w' k) (I:y.mp=x.mp:=by rfl) :
  Step J β h w J β (Gg h d y) w':=by
 have nj:∀ g j,J g j→j≠k:=fun g j l e=>by
  subst e
  rcases S.blk d x A C F with⟨m,_⟩ | ⟨X,o',cs0,ty0,fr0,n,O,s,Y,h5,T,h7⟩
  ·rw[D] at m;simp at m
  ·rw[D] at n;simp at n;obtain⟨rfl,rfl⟩:=n
   exact T hs g l
 have E:Ext J β h w J β (Gg h d y) w':=by
  refine⟨fun _ _ l=>l,fun o j l=>other j (nj o j l),fun b z c=>?_,fun b j oo c=>?_⟩
  ·by_cases e:b=d
   ·subst e;rw[A] at c;simp at c;subst c;exact⟨y,⟨by rw[Ah,if_pos rfl],I⟩,.inl M⟩
   ·refine⟨z,⟨by rw[Ah,if_neg e];exact c,rfl⟩,?_⟩
    cases C:z.dead
    ·exact .inr ⟨rfl,rfl,rfl,fun _=>rfl⟩
    ·exact .inl rfl
  ·by_cases e:j=k
   ·subst e;exact G
   ·simp[Bh,other j e]
 have live:∀ {b z},Am (Gg h d y) b=some z→z.dead=false→b≠d∧Am h b=some z:=fun {b z} c f=>by
  rw[Ah] at c
  by_cases e:b=d
  ·rw[if_pos e] at c;simp at c;subst c;simp[M] at f
  ·rw[if_neg e] at c;exact⟨e,c⟩
 have apart:∀ {b z j oo},b≠d→Am h b=some z→z.dead=false→β b=some (j,oo)→j≠k:=fun {b z j oo} e c f i ej=>by
  subst ej;exact e (S.sep d b x z j o oo A c C f hs D i).symm
 refine⟨E,⟨fun g j l=>by rw[size];exact S.jlt g j l,S.jft,S.gl.ext E,fun b z c f t=>?_,fun b z c f t=>by
   obtain⟨e,c⟩:=live c f
   exact(S.mblk b z c f t).keep rfl (fun j oo i=>other j (apart e c f i)) (fun _ _ _ _ l=>l),fun b U z V j oo K c L f u q i v=>?_⟩,os,tape,output,by rw[size];exact Nat.le_refl _,fun j l t=>other j (fun e=>by subst e;exact t ⟨d,x,o,A,C,hs,D⟩),?_,fun _ _ l=>.inl l⟩
 ·obtain⟨e,c⟩:=live c f
  rcases S.blk b z c f t with m | ⟨j,oo,cs,ty,fr,m,O,s⟩
  ·exact .inl m
  ·exact .inr ⟨j,oo,cs,ty,fr,m,by rw[other j (apart e c f m)];exact O,s.1,s.2.1,s.2.2.1.ext E,s.2.2.2⟩
 ·exact S.sep b U z V j oo K (live c f).2 (live L u).2 f u q i v
 ·rintro j ⟨b,z,oo,c,f,q,i⟩ _
  exact⟨b,z,oo,(live c f).2,f,q,i⟩
end
end Gx

namespace Gx
open Go
section
variable {J J' J'':Bool→Nat→Prop} {β β' β'':Cp} {h h' h'':Aj} {w w' w'':World}
theorem Step.shutB (S:SimH J β h w) {d:Nat} {x:Blk} (u:Am h d=some x) (n:x.dead=false) (v:x.mp=false) :
  Step J β h w (fun o k=>J o k∨∃ o',β d=some (k,o')∧(x.taint=true→o=true)) β (Gg h d { x with sealed:=true }) w:=by
 have E:Ext J β h w (fun o k=>J o k∨∃ o',β d=some (k,o')∧(x.taint=true→o=true)) β (Gg h d { x with sealed:=true }) w:=by
  refine⟨fun _ _ j=>.inl j,fun o k j=>rfl,fun b z f=>?_,fun b k o i=>Nat.le_refl _⟩
  by_cases e:b=d
  ·subst e;rw[u] at f;simp at f;subst f
   exact⟨{ x with sealed:=true },⟨by rw[Ah,if_pos rfl],rfl⟩,.inr ⟨n,rfl,rfl,fun _=>rfl⟩⟩
  ·refine⟨z,⟨by rw[Ah,if_neg e];exact f,rfl⟩,?_⟩
   cases n:z.dead
   ·exact .inr ⟨rfl,rfl,rfl,fun _=>rfl⟩
   ·exact .inl rfl
 refine⟨E,⟨?_,?_,S.gl.ext E,fun b z f m F=>?_,fun b z f m F=>by
   rw[Ah] at f
   by_cases e:b=d
   ·rw[if_pos e] at f;simp at f;subst f;simp[v] at F
   ·rw[if_neg e] at f
    have M:=S.mblk b z f m F
    refine M.keep rfl (fun k o i=>rfl) (fun g k o i j=>?_)
    rcases j with j | ⟨o',A,_⟩
    ·exact j
    ·exact absurd (S.sep b d z x k o o' f u m n M.2.1 i A) e,?_⟩,rfl,rfl,rfl,Nat.le_refl _,fun k hk _=>rfl,?_,?_⟩
 ·rintro o k (j | ⟨o',i,_⟩)
  ·exact S.jlt o k j
  ·exact CC S u n i
 ·rintro k (j | ⟨o',i,ht⟩)
  ·exact .inl (S.jft k j)
  ·exact .inr ⟨o',i,fun _=>rfl⟩
 ·rw[Ah] at f
  by_cases e:b=d
  ·rw[if_pos e] at f;simp at f;subst f;subst e
   rcases S.blk b x u n v with l | ⟨k,o,q,s,t,l,G,I,K,L,T,O⟩
   ·exact .inl l
   ·exact .inr ⟨k,o,q,s,t,l,G,I,K,L.ext E,fun hs=>by simp at hs,fun _=>.inr ⟨o,l,id⟩⟩
  ·rw[if_neg e] at f
   rcases S.blk b z f m F with l | ⟨k,o,q,s,t,l,G,I,K,L,T,O⟩
   ·exact .inl l
   ·refine .inr ⟨k,o,q,s,t,l,G,I,K,L.ext E,fun hs g j=>?_,fun hs=>.inl (O hs)⟩
    rcases j with j | ⟨o',i,_⟩
    ·exact T hs g j
    ·exact e (S.sep b d z x k o o' f u m n hs l i)
 ·intro b b' z z' k o o' f U V X hs i A
  have get:∀ {c y},Am (Gg h d { x with sealed:=true }) c=some y→y.dead=false→∃ Y,Am h c=some Y∧Y.dead=false∧(y.sealed=false→Y.sealed=false):=by
   intro c y D hyd
   rw[Ah] at D
   by_cases e:c=d
   ·subst e;exact⟨x,u,n,fun hs=>by simp at D;subst D;simp at hs⟩
   ·rw[if_neg e] at D;exact⟨y,D,hyd,id⟩
  obtain⟨y1,g1,g2,g3⟩:=get f V
  obtain⟨y2,g4,g5,g6⟩:=get U X
  exact S.sep b b' y1 y2 k o o' g1 g4 g2 g5 (g3 hs) i A
 ·rintro k ⟨b,z,o,f,m,hs,i⟩ hk
  rw[Ah] at f
  by_cases e:b=d
  ·rw[if_pos e] at f;simp at f;subst f;simp at hs
  ·rw[if_neg e] at f
   exact⟨b,z,o,f,m,hs,i⟩
 ·rintro o k (j | ⟨o',i,ht⟩)
  ·exact .inl j
  ·cases hs:x.sealed with
   | false=>exact .inr (.inl ⟨d,x,o',u,n,hs,i⟩)
   | true =>
    left
    rcases S.blk d x u n v with⟨l,_⟩ | ⟨k',o1,q,s,t,l,G,I,K,L,T,O⟩
    ·rw[i] at l;simp at l
    ·rw[i] at l;simp at l;obtain⟨rfl,rfl⟩:=l
     have:=O hs
     cases C:x.taint with
     | true=>rw[C] at this;rw[ht C];exact this
     | false =>
      rw[C] at this
      cases o
      ·exact this
      ·exact S.jft _ this
structure OnlyBlk (w w':World) (k:Nat) (cs cs':Array Value) (ty:TypeId) (fr:Nat×Nat):Prop where
 old:w.heap[k]?=some (.cells cs ty fr)
 new:w'.heap[k]?=some (.cells cs' ty fr)
 sz:cs'.size=cs.size
 other:∀ j,j≠k→w'.heap[j]?=w.heap[j]?
 size:w'.heap.size=w.heap.size
 os:w'.os=w.os
 tape:w'.tape=w.tape
 output:w'.output=w.output
theorem OnlyBlk.setCell {k i:Nat} {cs:Array Value} {ty:TypeId} {fr:Nat×Nat} (b:w.heap[k]?=some (.cells cs ty fr)) (u:Value) :
  OnlyBlk w (w.setCell ⟨k,i,none⟩ u) k cs (cs.setIfInBounds i u) ty fr:=by
 refine⟨b,?_,by simp,fun j c=>?_,by simp[World.setCell],rfl,rfl,rfl⟩
 ·simp[World.setCell,Array.getElem?_modify,b]
 ·simp only[World.setCell,Array.getElem?_modify];rw[if_neg (fun e=>c e.symm)]
theorem OnlyBlk.setCells {k:Nat} {ty:TypeId} {fr:Nat×Nat}:∀ (us:List Value) (i:Nat) (w:World) (cs:Array Value),w.heap[k]?=some (.cells cs ty fr) →
  ∃ b,OnlyBlk w (w.setCells k i us) k cs b ty fr∧∀ j,b[j]?=if i≤j∧j<i+us.length∧j<cs.size then us[j - i]? else cs[j]?
 | [],i,w,cs,c=>⟨cs,⟨c,c,rfl,fun _ _=>rfl,rfl,rfl,rfl,rfl⟩,fun j=>by rw[if_neg (by simp;omega)]⟩
 | u::us,i,w,cs,c=>by
  have A:=OnlyBlk.setCell (i:=i) c u
  obtain⟨b,B,hB⟩:=OnlyBlk.setCells us (i+1) (w.setCell ⟨k,i,none⟩ u) _ A.new
  refine⟨b,⟨c,B.new,B.sz.trans A.sz,fun j d=>(B.other j d).trans (A.other j d),B.size.trans A.size,B.os.trans A.os,B.tape.trans A.tape,B.output.trans A.output⟩,fun j=>?_⟩
  rw[hB j]
  simp only[Array.size_setIfInBounds,List.length_cons]
  by_cases d:j=i
  ·subst d
   rw[if_neg (by omega)]
   by_cases hs:j<cs.size
   ·rw[if_pos (by omega)];simp[hs]
   ·rw[if_neg (by omega)];simp[hs]
  ·by_cases e:i+1≤j∧j<i+1+us.length∧j<cs.size
   ·rw[if_pos e,if_pos (by omega),show j - i=(j - (i+1))+1 by omega];simp
   ·rw[if_neg e,if_neg (by omega),Array.getElem?_setIfInBounds_ne (by omega)]
theorem Step.set (S:SimH J β h w) {d k o:Nat} {x x':Blk} {cs q:Array Value} {ty:TypeId} {fr:Nat×Nat} (s:Am h d=some x) (m:x.dead=false) (hs:x.sealed=false) (A:β d=some (k,o))
  (O:OnlyBlk w w' k cs q ty fr) (hd':x'.dead=false) (M:x'.sealed=false) (hz:x'.sz=x.sz) (hl:x'.cells.length=x.cells.length) (F:CellsRep J β h w x' (fun j=>q[o+j]?)) (G:x.mp=false) (n:x'.mp=x.mp:=by rfl) (hty:x'.ty=x.ty:=by rfl) :
  Step J β h w J β (Gg h d x') w':=by
 obtain⟨I,o',cs0,ty0,fr0,t,T,h3,h4,h5,h6,h7⟩:∃ I o' cs0 ty0 fr0,β d=some (I,o')∧w.heap[I]?=some (.cells cs0 ty0 fr0) ∧
   FrTy x.ty ty0 o' cs0.size fr0∧o'+x.cells.length≤cs0.size∧CellsRep J β h w x (fun j=>cs0[o'+j]?)∧(x.sealed=false→∀ g,¬ J g I)∧(x.sealed=true→J x.taint I):=by
  rcases S.blk d x s m G with⟨L,_⟩ | L
  ·rw[A] at L;simp at L
  ·exact L
 rw[A] at t;simp at t;obtain⟨rfl,rfl⟩:=t
 rw[O.old] at T;simp at T;obtain⟨rfl,rfl,rfl⟩:=T
 have nj:∀ g j,J g j→j≠k:=fun g j l e=>by subst e;exact h6 hs g l
 have E:Ext J β h w J β (Gg h d x') w':=by
  refine⟨fun _ _ l=>l,fun o j l=>O.other j (nj o j l),fun b z f=>?_,fun b j oo f=>?_⟩
  ·by_cases e:b=d
   ·subst e;rw[s] at f;simp at f;subst f
    exact⟨_,⟨by rw[Ah,if_pos rfl],n⟩,.inr ⟨m,rfl,hz,fun _=>hl⟩⟩
   ·refine⟨z,⟨by rw[Ah,if_neg e];exact f,rfl⟩,?_⟩
    cases m:z.dead
    ·exact .inr ⟨rfl,rfl,rfl,fun _=>rfl⟩
    ·exact .inl rfl
  ·by_cases e:j=k
   ·subst e;rw[E8 O.old,E8 O.new,O.sz];exact Nat.le_refl _
   ·simp[Bh,O.other j e]
 refine⟨E,⟨fun g j l=>by rw[O.size];exact S.jlt g j l,S.jft,S.gl.ext E,fun b z f i C=>?_,fun b z f i C=>by
   rw[Ah] at f
   by_cases e:b=d
   ·rw[if_pos e] at f;simp at f;subst f;simp[n,G] at C
   ·rw[if_neg e] at f
    exact(S.mblk b z f i C).keep rfl (fun u o2 v=>O.other u (fun U=>by subst U;exact e (S.sep d b x z u o o2 s f m i hs A v).symm)) (fun _ _ _ _ l=>l),?_⟩,O.os,O.tape,O.output,by rw[O.size];exact Nat.le_refl _,fun j l C=>?_,?_,fun _ _ l=>.inl l⟩
 ·rw[Ah] at f
  by_cases e:b=d
  ·rw[if_pos e] at f;simp at f;subst f;subst e
   refine .inr ⟨k,o,q,ty,fr,A,O.new,?_,by rw[hl,O.sz];exact h4,F.ext E,fun _=>h6 hs,fun hh=>by simp[M] at hh⟩
   rw[O.sz,hty];exact h3
  ·rw[if_neg e] at f
   rcases S.blk b z f i C with D | ⟨u,o2,cs2,ty2,fr2,D,V,X,Y,g5,g6,g7⟩
   ·exact .inl D
   ·have hne:u≠k:=fun U=>by
     subst U;exact e (S.sep d b x z u o o2 s f m i hs A D).symm
    exact .inr ⟨u,o2,cs2,ty2,fr2,D,by rw[O.other u hne];exact V,X,Y,g5.ext E,g6,g7⟩
 ·intro b b' z z' kk oo oo' f hb' hd1 hd2 hs1 hβ1 v
  have get:∀ {c y},Am (Gg h d x') c=some y→y.dead=false→∃ y',Am h c=some y'∧y'.dead=false∧(y.sealed=false→y'.sealed=false):=by
   intro c y F hyd
   rw[Ah] at F
   by_cases e:c=d
   ·subst e;exact⟨x,s,m,fun _=>hs⟩
   ·rw[if_neg e] at F;exact⟨y,F,hyd,id⟩
  obtain⟨y1,D,V,X⟩:=get f hd1
  obtain⟨y2,Y,g5,g6⟩:=get hb' hd2
  exact S.sep b b' y1 y2 kk oo oo' D Y V g5 (X hs1) hβ1 v
 ·exact O.other j (fun e=>C (by subst e;exact⟨d,x,o,s,m,hs,A⟩))
 ·rintro j ⟨b,z,oo,f,i,hsz,K⟩ l
  rw[Ah] at f
  by_cases e:b=d
  ·subst e;exact⟨b,x,oo,s,m,hs,K⟩
  ·rw[if_neg e] at f
   exact⟨b,z,oo,f,i,hsz,K⟩
theorem Step.setObj (S:SimH J β h w) {d k:Nat} {x x':Blk} {ob v:Obj} (D:Am h d=some x) (A:x.dead=false) (K:x.mp=true) (F:β d=some (k,0))
  (old:w.heap[k]?=some ob) (new:w'.heap[k]?=some v) (other:∀ j,j≠k→w'.heap[j]?=w.heap[j]?) (size:w'.heap.size=w.heap.size) (os:w'.os=w.os) (tape:w'.tape=w.tape) (output:w'.output=w.output)
  (L:ObjIs x' v) (hx'd:x'.dead=false) (O:x'.sealed=false) (T:x'.pure=true) (U:x'.sz=x.sz) (u:x'.mp=true):Step J β h w J β (Gg h d x') w':=by
 have M:=S.mblk d x D A K
 have nJ:∀ g,¬ J g k:=by
  obtain⟨_,_,k',_,n,_,_,q⟩:=M
  rw[F] at n;simp at n;subst n;exact q
 have nj:∀ g j,J g j→j≠k:=fun g j i e=>by subst e;exact nJ g i
 have E:Ext J β h w J β (Gg h d x') w':=by
  refine⟨fun _ _ i=>i,fun o j i=>other j (nj o j i),fun b z f=>?_,fun b j oo f=>?_⟩
  ·by_cases e:b=d
   ·subst e;rw[D] at f;simp at f;subst f
    exact⟨_,⟨by rw[Ah,if_pos rfl],by rw[u,K]⟩,.inr ⟨A,rfl,U,fun h=>by simp[K] at h⟩⟩
   ·refine⟨z,⟨by rw[Ah,if_neg e];exact f,rfl⟩,?_⟩
    cases A:z.dead
    ·exact .inr ⟨rfl,rfl,rfl,fun _=>rfl⟩
    ·exact .inl rfl
  ·by_cases e:j=k
   ·subst e
    have r0:∀ cs ty fr,ob≠.cells cs ty fr:=by
     obtain⟨_,_,k',ob0,n,q,Y,_⟩:=M
     rw[F] at n;simp at n;subst n
     rw[old] at q;simp at q;subst q
     exact fun _ _ _=>Y.row
    have z0:Bh w j=0:=by
     unfold Bh;rw[old]
     split
     ·rename_i e;simp at e;exact absurd e (r0 _ _ _)
     ·rfl
    rw[z0];exact Nat.zero_le _
   ·simp[Bh,other j e]
 refine⟨E,⟨fun g j i=>by rw[size];exact S.jlt g j i,S.jft,S.gl.ext E,fun b z f l t=>?_,fun b z f l t=>?_,?_⟩,os,tape,output,by rw[size];exact Nat.le_refl _,fun j i K=>?_,?_,fun _ _ i=>.inl i⟩
 ·rw[Ah] at f
  by_cases e:b=d
  ·rw[if_pos e] at f;simp at f;subst f;simp[u] at t
  ·rw[if_neg e] at f
   rcases S.blk b z f l t with V | ⟨G,o2,cs2,ty2,fr2,V,I,g3,g4,g5,g6,g7⟩
   ·exact .inl V
   ·have hne:G≠k:=fun e2=>by
     subst e2;rw[old] at I;simp at I
     obtain⟨_,_,k',ob0,n,q,Y,_⟩:=M
     rw[F] at n;simp at n;subst n
     rw[old] at q;simp at q;subst q
     exact absurd I Y.row
    exact .inr ⟨G,o2,cs2,ty2,fr2,V,by rw[other G hne];exact I,g3,g4,g5.ext E,g6,g7⟩
 ·rw[Ah] at f
  by_cases e:b=d
  ·rw[if_pos e] at f;simp at f;subst f;subst e
   exact⟨T,O,k,v,F,new,L,nJ⟩
  ·rw[if_neg e] at f
   exact(S.mblk b z f l t).keep rfl (fun G o2 C=>other G (fun e2=>by subst e2;exact e (S.sep d b x z G 0 o2 D f A l M.2.1 F C).symm)) (fun _ _ _ _ i=>i)
 ·intro b b' z z' kk oo oo' f hb' hd1 hd2 hs1 hβ1 C
  have get:∀ {c y},Am (Gg h d x') c=some y→y.dead=false→∃ y',Am h c=some y'∧y'.dead=false∧(y.sealed=false→y'.sealed=false):=by
   intro c y L hyd
   rw[Ah] at L
   by_cases e:c=d
   ·subst e;exact⟨x,D,A,fun _=>M.2.1⟩
   ·rw[if_neg e] at L;exact⟨y,L,hyd,id⟩
  obtain⟨y1,V,I,g3⟩:=get f hd1
  obtain⟨y2,g4,g5,g6⟩:=get hb' hd2
  exact S.sep b b' y1 y2 kk oo oo' V g4 I g5 (g3 hs1) hβ1 C
 ·exact other j (fun e=>K (by subst e;exact⟨d,x,0,D,A,M.2.1,F⟩))
 ·rintro j ⟨b,z,oo,f,l,hsz,X⟩ i
  rw[Ah] at f
  by_cases e:b=d
  ·subst e;exact⟨b,x,oo,D,A,M.2.1,X⟩
  ·rw[if_neg e] at f
   exact⟨b,z,oo,f,l,hsz,X⟩
theorem Step.mark (S:SimH J β h w) {d k o:Nat} {x:Blk} {cs:Array Value} {ty:TypeId} {fr m:Nat×Nat} (t:Am h d=some x) (u:x.dead=false) (hs:x.sealed=false) (v:β d=some (k,o))
  (old:w.heap[k]?=some (.cells cs ty fr)) (new:w'.heap[k]?=some (.cells cs ty m)) (M:FrOk cs.size m) (other:∀ j,j≠k→w'.heap[j]?=w.heap[j]?) (size:w'.heap.size=w.heap.size) (os:w'.os=w.os) (tape:w'.tape=w.tape) (output:w'.output=w.output) (s:x.mp=false) :
  Step J β h w J β h w':=by
 have nj:∀ g j,J g j→j≠k:=fun g j c e=>by
  subst e
  rcases S.blk d x t u s with⟨D,_⟩ | ⟨U,o',cs0,ty0,fr0,n,V,X,Y,h5,O,h7⟩
  ·rw[v] at D;simp at D
  ·rw[v] at n;simp at n;obtain⟨rfl,rfl⟩:=n
   exact O hs g c
 have E:Ext J β h w J β h w':=by
  refine⟨fun _ _ c=>c,fun o j c=>other j (nj o j c),fun b z f=>⟨z,⟨f,rfl⟩,?_⟩,fun b j oo f=>?_⟩
  ·cases u:z.dead
   ·exact .inr ⟨rfl,rfl,rfl,fun _=>rfl⟩
   ·exact .inl rfl
  ·by_cases e:j=k
   ·subst e;rw[E8 old,E8 new];exact Nat.le_refl _
   ·simp[Bh,other j e]
 refine⟨E,⟨fun g j c=>by rw[size];exact S.jlt g j c,S.jft,S.gl.ext E,fun b z f i l=>?_,fun b z f i l=>by
   refine(S.mblk b z f i l).keep rfl (fun q o2 C=>other q (fun T=>?_)) (fun _ _ _ _ c=>c)
   subst T
   have:=(S.sep d b x z q o o2 t f u i hs v C)
   subst this
   rw[t] at f;simp at f;subst f;simp[s] at l,S.sep⟩,os,tape,output,by rw[size];exact Nat.le_refl _,fun j c l=>?_,fun _ l _=>l,fun _ _ c=>.inl c⟩
 ·rcases S.blk b z f i l with y | ⟨q,o2,cs2,ty2,fr2,y,A,F,G,I,K,L⟩
  ·exact .inl y
  ·by_cases e:q=k
   ·subst e
    rw[old] at A;simp at A;obtain⟨rfl,rfl,rfl⟩:=A
    exact .inr ⟨q,o2,cs,ty,m,y,new,⟨M,F.2⟩,G,I.ext E,K,L⟩
   ·exact .inr ⟨q,o2,cs2,ty2,fr2,y,by rw[other q e];exact A,F,G,I.ext E,K,L⟩
 ·exact other j (fun e=>l (by subst e;exact⟨d,x,o,t,u,hs,v⟩))
theorem Step.move (S:SimH J β h w) {d l k o o':Nat} {x x' y:Blk} {cs C:Array Value} {ty:TypeId} {fr:Nat×Nat} (q:Am h d=some x) (u:x.dead=false) (hs:x.sealed=false) (v:β d=some (k,o))
  (hn:Am h l=none) (hy:y.dead=true)
  (O:OnlyBlk w w' k cs C ty fr) (hd':x'.dead=false) (hs':x'.sealed=false) (hl:o'+x'.cells.length≤cs.size) (hc:CellsRep J β h w x' (fun j=>C[o'+j]?)) (hxm:x.mp=false) (hym:y.mp=x.mp:=by rfl) (L:x'.mp=false:=by rfl) (hty:TyOk x'.ty ty o' cs.size:=by exact TyOk.none) :
  Step J β h w J (fun b=>if b=l then some (k,o') else β b) (Gg (Gg h d y) l x') w':=by
 obtain⟨M,o1,cs0,ty0,fr0,D,h2,h3,h4,h5,h6,h7⟩:∃ M o' cs0 ty0 fr0,β d=some (M,o')∧w.heap[M]?=some (.cells cs0 ty0 fr0) ∧
   FrTy x.ty ty0 o' cs0.size fr0∧o'+x.cells.length≤cs0.size∧CellsRep J β h w x (fun j=>cs0[o'+j]?)∧(x.sealed=false→∀ g,¬ J g M)∧(x.sealed=true→J x.taint M):=by
  rcases S.blk d x q u hxm with⟨Y,_⟩ | Y
  ·rw[v] at Y;simp at Y
  ·exact Y
 rw[v] at D;simp at D;obtain⟨rfl,rfl⟩:=D
 rw[O.old] at h2;simp at h2;obtain⟨rfl,rfl,rfl⟩:=h2
 have nj:∀ g j,J g j→j≠k:=fun g j m e=>by subst e;exact h6 hs g m
 have ndd:d≠l:=fun e=>by subst e;rw[hn] at q;cases q
 have ne:∀ {b z},Am h b=some z→b≠l:=fun c e=>by subst e;rw[hn] at c;cases c
 have get:∀ b,Am (Gg (Gg h d y) l x') b=if b=l then some x' else if b=d then some y else Am h b:=fun b=>by rw[Ah,Ah]
 have E:Ext J β h w J (fun b=>if b=l then some (k,o') else β b) (Gg (Gg h d y) l x') w':=by
  refine⟨fun _ _ m=>m,fun o j m=>O.other j (nj o j m),fun b z c=>?_,fun b j oo c=>?_⟩
  ·by_cases e:b=d
   ·have hb0:=c;subst e;rw[q] at c;simp at c;subst c;exact⟨y,⟨by rw[get,if_neg (ne hb0),if_pos rfl],hym⟩,.inl hy⟩
   ·refine⟨z,⟨by rw[get,if_neg (ne c),if_neg e];exact c,rfl⟩,?_⟩
    cases u:z.dead
    ·exact .inr ⟨rfl,by simp[ne c],rfl,fun _=>rfl⟩
    ·exact .inl rfl
  ·by_cases e:j=k
   ·subst e;rw[E8 O.old,E8 O.new,O.sz];exact Nat.le_refl _
   ·simp[Bh,O.other j e]
 have live:∀ {b z},Am (Gg (Gg h d y) l x') b=some z→z.dead=false→(b=l∧z=x')∨(b≠l∧b≠d∧Am h b=some z):=by
  intro b z c hz
  rw[get] at c
  by_cases e:b=l
  ·rw[if_pos e] at c;simp at c;exact .inl ⟨e,c.symm⟩
  ·rw[if_neg e] at c
   by_cases s:b=d
   ·rw[if_pos s] at c;simp at c;subst c;simp[hy] at hz
   ·rw[if_neg s] at c;exact .inr ⟨e,s,c⟩
 refine⟨E,⟨fun g j m=>by rw[O.size];exact S.jlt g j m,S.jft,S.gl.ext E,fun b z c f K=>?_,fun b z c f K=>by
   rcases live c f with⟨rfl,rfl⟩ | ⟨e1,s,c⟩
   ·simp[L] at K
   ·exact(S.mblk b z c f K).keep (by simp[e1]) (fun F o2 i=>O.other F (fun e=>by subst e;exact s (S.sep d b x z F o o2 q c u f hs v i).symm)) (fun _ _ _ _ m=>m),?_⟩,O.os,O.tape,O.output,by rw[O.size];exact Nat.le_refl _,fun j m K=>?_,?_,fun _ _ m=>.inl m⟩
 ·rcases live c f with⟨rfl,rfl⟩ | ⟨e1,s,c⟩
  ·refine .inr ⟨k,o',C,ty,fr,by simp,O.new,?_,by rw[O.sz];exact hl,hc.ext E,fun _=>h6 hs,fun hh=>by simp[hs'] at hh⟩
   rw[O.sz];exact⟨h3.1,hty⟩
  ·rcases S.blk b z c f K with T | ⟨F,o2,cs2,ty2,fr2,T,g2,g3,g4,g5,g6,g7⟩
   ·exact .inl ⟨by simp[e1,T.1],T.2⟩
   ·have hne:F≠k:=fun e=>by
     subst e;exact s (S.sep d b x z F o o2 q c u f hs v T).symm
    exact .inr ⟨F,o2,cs2,ty2,fr2,by simp[e1,T],by rw[O.other F hne];exact g2,g3,g4,g5.ext E,g6,g7⟩
 ·intro b b' z z' kk oo U c hb' G I hs1 n i
  rcases live c G with⟨e0,_⟩ | ⟨e1,s,V⟩<;>rcases live hb' I with⟨X,_⟩ | ⟨e3,e4,A⟩
  ·rw[e0,X]
  ·simp[e0] at n;simp[e3] at i
   obtain⟨rfl,rfl⟩:=n
   exact absurd (S.sep d b' x z' k o U q A u I hs v i).symm e4
  ·simp[X] at i;simp[e1] at n
   obtain⟨rfl,rfl⟩:=i
   exact absurd (S.sep d b x z k o oo q V u G hs v n).symm s
  ·simp[e1] at n;simp[e3] at i
   exact S.sep b b' z z' kk oo U V A G I hs1 n i
 ·exact O.other j (fun e=>K (by subst e;exact⟨d,x,o,q,u,hs,v⟩))
 ·rintro j ⟨b,z,oo,c,f,hsz,t⟩ m
  rcases live c f with⟨rfl,rfl⟩ | ⟨e1,s,c⟩
  ·simp at t;obtain⟨rfl,rfl⟩:=t
   exact⟨d,x,o,q,u,hs,v⟩
  ·simp[e1] at t;exact⟨b,z,oo,c,f,hsz,t⟩
end
end Gx

namespace Gx
open Go
theorem Da:∀ (a b:Fy) (h:Aj),Al (a++b) h=Al b (Al a h)
 | [],_,_=>rfl
 | (_,some _)::r,b,h=>by simp only[List.cons_append,Al];exact Da r b _
 | (_,none)::r,b,h=>by simp only[List.cons_append,Al];exact Da r b _
def LooksS (g:Bj) (h:Aj):Prop:=∀ b x,g b=some x→∃ y,Am h b=some y∧{ y with sealed:=true }={ x with sealed:=true }
theorem Looks.s {g:Bj} {h:Aj} (c:Looks g h):LooksS g h:=fun b x d=>⟨x,c b x d,rfl⟩
section
variable {R:Type} {r:R} {P:Program} {J J':Bool→Nat→Prop} {β:Cp} {h:Aj} {w:World} {g:Bj}
theorem LooksS.shutB (f:LooksS g h) {b:Nat} {x:Blk} (i:g b=some x):LooksS g (Gg h b { x with sealed:=true }):=by
 intro c y d
 rw[Ah]
 by_cases e:c=b
 ·subst e;rw[i] at d;simp at d;subst d
  exact⟨{ x with sealed:=true },by simp,rfl⟩
 ·rw[if_neg e];exact f c y d
theorem A2f (S:SimH J β h w) {b off n:Nat} {y:Blk} {v:Value} (z:Am h b=some y) (C:y.dead=false) (D:y.pure=true) (hr:Rep J β h w (.own b off n) v)
  (hJ:∀ k o,β b=some (k,o)→J' y.taint k) (f:∀ o k,J o k→J' o k) (t o:Bool):RepC (J' y.taint) w (.imm ((y.cells.drop off).take (n*y.sz)) n y.sz t o) v↔(t=true→∃ A cap,v=.slice A n cap∧cap=n):=by
 rw[Rep] at hr
 obtain⟨x,A,cap,⟨d,l⟩,rfl,c,hr⟩:=hr
 rw[z] at d;simp at d;subst d
 rw[RepC]
 constructor
 ·rintro⟨_,A',cap',m,_,q,_⟩ s
  exact⟨A',cap',m,q s⟩
 ·intro q
  have i:t=true→cap=n:=fun s=>by
   obtain⟨A',cap',m,K⟩:=q s
   simp at m;omega
  rcases hr with hr | ⟨kk,oo,rfl,hr⟩
  ·have:n=0:=by omega
   subst this
   exact⟨by simp,A,cap,rfl,c,i,.inl rfl⟩
  ·rcases hr with hr | ⟨u,L,M⟩
   ·simp[C] at hr
   ·rcases S.blk b y z C l with⟨hn,_⟩ | ⟨O,o',cs,ty,fr,e,F,T,U,G,V,X⟩
    ·rw[u] at hn;simp at hn
    ·rw[u] at e;simp at e;obtain⟨rfl,rfl⟩:=e
     refine⟨by simp;omega,_,cap,rfl,c,i,.inr ⟨_,rfl,hJ _ _ u,?_⟩⟩
     have:=((G.1 D).drop off).take (n*y.sz)
     refine RepCs.keep (fun k I=>f _ k I) (fun _ _=>rfl) (fun j=>?_) this
     rw[Addr.add_mid,Vd F,Nat.add_assoc]
theorem A59 {b off n:Nat} {y:Blk} {v:Value} (e:Am h b=some y) (hr:Rep J β h w (.own b off n) v):y.mp=false:=by
 rw[Rep] at hr
 obtain⟨x,A,cap,⟨c,d⟩,_⟩:=hr
 rw[e] at c;simp at c;subst c;exact d
theorem A8n {b off:Nat} {y:Blk} {v:Value} (e:Am h b=some y) (hr:Rep J β h w (.optr b off) v):y.mp=false:=by
 rw[Rep] at hr
 obtain⟨x,k,o,⟨c,d⟩,_⟩:=hr
 rw[e] at c;simp at c;subst c;exact d
theorem bI {v v':AV} {ups:Fy} {org:Bool} {vc:Value} (S:SimH J β h w) (j:LooksS g h) (e:ig g v=some (v',ups,org)) (f:Rep J β h w v vc) :
    ∃ J',Step J β h w J' β (Al ups h) w∧RepC (J' org) w v' vc∧LooksS g (Al ups h):=by
  unfold ig at e
  split at e
  · rename_i b off n
    obtain⟨x,d,s⟩:=ub e
    obtain⟨t,m⟩:=uc s
    simp at m
    obtain⟨rfl,rfl,rfl⟩:=m
    unfold Hc at d
    obtain⟨x0,i,d⟩:=ub d
    obtain⟨q,d⟩:=Aya d
    simp at d;subst d
    obtain⟨y,l,c⟩:=j b _ i
    have e1:y.cells=x0.cells:=by have:=congrArg Blk.cells c;simpa using this
    have u:y.sz=x0.sz:=by have:=congrArg Blk.sz c;simpa using this
    have e3:y.taint=x0.taint:=by have:=congrArg Blk.taint c;simpa using this
    have e4:y.dead=x0.dead:=by have:=congrArg Blk.dead c;simpa using this
    have z:y.pure=x0.pure:=by have:=congrArg Blk.pure c;simpa using this
    have A:=Step.shutB S l (by rw[e4];exact q) (A59 l f)
    refine⟨_,by simp only[Al];rw[←c];exact A,?_,by simp only[Al];exact j.shutB i⟩
    have:=(A2f (J':=fun o k=>J o k∨∃ o',β b=some (k,o')∧(y.taint=true→o=true)) S l (by rw[e4];exact q) (by rw[z];exact t) f (fun k o C=>.inr ⟨o,C,id⟩) (fun o k D=>.inl D) false x0.taint).2 (by simp)
    rw[e1,u,e3] at this
    rw[e3]
    exact this
  all_goals first
    | (simp at e;done)
    | (simp at e; obtain ⟨rfl, rfl, rfl⟩ := e
       refine⟨J,Step.refl S,?_,j⟩
       first
         | (rw[Rep] at f;exact f)
         | skip)
  · cases v
    case imm=>rename_i hi _ _;exact absurd rfl (hi _ _ _ _ _)
    case iptr=>rename_i hi _;exact absurd rfl (hi _ _)
    case pagg=>rename_i hi;exact absurd rfl (hi _ _)
    all_goals first | (rw[Rep] at f;rw[RepC];exact f) | simp_all
theorem Ve:∀ {c e:LA} {ups:Fy} {org:Bool} {cs:List Value} {J:Bool→Nat→Prop} {h:Aj},SimH J β h w→LooksS g h→GC g c=some (e,ups,org)→Reps J β h w c cs →
  ∃ J',Step J β h w J' β (Al ups h) w∧RepCs (J' org) w e (fun j=>cs[j]?) 0∧e.length=cs.length∧LooksS g (Al ups h)
 | [],e,ups,org,cs,J,h,S,m,f,i=>by
  simp[GC] at f;obtain⟨rfl,rfl,rfl⟩:=f
  rw[Reps] at i;subst i
  exact⟨J,Step.refl S,by simp[RepCs],rfl,m⟩
 | v::r,e,ups,org,cs,J,h,S,m,f,i=>by
  rw[GC] at f
  obtain⟨⟨v1,u1,o1⟩,C,D⟩:=ub f
  obtain⟨⟨G,u2,o2⟩,hq,y⟩:=ub D
  simp at y
  obtain⟨rfl,rfl,rfl⟩:=y
  rw[Reps] at i
  obtain⟨u,us,rfl,n,q⟩:=i
  obtain⟨J1,A,hA,s⟩:=bI S m C n
  obtain⟨J2,B,hB,l,t⟩:=Ve A.sim s hq (Reps.ext A.ext q)
  refine⟨J2,by rw[Da];exact A.trans B (fun _ _ _ _=>Nat.le_refl _),?_,by simp[l],by rw[Da];exact t⟩
  have mono:∀ {a b:Bool} (k:Nat),J2 a k→J2 (a||b) k:=fun {a b} k d=>by
   cases a
   ·cases b
    ·exact d
    ·exact B.sim.jft k d
   ·exact d
  have mono':∀ {a b:Bool} (k:Nat),J2 b k→J2 (a||b) k:=fun {a b} k d=>by rw[Bool.or_comm];exact mono k d
  rw[RepCs]
  refine⟨⟨u,by simp,?_⟩,?_⟩
  ·exact RepC.keep (J:=J1 o1) (fun k d=>mono k (B.ext.jsub _ k d)) (fun _ _=>rfl) hA
  ·have:=RepCs.keep (J':=J2 (o1||o2)) (w':=w) (fun k d=>mono' k d) (fun _ _=>rfl) (rd':=fun j=>us[j]?) (fun _=>rfl) hB
   rw[B4] at this ⊢
   intro j x F
   have z:=this j x F
   simp only[Nat.zero_add] at z
   rw[show 1+j=j+1 by omega]
   simpa using z
theorem V' {v:AV} {e:LA} {ups:Fy} {org:Bool} {vc:Value} (S:SimH J β h w) (k:LooksS g h) (d:FN g v=some (e,ups,org)) (f:Rep J β h w v vc) :
  ∃ J',Step J β h w J' β (Al ups h) w∧RepCs (J' org) w e (fun j=>vc.cells.toList[j]?) 0∧e.length=vc.cells.toList.length∧LooksS g (Al ups h):=by
 unfold FN at d
 split at d
 ·rename_i c org'
  simp at d;obtain⟨rfl,rfl,rfl⟩:=d
  rw[Rep] at f
  obtain⟨cs,rfl,n,i⟩:=f
  exact⟨J,Step.refl S,i,by simp[Value.cells,n],k⟩
 ·rename_i c
  rw[Rep] at f
  obtain⟨cs,rfl,i⟩:=f
  exact Ve S k d i
 ·rename_i v n i
  obtain⟨J',A,hA,b,l⟩:=Ve (cs:=[vc]) S k d (by rw[Reps];exact⟨vc,[],rfl,f,by rw[Reps]⟩)
  have y:vc.oneCell'=true:=by
   have m:e.length=1:=b
   cases q:e with
   | nil=>simp[q] at m
   | cons x r =>
    obtain⟨u,s,hr⟩:=hA.at (j:=0) (x:=x) (by simp[q])
    simp at s;subst s
    exact nN hr
  have t:vc.cells=#[vc]:=by cases vc<;>simp_all[Value.cells,Value.oneCell']
  rw[t]
  exact⟨J',A,hA,b,l⟩
end
end Gx

namespace Gx
open Go
theorem Db:∀ (ups:Fy) (h:Aj) (b:Nat),Be ups b=false→Am (Al ups h) b=Am h b
 | [],_,_,_=>rfl
 | (i,some x)::r,h,b,hi=>by
  rw[Be] at hi
  cases c:Nat.beq i b with
  | true=>rw[c] at hi;simp at hi
  | false =>
   rw[c] at hi
   rw[Al,Db r _ b hi,Ah,if_neg (fun e=>CO c e.symm)]
 | (i,none)::r,h,b,hi=>by
  rw[Be] at hi
  cases c:Nat.beq i b with
  | true=>rw[c] at hi;simp at hi
  | false =>
   rw[c] at hi
   rw[Al,Db r _ b hi]
   split
   ·rw[Ah,if_neg (fun e=>CO c e.symm)]
   ·rfl
theorem SN {c vs:LA} {off:Nat} (e:off+vs.length≤c.length) (j:Nat):(C4 c off vs)[j]?=if off≤j∧j<off+vs.length then vs[j - off]? else c[j]?:=by
 unfold C4
 rw[List.append_assoc,List.getElem?_append]
 simp only[List.length_take,Nat.min_eq_left (show off≤c.length by omega)]
 by_cases b:j<off
 ·rw[if_pos b,if_neg (by omega),List.getElem?_take,if_pos b]
 ·rw[if_neg b,List.getElem?_append]
  by_cases d:j - off<vs.length
  ·rw[if_pos d,if_pos (by omega)]
  ·rw[if_neg d,if_neg (by omega),List.getElem?_drop];congr 1;omega
theorem Yz {c vs:LA} {off:Nat} (b:off+vs.length≤c.length):(C4 c off vs).length=c.length:=by
 unfold C4;simp;omega
theorem SO {c vs:LA} {off:Nat} (b:off+vs.length≤c.length) (j:Nat):(setCells c off vs)[j]?=if off≤j∧j<off+vs.length then vs[j - off]? else c[j]?:=by
 unfold setCells
 split
 ·rename_i y
  simp at b
  rw[List.getElem?_set]
  by_cases e:off=j
  ·subst e;simp;omega
  ·rw[if_neg e,if_neg (by simp;omega)]
 ·exact SN b j
theorem Td {c vs:LA} {off:Nat} (b:off+vs.length≤c.length):(setCells c off vs).length=c.length:=by
 unfold setCells
 split
 ·simp
 ·exact Yz b
section
variable {R:Type} {r:R} {P:Program} {J J':Bool→Nat→Prop} {β:Cp} {h:Aj} {w w':World} {g:Bj}
theorem Qy {v:AV} {vc:Value} (hs:OB g v=true) (b:Rep J β h w v vc):vc.oneCell'=true:=by
 cases v<;>simp[OB] at hs
 case own=>rw[Rep] at b;obtain⟨x,A,cap,_,rfl,_⟩:=b;rfl
 case optr=>rw[Rep] at b;obtain⟨x,k,o,_,rfl,_⟩:=b;rfl
 case fn=>rw[Rep] at b;obtain⟨cs,rfl,_⟩:=b;rfl
 case imm=>rw[Rep,RepC] at b;obtain⟨_,A,cap,rfl,_⟩:=b;rfl
 case iptr=>rw[Rep,RepC] at b;obtain⟨a,rfl,_⟩:=b;rfl
 all_goals (rw[Rep] at b;subst b;rfl)
theorem DW:∀ {c:LA},Qv g c=true→∀ (j:Nat) (x:AV),c[j]?=some x→OB g x=true
 | [],_,j,x,b=>by simp at b
 | v::r,hs,j,x,b=>by
  rw[Qv] at hs;simp at hs
  cases j with
  | zero=>simp at b;subst b;exact hs.1
  | succ j=>exact DW hs.2 j x (by simpa using b)
theorem Ayc {k:Nat} {cs b:Array Value} {ty:TypeId} {fr:Nat×Nat} (O:OnlyBlk w w' k cs b ty fr):∀ j,Bh w j≤Bh w' j:=fun j=>by
 by_cases e:j=k
 ·subst e;rw[E8 O.old,E8 O.new,O.sz];exact Nat.le_refl _
 ·simp[Bh,O.other j e]
theorem bJ {t:TypeId} {k o:Nat} {vc:Value} {cs:Array Value} {ty:TypeId} {fr:Nat×Nat} (d:w.heap[k]?=some (.cells cs ty fr)) (e:FrOk cs.size fr)
  (hs:Ca P t=some vc.cells.toList.length) (f:o+vc.cells.toList.length≤cs.size) (i:∀ u ∈ vc.cells.toList,u.oneCell'=true) :
  (Instr.storeAt t (.pointer (some ⟨k,o,none⟩)) vc).run P w=.ok () (w.setCells k o vc.cells.toList):=by
 have b:=run_storeCells_cells (P:=P) k o vc.cells.toList 0 w (fun j l=>by
   rw[Nat.add_zero,Vd d];simp;omega)
  (fun j l=>by
   rw[Nat.add_zero];simp only[World.frozen?,d]
   have:=e.at (o+j) (by omega)
   cases fr;simp at this ⊢;omega) i
 simp only[Nat.add_zero] at b
 have c:=D1 hs w
 simp only[Array.length_toList] at c
 simp[Instr.storeAt,Instr.sureAddr,storeVar,c,b]
theorem Anj {t:TypeId} {p v:AV} {vp vv:Value} {k:AV→Fy→O R} (S:SimH J β h w) (hl:Looks g h) (I:sD P g t p v k=some r) (hp:Rep J β h w p vp) (X:Rep J β h w v vv) :
  ∃ val ups,k val ups=some r∧∃ J' β' w',(Instr.storeAt t vp vv).run P w=.ok () w'∧Step J β h w J' β' (Al ups h) w'∧val=.undef:=by
 unfold sD at I
 split at I
 ·rename_i b off
  obtain⟨x,hx,h1⟩:=ub I
  obtain⟨n,hn,h2⟩:=ub h1
  obtain⟨hs,T⟩:=Aya h2
  obtain⟨hb,U⟩:=Es hl hx
  have q:=A8n hb hp
  cases K:x.pure with
  | true =>
   rw[K] at T
   obtain⟨⟨c',u1,org⟩,hq,h4⟩:=ub T
   obtain⟨i,Y⟩:=uc h4
   simp at i
   obtain⟨z,C,L⟩:=i
   obtain⟨J1,A,hA,l,_⟩:=V' S hl.s hq X
   have hb1:Am (Al u1 h) b=some x:=by rw[Db _ _ _ L];exact hb
   obtain⟨kk,o,cs,ty,fr,hβ,rfl,f,hf,hle,hcr,_,_⟩:=Anf A.sim hb1 U (Rep.ext A.ext hp)
   obtain⟨D,O,hO⟩:=OnlyBlk.setCells (k:=kk) vv.cells.toList (o+off) w cs f
   have F:off+c'.length≤x.cells.length:=by omega
   have hone:=RepCs.one hA l.symm
   have B:=Step.set (x':={ x with pure:=true,cells:=setCells x.cells off c',taint:=x.taint||org }) A.sim hb1 U hs hβ O U hs rfl (Td F) (by
    refine⟨fun _=>?_,fun I=>by simp at I⟩
    have hold:=hcr.1 K
    rw[B4]
    intro j y d
    simp only[SO F] at d
    simp only[Nat.zero_add]
    have mono:∀ {a b:Bool} (k:Nat),J1 a k→J1 (a||b) k:=fun {a b} k f=>by
     cases a
     ·cases b
      ·exact f
      ·exact A.sim.jft k f
     ·exact f
    split at d
    ·rename_i hj'
     obtain⟨u,G,hr⟩:=hA.at d
     refine⟨u,?_,RepC.keep (J:=J1 org) (fun k f=>by rw[Bool.or_comm];exact mono k f) (fun _ _=>rfl) hr⟩
     rw[hO,if_pos (by omega),←G];congr 1;omega
    ·rename_i hj'
     obtain⟨u,G,hr⟩:=hold.at d
     refine⟨u,?_,RepC.keep (J:=J1 x.taint) (fun k f=>mono k f) (fun _ _=>rfl) hr⟩
     rw[hO,if_neg (by omega)];exact G)
   refine⟨_,_,Y,J1,β,_,bJ f hf.1 (by rw[←l,z];exact hn) (by omega) hone,?_,rfl⟩
   rw[Da]
   exact A.trans (B q) (fun _ k _ _=>Ayc O k)
  | false =>
   rw[K] at T
   obtain⟨kk,o,cs,ty,fr,hβ,rfl,f,hf,hle,hcr,_,_⟩:=Anf S hb U hp
   have go:∀ (c:LA) (cells':LA),(∀ (j:Nat) (y:AV),c[j]?=some y→∃ u,vv.cells.toList[j]?=some u∧Rep J β h w y u∧u.oneCell'=true)→c.length=vv.cells.toList.length→c.length=n→off+c.length≤x.cells.length →
     cells'.length=x.cells.length→(∀ j:Nat,cells'[j]?=if off≤j∧j<off+c.length then c[j - off]? else x.cells[j]?) →
     ∃ J' β' w',(Instr.storeAt t (.pointer (some ⟨kk,o+off,none⟩)) vv).run P w=.ok () w'∧Step J β h w J' β' (Al [(b,some { x with pure:=false,cells:=cells' })] h) w':=by
    intro c cells' i l hcn hoff hcl hget'
    obtain⟨D,O,hO⟩:=OnlyBlk.setCells (k:=kk) vv.cells.toList (o+off) w cs f
    have B:=Step.set (x':={ x with pure:=false,cells:=cells' }) S hb U hs hβ O U hs rfl hcl (by
     refine⟨fun I=>by simp at I,fun _ j y d=>?_⟩
     simp only[hget'] at d
     split at d
     ·rename_i hj'
      obtain⟨u,G,hr,ho⟩:=i _ _ d
      refine⟨u,?_,hr,ho⟩
      show D[o+j]?=some u
      rw[hO,if_pos (by omega),←G];congr 1;omega
     ·rename_i hj'
      obtain⟨u,G,hr⟩:=hcr.2 K j y d
      refine⟨u,?_,hr⟩
      show D[o+j]?=some u
      rw[hO,if_neg (by omega)];exact G)
    refine⟨J,β,_,bJ f hf.1 (by rw[hn,←hcn,l]) (by omega) (fun u G=>?_),B q⟩
    obtain⟨j,d,rfl⟩:=List.getElem_of_mem G
    obtain⟨u',hu',_,ho⟩:=i j c[j] (List.getElem?_eq_getElem (by omega))
    rw[List.getElem?_eq_getElem d] at hu';simp only[Option.some.injEq] at hu';rw[hu'];exact ho
   simp only[cond_false] at T
   split at T
   ·rename_i c
    obtain⟨i,Y⟩:=uc T
    simp at i
    obtain⟨z,C,L⟩:=i
    rw[Rep] at X
    obtain⟨us,rfl,e⟩:=X
    rw[C0] at e
    obtain⟨J',β',w',g1,g2⟩:=go c (C4 x.cells off c) (fun j y d=>by
      have M:j<us.length:=by rw[e.1];exact(List.getElem?_eq_some_iff.1 d).1
      refine⟨us[j],by simp[Value.cells,List.getElem?_eq_getElem M],e.2 j y _ d (List.getElem?_eq_getElem M),Qy (DW z j y d) (e.2 j y _ d (List.getElem?_eq_getElem M))⟩)
     (by simp[Value.cells,e.1]) C (by omega) (Yz (by omega)) (SN (by omega))
    exact⟨_,_,Y,J',β',w',g1,g2,rfl⟩
   ·rename_i c org
    obtain⟨i,Y⟩:=uc T
    simp at i
    obtain⟨rfl,C,L⟩:=i
    rw[Rep] at X
    obtain⟨us,rfl,e,hrc⟩:=X
    obtain⟨D,O,hO⟩:=OnlyBlk.setCells (k:=kk) us (o+0) w cs f
    have B:=Step.set (x':={ x with pure:=true,taint:=org,cells:=c }) S hb U hs hβ O U hs rfl (by simp;omega) (by
     refine⟨fun _=>?_,fun I=>by simp at I⟩
     rw[B4]
     intro j y d
     obtain⟨u,G,hr⟩:=hrc.at d
     have M:j<us.length:=by rw[e];exact(List.getElem?_eq_some_iff.1 d).1
     refine⟨u,?_,hr⟩
     show D[o+(0+j)]?=some u
     rw[hO,if_pos (by omega),←G];congr 1;omega)
    exact⟨_,_,Y,J,β,_,bJ (vc:=.agg ⟨us⟩) f hf.1 (by simp[Value.cells];rw[e,C];exact hn) (by simp[Value.cells];omega) (by simpa[Value.cells] using RepCs.one hrc e),B q,rfl⟩
   ·rename_i hna
    obtain⟨i,Y⟩:=uc T
    simp at i
    obtain⟨z,C,L⟩:=i
    have ho:=Qy z X
    have m:vv.cells=#[vv]:=by cases vv<;>simp_all[Value.cells,Value.oneCell']
    obtain⟨J',β',w',g1,g2⟩:=go [v] (x.cells.set off v) (fun j y d=>by
      cases j with
      | zero=>simp at d;subst d;exact⟨vv,by simp[m],X,ho⟩
      | succ j=>simp at d) (by simp[m]) (by simp;omega) (by simp;omega) (by simp) (fun j=>by
      have:=SO (c:=x.cells) (vs:=[v]) (off:=off) (by simp;omega) j
      simpa[setCells] using this)
    exact⟨_,_,Y,J',β',w',g1,g2,rfl⟩
 ·simp at I
end
end Gx

namespace Gx
open Go
section
variable {R:Type} {r:R} {P:Program} {J J':Bool→Nat→Prop} {β:Cp} {h:Aj} {w w':World} {g:Bj}
theorem Aka {v v':AV} {ups:Fy} {org:Bool} (c:ig g v=some (v',ups,org)) (b:Nat) (i:Be ups b=true):∃ x,g b=some x:=by
 unfold ig at c
 split at c
 ·rename_i j off n
  obtain⟨x,d,l⟩:=ub c
  obtain⟨m,k⟩:=uc l
  simp at k
  obtain⟨rfl,rfl,rfl⟩:=k
  unfold Hc at d
  obtain⟨x0,f,d⟩:=ub d
  have:j=b:=by
   cases e:Nat.beq j b with
   | true=>exact Nat.eq_of_beq_eq_true e
   | false=>simp[Be,e] at i
  subst this;exact⟨x0,f⟩
 all_goals first
  | (simp at c;done)
  | (simp at c;obtain⟨rfl,rfl,rfl⟩:=c;simp[Be] at i)
theorem Jz:∀ (a b:Fy) (c:Nat),Be (a++b) c=(Be a c||Be b c)
 | [],_,_=>by simp[Be]
 | (i,_)::r,b,c=>by
  rw[List.cons_append,Be,Be,Jz r b c]
  cases Nat.beq i c<;>simp
theorem GI:∀ {c f:LA} {ups:Fy} {org:Bool},GC g c=some (f,ups,org)→∀ b,Be ups b=true→∃ x,g b=some x
 | [],f,ups,org,d,b,e=>by simp[GC] at d;obtain⟨rfl,rfl,rfl⟩:=d;simp[Be] at e
 | v::r,f,ups,org,d,b,e=>by
  rw[GC] at d
  obtain⟨⟨v1,u1,o1⟩,k,l⟩:=ub d
  obtain⟨⟨m,u2,o2⟩,hq,i⟩:=ub l
  simp at i
  obtain⟨rfl,rfl,rfl⟩:=i
  rw[Jz] at e
  cases j:Be u1 b with
  | true=>exact Aka k b j
  | false=>rw[j] at e;exact GI hq b (by simpa using e)
theorem Agv {v:AV} {f:LA} {ups:Fy} {org:Bool} (d:FN g v=some (f,ups,org)) (b:Nat) (e:Be ups b=true):∃ x,g b=some x:=by
 unfold FN at d
 split at d
 ·simp at d;obtain⟨rfl,rfl,rfl⟩:=d;simp[Be] at e
 ·exact GI d b e
 ·exact GI d b e
theorem A2g {ups:Fy} {d:Nat} (c:Looks g h) (e:∀ b,Be ups b=true→∃ x,g b=some x) (hn:Am h (nid d)=none):Am (Al ups h) (nid d)=none:=by
 rw[Db]
 ·exact hn
 ·cases f:Be ups (nid d) with
  | false=>rfl
  | true =>
   obtain⟨x,i⟩:=e _ f
   rw[c _ _ i] at hn;cases hn
def OpDone (J:Bool→Nat→Prop) (β:Cp) (h:Aj) (w:World) (ups:Fy) (val:AV) (vc:Value) (w':World):Prop :=
 ∃ J' β',Step J β h w J' β' (Al ups h) w'∧Rep J' β' (Al ups h) w' val vc
def UpsFree (d:Nat) (h:Aj) (ups:Fy):Prop:=∀ b,Be ups b=true→OG d b=true→Am h b=none
theorem UpsFree.nid {d:Nat} {h:Aj} {ups:Fy} (b:UpsFree d h ups) (hi:Be ups (nid d)=true):Am h (nid d)=none:=b _ hi (by
 have c:Nat.ble (Gx.nid d) (Gx.nid d)=true:=by simp
 have e:Nat.blt (Gx.nid d) (Gx.nid d+16)=true:=by simp
 rw[OG,c,e];rfl)
theorem gM {d:Nat} {x:Blk} {cs:Array Value} {ty:TypeId} (S:SimH J β h w) (hn:Am h (nid d)=none) (e:x.dead=false) (hs:x.sealed=false) (b:x.cells.length≤cs.size) (f:CellsRep J β h w x (fun j=>cs[j]?)) (c:x.mp=false:=by rfl) (hty:TyOk x.ty ty 0 cs.size:=by exact TyOk.none) :
  OpDone J β h w [(nid d,some x)] (.optr (nid d) 0) (.pointer (some ⟨w.heap.size,0,none⟩)) (w.alloc (.cells cs ty)):=by
 have A:=Step.new (ty:=ty) (fr:=(0,0)) S hn e hs ⟨.inl rfl,hty⟩ b f c
 refine⟨_,_,A,?_⟩
 rw[Rep]
 exact⟨x,w.heap.size,0,⟨by simp[Al,Ah],c⟩,rfl,.inr (by simp)⟩
theorem OpDone.after {ups ups':Fy} {val:AV} {vc:Value} {J1:Bool→Nat→Prop} {β1:Cp} {b:World} (A:Step J β h w J1 β1 (Al ups h) b) (B:OpDone J1 β1 (Al ups h) b ups' val vc w')
  (hs:∀ k,Bh w k≤Bh w' k):OpDone J β h w (ups++ups') val vc w':=by
 obtain⟨J2,β2,B1,B2⟩:=B
 exact⟨J2,β2,by rw[Da];exact A.trans B1 (fun _ k _ _=>hs k),by rw[Da];exact B2⟩
theorem Tr (w:World) (o:Obj):∀ k,Bh w k≤Bh (w.alloc o) k:=fun k=>by
 by_cases b:k<w.heap.size
 ·simp[Bh,D0 w _ b]
 ·simp[Bh,Array.getElem?_eq_none (Nat.le_of_not_lt b)]
theorem SP {t:TypeId} {vc:Value}:(Instr.box t vc).run P w=.ok (.pointer (some ⟨w.heap.size,0,none⟩)) (w.alloc (.cells vc.cells t)):=by
 simp[Instr.box,newVar,newRow]
theorem uF {c:LA} {org:Bool} {cs:List Value} (n:RepCs (J org) w c (fun j=>cs[j]?) 0):∀ {L:List (Nat×TypeId)} {acc:LA} {k:LA→O R},nE P c org L acc k=some r →
  (∀ (j:Nat) x,acc[j]?=some x→∃ u,cs[j]?=some u∧Rep J β h w x u)→∃ l:LA,k l=some r∧∀ (j:Nat) x,l[j]?=some x→∃ u,cs[j]?=some u∧Rep J β h w x u
 | [],acc,k,e,f=>⟨acc,e,f⟩
 | (off,t)::L,acc,k,e,f=>by
  rw[nE] at e
  obtain⟨h0,y⟩:=uc e
  simp at h0
  obtain⟨v,z,A⟩:=Z3 (β:=β) (h:=h) y (n.drop off)
  refine uF n z (fun j x b=>?_)
  rw[List.getElem?_append] at b
  split at b
  ·exact f j x b
  ·have i:j=acc.length:=by
    have:=(List.getElem?_eq_some_iff.1 b).1
    simp at this;omega
   subst i
   simp at b;subst b
   rcases A with⟨d,q,C,u,s,D⟩ | ⟨d,q,C,_⟩
   ·refine⟨u,?_,D⟩
    rw[h0.1] at s;simpa using s
   ·exfalso
    have m:=h0.2
    unfold A52 at m
    rw[q] at m
    split at m<;>simp_all[TypeDesc.isRow]
theorem Ank {co:Bool} {t:TypeId} {v:AV} {vv:Value} {k:AV→O R} (d:sF P co t v k=some r) (e:Rep J β h w v vv):∃ v',k v'=some r∧Rep J β h w v' vv:=by
 unfold sF at d
 split at d
 ·rename_i c org
  rw[Rep] at e
  obtain⟨cs,rfl,A,f⟩:=e
  obtain⟨l,i,m⟩:=uF (β:=β) (h:=h) f d (fun j x n=>by simp at n)
  obtain⟨q,s⟩:=uc i
  simp at q
  refine⟨_,s,?_⟩
  rw[Rep]
  refine⟨cs,rfl,C0.2 ⟨by omega,fun j x u y z=>?_⟩⟩
  obtain⟨C,b,hr⟩:=m j x y
  rw[z] at b;simp at b;subst b;exact hr
 ·exact⟨_,d,e⟩
theorem A3k {t q m:Nat} (h:Am4 P t=some (q,m)):t=q∧Ca P t=some m:=by
 have key:∀ {o:Option Nat},o=Ca P t→(o.map fun n=>(t,n))=some (q,m)→t=q∧Ca P t=some m:=by
  intro o b h
  cases o with
  | none=>simp at h
  | some n=>simp at h;exact⟨h.1,by rw[←b,h.2]⟩
 unfold Am4 at h
 split at h
 ·obtain⟨f,_,h⟩:=ub h
  split at h
  ·obtain⟨_,h⟩:=uc h;exact key rfl h
  ·obtain⟨g,_,h⟩:=ub h
   split at h
   ·obtain⟨_,h⟩:=uc h;exact key rfl h
   ·cases h
  ·cases h
 ·cases h
theorem za {d:Nat} {t:TypeId} {v:AV} {vv:Value} {k:AV→Fy→O R} (S:SimH J β h w) (F:Looks g h) (f:Arz P g d t v k=some r) (u:Rep J β h w v vv) :
  ∃ val ups,k val ups=some r∧(UpsFree d h ups→∃ vc w',(Instr.box t vv).run P w=.ok vc w'∧OpDone J β h w ups val vc w'):=by
 unfold Arz at f
 split at f
 ·rename_i c org
  refine⟨_,_,f,fun hn=>⟨_,_,SP,?_⟩⟩
  replace hn:=hn.nid (by simp[Vb,Be])
  rw[Rep] at u
  obtain⟨cs,rfl,D,i⟩:=u
  exact gM S hn rfl rfl (by simp[Value.cells,D]) ⟨fun _=>by simpa[Value.cells] using i,fun l=>by simp at l⟩
 ·rename_i c
  cases l:A17 P t with
  | true =>
   rw[l] at f
   obtain⟨e,f⟩:=uc f
   simp only[Bool.and_eq_true] at e
   obtain⟨e,n⟩:=e
   have n:=Nat.eq_of_beq_eq_true n
   refine⟨_,_,f,fun hn=>⟨_,_,SP,?_⟩⟩
   replace hn:=hn.nid (by simp[Be])
   rw[Rep] at u
   obtain⟨cs,rfl,i⟩:=u
   rw[C0] at i
   have hty:TyOk (Am4 P t) t 0 (Value.agg ⟨cs⟩).cells.size:=fun q m hq=>by
    obtain⟨e1,G⟩:=A3k hq
    refine⟨e1,rfl,.inr ?_⟩
    rw[G] at n
    simp[Value.cells,i.1];simpa using n
   refine gM S hn rfl rfl (by simp[Value.cells,i.1]) ⟨fun l=>by simp at l,fun _ j y x=>?_⟩ rfl hty
   have z:j<cs.length:=by rw[i.1];exact(List.getElem?_eq_some_iff.1 x).1
   exact⟨cs[j],by simp[Value.cells,z],i.2 j y _ x (List.getElem?_eq_getElem z),Qy (DW e j y x) (i.2 j y _ x (List.getElem?_eq_getElem z))⟩
  | false =>
   rw[l] at f
   obtain⟨⟨K,u1,o1⟩,hq,D⟩:=ub f
   refine⟨_,_,D,fun hn=>⟨_,_,SP,?_⟩⟩
   replace hn:=hn.nid (by simp[Jz,Vb,Be])
   rw[Rep] at u
   obtain⟨cs,rfl,i⟩:=u
   obtain⟨J1,A,hA,C,_⟩:=Ve S F.s hq i
   refine OpDone.after A (gM A.sim (A2g F (GI hq) hn) rfl rfl (by simp[Value.cells,C]) ⟨fun _=>?_,fun l=>by simp at l⟩) (Tr _ _)
   simpa[Value.cells] using hA
 ·rename_i v D i
  obtain⟨e,f⟩:=uc f
  refine⟨_,_,f,fun hn=>⟨_,_,SP,?_⟩⟩
  replace hn:=hn.nid (by simp[Vb,Be])
  have I:=Qy e u
  have b:vv.cells=#[vv]:=by cases vv<;>simp_all[Value.cells,Value.oneCell']
  refine gM S hn rfl rfl (by simp[b]) ⟨fun l=>by simp at l,fun _ j y x=>?_⟩
  cases j with
  | zero=>simp at x;subst x;exact⟨vv,by simp[b],u,I⟩
  | succ j=>simp at x
end
end Gx

namespace Gx
open Go
theorem Anl (z:LA):∀ (l j:Nat),j<l*z.length→(F1 l z)[j]?=z[j%z.length]?:=by
 have flat:∀ (l j:Nat),j<l*z.length→((List.replicate l z).flatten)[j]?=z[j%z.length]?:=by
  intro l
  induction l with
  | zero=>intro j b;simp at b
  | succ l d =>
   intro j b
   rw[List.replicate_succ,List.flatten_cons,List.getElem?_append]
   by_cases c:j<z.length
   ·rw[if_pos c,Nat.mod_eq_of_lt c]
   ·rw[if_neg c,d _ (by rw[Nat.succ_mul] at b;omega)]
    rw[Nat.mod_eq_sub_mod (a:=j) (by omega)]
 intro l j b
 unfold F1
 split
 ·rename_i v
  simp at b
  simp[b,Nat.mod_one]
 ·exact flat l j b
theorem G6 (l:Nat) (z:LA):(F1 l z).length=l*z.length:=by
 unfold F1
 split
 ·simp
 ·simp
section
variable {R:Type} {r:R} {P:Program} {J J':Bool→Nat→Prop} {β:Cp} {h:Aj} {w w':World} {g:Bj}
theorem mA {J:Nat→Prop}:∀ {cs:List Value},Az (Ol cs)=true→∀ (j:Nat) (u:Value),cs[j]?=some u→∃ x,(Ol cs)[j]?=some x∧RepC J w x u
 | [],_,j,u,b=>by simp at b
 | v::r,c,j,u,b=>by
  have key:∃ x,ry v=x∧Az (Ol r)=true∧RepC J w x v:=by
   rw[Ol] at c
   have hr:=SK (J:=fun _=>J) (β:=fun _=>none) (h:=[]) (w:=w) v
   cases d:ry v<;>rw[d] at c hr<;>simp[Az] at c<;>refine⟨_,rfl,c,?_⟩<;>(rw[Rep] at hr;rw[RepC];exact hr)
  obtain⟨x,d,e,hr⟩:=key
  cases j with
  | zero=>simp at b;subst b;exact⟨x,by simp[Ol,d],hr⟩
  | succ j =>
   obtain⟨y,f,i⟩:=mA (J:=J) (cs:=r) e j u (by simpa using b)
   exact⟨y,by simpa[Ol] using f,i⟩
theorem JA:∀ cs:List Value,(Ol cs).length=cs.length
 | []=>rfl
 | v::r=>by simp[Ol,JA r]
theorem Xp {t:TypeId} {z:LA} (c:nB P t=some z):∃ i v,P.info? t=some i∧i.zero=some v∧z=Ol v.cells.toList∧Az z=true∧v.cells.size=i.size∧z.length=i.size:=by
 unfold nB at c
 obtain⟨i,hi,e⟩:=ub c
 obtain⟨v,f,j⟩:=ub e
 obtain⟨b,d⟩:=uc j
 simp at d b
 subst d
 exact⟨i,v,hi,f,rfl,b.1,by simpa using b.2,by rw[JA];simpa using b.2⟩
theorem SQ {J:Nat→Prop} {v:Value} (k:Az (Ol v.cells.toList)=true) (l n:Nat) (q:l*v.cells.size≤n) :
  RepCs J w (F1 l (Ol v.cells.toList)) (fun j=>(madeCells v.cells n)[j]?) 0:=by
 rw[B4]
 intro j x e
 have c:(Ol v.cells.toList).length=v.cells.size:=by rw[JA];simp
 have b:j<l*(Ol v.cells.toList).length:=by
  have:=(List.getElem?_eq_some_iff.1 e).1
  rwa [G6] at this
 rw[Anl _ _ _ b] at e
 rw[c] at e b
 have d:0<v.cells.size:=by
  rcases Nat.eq_zero_or_pos v.cells.size with h0 | h0
  ·rw[h0] at b;simp at b
  ·exact h0
 have i:j%v.cells.size<v.cells.size:=Nat.mod_lt _ d
 obtain⟨y,f,m⟩:=mA (w:=w) (J:=J) k (j%v.cells.size) v.cells[j%v.cells.size] (by simp[i])
 rw[e] at f;simp at f;subst f
 refine⟨_,?_,m⟩
 have:j<n:=by omega
 simp[madeCells,this,getElem!_pos,i]
theorem nO {d n cap sz:Nat} {x:Blk} {cs:Array Value} {ty:TypeId} {fr:Nat×Nat} (S:SimH J β h w) (hn:Am h (nid d)=none) (m:x.dead=false) (hs:x.sealed=false) (k:x.sz=sz)
  (i:FrTy x.ty ty 0 cs.size fr) (b:x.cells.length=n*sz) (l:cap*sz≤cs.size) (c:n≤cap) (q:CellsRep J β h w x (fun j=>cs[j]?)) (e:x.mp=false:=by rfl) :
  OpDone J β h w [(nid d,some x)] (.own (nid d) 0 n) (.slice (some ⟨w.heap.size,0,none⟩) n cap) (w.alloc (.cells cs ty fr)):=by
 have s:n*sz≤cap*sz:=Nat.mul_le_mul_right _ c
 have A:=Step.new (ty:=ty) (fr:=fr) S hn m hs i (by omega) q e
 refine⟨_,_,A,?_⟩
 rw[Rep]
 refine⟨x,_,cap,⟨by simp[Al,Ah],e⟩,rfl,c,.inr ⟨w.heap.size,0,rfl,.inr ⟨by simp,?_,by rw[k,b];omega⟩⟩⟩
 have f:(w.alloc (.cells cs ty fr)).heap[w.heap.size]?=some (.cells cs ty fr):=by show(w.heap.push _)[_]?=_;simp
 rw[E8 f,k];omega
theorem Ar6 {d:Nat} {t:TypeId} {l c:AV} {vl vc:Value} {k:AV→Fy→O R} (S:SimH J β h w) (e:Aj0 P d t l c k=some r) (n:Rep J β h w l vl) (q:Rep J β h w c vc) :
  ∃ val ups,k val ups=some r∧(UpsFree d h ups→∃ u w',(Instr.makeSlice t vl vc).run P w=.ok u w'∧OpDone J β h w ups val u w'):=by
 unfold Aj0 at e
 split at e
 ·rename_i x l c y
  obtain⟨sz,hs,A⟩:=ub e
  obtain⟨by_,s,C⟩:=ub A
  obtain⟨z,D,F⟩:=ub C
  obtain⟨hq,G⟩:=uc F
  simp at hq
  obtain⟨I,K,T,U⟩:=hq
  rw[Rep] at n q;subst n q
  obtain⟨i,v,hi,L,rfl,f,e1,M⟩:=Xp D
  have b:i.size=sz:=by simp[Ca,hi] at hs;exact hs
  have j:i.bytes=by_:=by simp[Am1,hi] at s;exact s
  have m:Be (Vb d true false sz (F1 l.toNat (Ol v.cells.toList))) (nid d)=true:=by simp[Vb,Be]
  refine⟨_,_,G,fun hn=>⟨_,_,run_make w t x i v y hi L _ _ l c I K (by rw[j,Int.mul_comm];omega) (by omega),?_⟩⟩
  refine nO (sz:=sz) S (hn.nid m) rfl rfl rfl FrTy.un0 ?_ (by rw[size_madeCells,b];exact Nat.le_refl _) (by omega) ⟨fun _=>?_,fun f=>by simp at f⟩
  ·show(F1 l.toNat (Ol v.cells.toList)).length=_
   rw[G6,M,b]
  ·exact SQ f _ _ (by rw[e1];exact Nat.mul_le_mul_right _ (by omega))
 ·simp at e
theorem Yield.src {sz n:Nat} {tx:TypeId} {vx:Value} {us:List Value} (Y:Yield P w sz vx n us) (b:Am8 P tx=true) (d:∀ u ∈ us,u.oneCell'=true):Src P sz tx vx n us w:=by
 refine⟨?_,Y.len,?_,?_,Y.length,d⟩
 ·unfold Am8 at b
  split at b
  ·rename_i e c;exact .inl ⟨e,c⟩
  ·rename_i c;exact .inr c
  ·simp at b
 ·have:=Y.cells w n (fun _=>rfl) (Nat.le_refl _)
  rwa [←Y.length,List.take_length] at this
 ·have:=Y.cells w.drew n (fun _=>rfl) (Nat.le_refl _)
  rwa [←Y.length,List.take_length] at this
theorem Anm {J:Nat→Prop} {a b:LA} {us vs:List Value} (f:RepCs J w a (fun j=>us[j]?) 0) (i:RepCs J w b (fun j=>vs[j]?) 0) (k:a.length=us.length) (tail:List Value) :
  RepCs J w (a++b) (fun j=>(us++vs++tail)[j]?) 0:=by
 rw[B4]
 intro j x c
 rw[List.getElem?_append] at c
 simp only[Nat.zero_add]
 by_cases e:j<a.length
 ·rw[if_pos e] at c
  obtain⟨u,d,hr⟩:=f.at c
  refine⟨u,?_,hr⟩
  rw[List.append_assoc,List.getElem?_append,if_pos (by omega)];exact d
 ·rw[if_neg e] at c
  obtain⟨u,d,hr⟩:=i.at c
  refine⟨u,?_,hr⟩
  have l:j - a.length<vs.length:=(List.getElem?_eq_some_iff.1 d).1
  rw[List.append_assoc,List.getElem?_append,if_neg (by omega),List.getElem?_append,if_pos (by omega),←k];exact d
theorem SR (w:World) (k:Nat):Bh w.drew k=Bh w k:=rfl
theorem zb {d sz n1 n2 cap0:Nat} {t tx ty b:TypeId} {i:TypeInfo} {z vx:Value} {A:Option Addr} {olds news:List Value} {c1 c:LA} {o:Bool} (S:SimH J β h w) (hn:Am h (nid d)=none)
  (G:P.underlying t=some (.slice b)) (hi:P.info? b=some i) (I:i.zero=some z) (v:i.size=sz) (y:z.cells.size=sz)
  (e:∀ w':World,(∀ a,w'.cell? a=w.cell? a)→(Builtin.firstCells sz n1 (.slice A n1 cap0)).run P w'=.ok olds.toArray w') (f:olds.length=n1*sz)
  (Y:Yield P w sz vx n2 news) (K:Am8 P tx=true) (L:∀ u ∈ news,u.oneCell'=true)
  (M:RepCs (J o) w c1 (fun j=>olds[j]?) 0) (l:c1.length=olds.length) (O:RepCs (J o) w c (fun j=>news[j]?) 0) (C:c.length=news.length)
  (F:cap0<n1+n2) (T:n1+n2≤140737488355328) (D:(n1+n2)*i.bytes≤140737488355328) {X:Option (Nat×Nat)} (hX:∀ q,X=some q→q=(b,0)) :
  ∃ u w',(Builtin.append_ #[t,tx] ty #[.slice A n1 cap0,vx]).run P w=.ok u w' ∧
   OpDone J β h w [(nid d,some { dead:=false,sealed:=false,pure:=true,taint:=o,sz:=sz,cells:=c1++c,ty:=X })] (.own (nid d) 0 (n1+n2)) u w'∧(∀ k,Bh w k≤Bh w' k):=by
 subst v
 have run:=run_append_grow_src (P:=P) w t tx ty b i z G hi I A n1 cap0 olds (e w.drew (fun _=>rfl)) vx n2 news (Y.src K L) F (by omega) (growslice_fits F D)
 have s:n1+n2≤grownCap w (n1+n2) cap0 b:=by
  unfold grownCap;simp[Question.cut]
 refine⟨_,_,run,?_,?_⟩
 ·obtain⟨J',β',B1,B2⟩:=nO (d:=d) (n:=n1+n2) (cap:=grownCap w (n1+n2) cap0 b) (sz:=i.size) (ty:=b) (fr:=(0,0)) (x:={ dead:=false,sealed:=false,pure:=true,taint:=o,sz:=i.size,cells:=c1++c,ty:=X })
   (cs:=(olds++news).toArray++Builtin.zeroCells z.cells (grownCap w (n1+n2) cap0 b - (n1+n2))) (Step.drew S).sim hn rfl rfl rfl ⟨.inl rfl,fun t m U=>by have:=hX _ U;simp at this;exact⟨this.1.symm,rfl,.inl this.2⟩⟩
   (by simp[l,C,f,Y.length,Nat.add_mul]) (by
    simp[Builtin.zeroCells,f,Y.length,y]
    rw[←Nat.add_mul,←Nat.add_mul];exact Nat.mul_le_mul_right _ (by omega)) s
   ⟨fun _=>by
    have:=Anm M O l (Builtin.zeroCells z.cells (grownCap w (n1+n2) cap0 b - (n1+n2))).toList
    show RepCs (J o) w.drew (c1++c) _ 0
    refine RepCs.keep (J:=J o) (w:=w) (w':=w.drew) (fun _ V=>V) (fun _ _=>rfl) (fun j=>?_) this
    rw[←Array.getElem?_toList]
    simp,fun hp=>by simp at hp⟩
  exact⟨J',β',(Step.drew S).trans B1 (fun _ k _ _=>by rw[←SR];exact Tr _ _ k),B2⟩
 ·intro k;rw[←SR];exact Tr _ _ k
theorem gN {J:Bool→Nat→Prop} (d:∀ k,J false k→J true k) (a b:Bool) (k:Nat) (c:J a k):J (a||b) k:=by
 cases a
 ·cases b
  ·exact c
  ·exact d k c
 ·exact c
theorem zc {J:Bool→Nat→Prop} (c:∀ k,J false k→J true k) (a b:Bool) (k:Nat) (d:J b k):J (a||b) k:=by rw[Bool.or_comm];exact gN c b a k d
theorem Ar7 {d sz:Nat} {x:Blk} {A:Option Addr} (S:SimH J β h w) (hn:Am h (nid d)=none) (c:x.cells=[]) (b:x.mp=false:=by rfl) :
  OpDone J β h w [(nid d,some x)] (.own (nid d) 0 0) (.slice A 0 0) w:=by
 refine⟨_,_,Step.newNone S hn c b,?_⟩
 rw[Rep]
 exact⟨x,A,0,⟨by simp[Al,Ah],b⟩,rfl,Nat.le_refl _,.inl rfl⟩
theorem Ar8 {g:Bj} {b tx:TypeId} {s:AV} {q:Nat×Nat} (h:tw P g b tx s=some q):q=(b,0):=by
 unfold tw at h
 split at h
 ·split at h
  ·simp at h;exact h.symm
  ·cases h
 ·obtain⟨x,_,h⟩:=ub h
  obtain⟨y,_,h⟩:=ub h
  obtain⟨_,h⟩:=uc h
  simp at h;exact h.symm
 ·cases h
theorem A6a {g:Bj} {d tx b off n o m:Nat} {ty:TypeId} {y:Blk} (f:Hc g b=some y) (i:TyOk y.ty ty o m):TyOk (tw P g d tx (.own b off n)) ty (o+off) m:=by
 intro t k h
 have e:=Ar8 h
 simp at e;obtain⟨rfl,rfl⟩:=e
 unfold tw at h
 simp only[f,Option.bind_some] at h
 obtain⟨q,hq,h⟩:=ub h
 obtain⟨c,_⟩:=uc h
 simp only[Bool.and_eq_true] at c
 have c1:=Nat.eq_of_beq_eq_true c.1
 have l:=Nat.eq_of_beq_eq_true c.2.1
 have s:=Nat.eq_of_beq_eq_true c.2.2
 obtain⟨j,u,_⟩:=i q.1 q.2 hq
 exact⟨by rw[j,c1],by omega,.inl rfl⟩
theorem Agw {d:Nat} {t tx ty:TypeId} {s x:AV} {vs vx:Value} {k:AV→Fy→O R} (S:SimH J β h w) (hl:Looks g h) (hh:gG P g d t tx s x k=some r) (hs:Rep J β h w s vs) (hx:Rep J β h w x vx) :
  ∃ val ups,k val ups=some r∧(UpsFree d h ups→∃ u w',(Builtin.append_ #[t,tx] ty #[vs,vx]).run P w=.ok u w'∧OpDone J β h w ups val u w'):=by
 unfold gG at hh
 split at hh
 ·rename_i V hu
  obtain⟨ht,h0⟩:=uc hh
  obtain⟨sz,hsz,h1⟩:=ub h0
  obtain⟨by_,hby,h2⟩:=ub h1
  obtain⟨zz,hz,h3⟩:=ub h2
  obtain⟨old,l,h4⟩:=ub h3
  obtain⟨new,us,h5,Y,C,hur⟩:=SL (P:=P) S hl h4 hx
  obtain⟨hq,h6⟩:=uc h5
  simp at hq
  obtain⟨q1,q2⟩:=hq
  obtain⟨i,z,hi,X,rfl,hp,e1,e2⟩:=Xp hz
  have f:i.size=sz:=by simp[Ca,hi] at hsz;exact hsz
  have hb':i.bytes=by_:=by simp[Am1,hi] at hby;exact hby
  have m:=RepCs.one hur C.symm
  have I:RepCs (J (old.2.2.1||new.2.2)) w new.1 (fun j=>us[j]?) 0:=RepCs.keep (J:=J new.2.2) (w:=w) (zc S.jft _ _) (fun _ _=>rfl) (fun _=>rfl) hur
  refine⟨_,_,h6,fun hn=>?_⟩
  replace hn:=hn.nid (by simp[Jz,Be])
  have hX:∀ q,tw P g V tx s=some q→q=(V,0):=fun q=>Ar8
  have empty:∀ (A:Option Addr),vs=.slice A 0 0→old.1=[]→old.2.1=0→old.2.2.2=[] →
    ∃ u w',(Builtin.append_ #[t,tx] ty #[vs,vx]).run P w=.ok u w'∧OpDone J β h w (old.2.2.2++[(nid d,some { dead:=false,sealed:=false,pure:=true,taint:=old.2.2.1||new.2.2,sz,cells:=old.1++new.1,ty:=tw P g V tx s })]) (.own (nid d) 0 (old.2.1+new.2.1)) u w':=by
   intro A hA o1 o2 o3
   subst hA
   rw[o1,o2,o3]
   rcases Nat.eq_zero_or_pos new.2.1 with h0 | h0
   ·have hus:us=[]:=by have:=Y.length;rw[h0] at this;simpa using this
    subst hus
    have D:=Y.src ht m
    rw[h0] at D
    refine⟨_,_,run_append_nothing (P:=P) w t tx ty V i hu hi A 0 0 (Nat.le_refl _) vx (by rw[f];exact D),?_⟩
    rw[h0]
    have hnc:new.1=[]:=by simpa using C
    exact Ar7 (sz:=sz) S hn (by simp[hnc])
   ·obtain⟨u,w',T,g2,_⟩:=zb (ty:=ty) (c1:=[]) (olds:=[]) (n1:=0) (cap0:=0) (A:=A) S hn hu hi X f (by rw[e1,f]) (fun w' _=>by
      cases A with
      | none=>exact run_firstCells_none (P:=P) w' sz 0 0 0
      | some a=>exact run_firstCells_some (P:=P) w' sz 0 a 0 0 [] (by simp) (fun j v K=>by simp at K)) (by simp) Y ht m (by simp[RepCs]) rfl I C (by omega) (by rw[o2] at q1;omega) (by rw[o2,←hb'] at q2;exact q2) hX
    exact⟨u,w',T,g2⟩
  unfold A2a at l
  split at l
  ·simp at l;subst l
   rw[Rep] at hs
   exact empty none hs rfl rfl rfl
  ·rename_i c n sz' org
   obtain⟨hz0,h7⟩:=uc l
   simp at hz0 h7;subst hz0;subst h7
   rw[Rep,RepC] at hs
   obtain⟨_,A,cap,K,_,U,_⟩:=hs
   have:=U rfl;subst this
   exact empty A K rfl rfl rfl
  ·rename_i b off n
   obtain⟨y,hy,h7⟩:=ub l
   obtain⟨hc,h8⟩:=uc h7
   simp at hc h8
   obtain⟨c1,c2,c3⟩:=hc
   subst h8;subst c3
   obtain⟨hb,hd⟩:=Es hl hy
   simp only at *
   rw[Rep] at hs
   obtain⟨y',A,cap,⟨hy1,hmp⟩,rfl,U,hr⟩:=hs
   rw[hb] at hy1;simp at hy1;subst hy1
   have kill:=Step.kill (y:={ y with dead:=true,pure:=true,cells:=[] }) S hb rfl
   have hkn:Am (Gg h b { y with dead:=true,pure:=true,cells:=[] }) (nid d)=none:=by
    rw[Ah,if_neg (fun e=>by rw[←e,hn] at hb;cases hb)];exact hn
   have F:Al [(b,none)] h=Gg h b { y with dead:=true,pure:=true,cells:=[] }:=by simp[Al,hb]
   by_cases hc0:cap=0
   ·have hn0:n=0:=by omega
    subst hc0;subst hn0
    have S':=kill.sim
    rcases Nat.eq_zero_or_pos new.2.1 with h0 | h0
    ·have hus:us=[]:=by have:=Y.length;rw[h0] at this;simpa using this
     subst hus
     have D:=Y.src ht m
     rw[h0] at D
     refine⟨_,_,run_append_nothing (P:=P) w t tx ty V i hu hi A 0 0 (Nat.le_refl _) vx (by rw[f];exact D),?_⟩
     rw[h0]
     have hnc:new.1=[]:=by simpa using C
     refine OpDone.after (ups:=[(b,none)]) (by rw[F];exact kill) ?_ (fun _=>Nat.le_refl _)
     rw[F]
     exact Ar7 (sz:=y.sz) S' hkn (by simp[hnc])
    ·obtain⟨u,w',T,g2,g3⟩:=zb (ty:=ty) (c1:=[]) (olds:=[]) (n1:=0) (cap0:=0) (A:=A) S' hkn hu hi X f (by rw[e1,f]) (fun w' _=>by
       cases A with
       | none=>exact run_firstCells_none (P:=P) w' y.sz 0 0 0
       | some a=>exact run_firstCells_some (P:=P) w' y.sz 0 a 0 0 [] (by simp) (fun j v K=>by simp at K)) (by simp) Y ht m (by simp[RepCs]) rfl I C (by omega) (by omega) (by rw[←hb'] at q2;exact q2) hX
     refine⟨u,w',T,OpDone.after (ups:=[(b,none)]) (by rw[F];exact kill) ?_ g3⟩
     rw[F];simpa[Vb] using g2
   ·rcases hr with hr | ⟨kk,o,rfl,hr⟩
    ·exact absurd hr hc0
    ·rcases hr with hr | ⟨r1,r2,r3⟩
     ·simp[hd] at hr
     ·rcases S.blk b y hb hd hmp with⟨hn',_⟩ | ⟨k',o',cs,ty',fr,hβ',T,g2,g3,g4,g5,g6⟩
      ·rw[r1] at hn';simp at hn'
      ·rw[r1] at hβ';simp at hβ';obtain⟨rfl,rfl⟩:=hβ'
       have hbs:=E8 T
       have L:=((g4.1 c1).drop off).take (n*y.sz)
       have M:((y.cells.drop off).take (n*y.sz)).length=n*y.sz:=by simp;omega
       by_cases G:n+new.2.1≤cap
       ·
        have hle:(n+new.2.1)*y.sz≤cap*y.sz:=Nat.mul_le_mul_right _ G
        rw[Nat.add_mul] at hle
        have run:=run_append_room_src (P:=P) w t tx ty V i hu hi kk (o+off) n cap vx new.2.1 us (by rw[f];exact Y.src ht m) G (fun j hj=>by
          rw[f,Vd T];have:=Y.length;simp;omega) (fun j hj=>by
          rw[f];simp only[World.frozen?,T]
          have h9:=Y.length
          have:=g2.1.at (o+off+n*y.sz+j) (by omega)
          cases fr;simp at this ⊢;omega)
        rw[f] at run
        obtain⟨cs',O,hO⟩:=OnlyBlk.setCells (k:=kk) us (o+off+n*y.sz) w cs T
        have h9:=Y.length
        have B:=Step.move (y:={ y with dead:=true,pure:=true,cells:=[] }) (o':=o+off) (x':={ dead:=false,sealed:=false,pure:=true,taint:=y.taint||new.2.2,sz:=y.sz,cells:=(y.cells.drop off).take (n*y.sz)++new.1,ty:=tw P g V tx (.own b off n) }) S hb hd c2 r1 hn rfl O rfl rfl
         (by rw[List.length_append,M,C];omega) ⟨fun _=>by
          show RepCs (J (y.taint||new.2.2)) w ((y.cells.drop off).take (n*y.sz)++new.1) _ 0
          rw[B4]
          intro j q hj
          rw[List.getElem?_append,M] at hj
          simp only[Nat.zero_add]
          by_cases hjn:j<n*y.sz
          ·rw[if_pos hjn] at hj
           obtain⟨v,K,hvr⟩:=L.at hj
           refine⟨v,?_,RepC.keep (J:=J y.taint) (w:=w) (gN S.jft _ _) (fun _ _=>rfl) hvr⟩
           rw[hO,if_neg (by omega),Nat.add_assoc];exact K
          ·rw[if_neg hjn] at hj
           obtain⟨v,K,hvr⟩:=I.at hj
           refine⟨v,?_,hvr⟩
           have:j - n*y.sz<us.length:=(List.getElem?_eq_some_iff.1 K).1
           rw[hO,if_pos (by omega),←K];congr 1;omega,fun hp=>by simp at hp⟩ hmp (hty:=A6a (P:=P) (tx:=tx) (n:=n) hy g2.2)
        refine⟨_,_,run,J,(fun b=>if b=nid d then some (kk,o+off) else β b),?_,?_⟩
        ·rw[Da,F];exact B
        ·rw[Da,F,Rep]
         refine⟨_,_,cap,⟨by simp[Vb,Al,Ah];rfl,rfl⟩,rfl,G,.inr ⟨kk,o+off,rfl,.inr ⟨by simp,?_,?_⟩⟩⟩
         ·rw[E8 O.new,O.sz];simp;omega
         ·simp only[List.length_append,M,C,h9,Nat.zero_add];rw[Nat.add_mul];exact Nat.le_refl _
       ·
        obtain⟨olds,l1,l2,l3⟩:=L.list
        obtain⟨u,w',g1',g2',g3'⟩:=zb (ty:=ty) (c1:=(y.cells.drop off).take (n*y.sz)) (olds:=olds) (n1:=n) (cap0:=cap) (A:=some ⟨kk,o+off,none⟩) kill.sim hkn hu hi X f (by rw[e1,f]) (fun w' he =>
          run_firstCells_some (P:=P) w' y.sz n _ n cap olds (by rw[l1,M]) (fun j v K=>by
           rw[he,Addr.add_mid,Vd T,Nat.add_assoc];exact l2 j v K)) (by rw[l1,M]) Y ht m
          (RepCs.keep (J:=J y.taint) (w:=w) (gN S.jft _ _) (fun _ _=>rfl) (fun _=>rfl) l3) l1.symm I C (by omega) (by omega) (by rw[←hb'] at q2;exact q2) hX
        refine⟨u,w',g1',OpDone.after (ups:=[(b,none)]) (by rw[F];exact kill) ?_ g3'⟩
        rw[F];exact g2'
  ·simp at l
 ·simp at hh
end
end Gx

namespace Gx
open Go
section
variable {R:Type} {r:R} {P:Program} {J J':Bool→Nat→Prop} {β:Cp} {h:Aj} {w w':World} {g:Bj}
theorem Step.retaint (S:SimH J β h w) {d:Nat} {x:Blk} (A:Am h d=some x) (u:x.dead=false) (hs:x.sealed=false) (hp:x.pure=true) (v:x.mp=false) (o:Bool) :
  Step J β h w J β (Gg h d { x with taint:=x.taint||o }) w:=by
 have E:Ext J β h w J β (Gg h d { x with taint:=x.taint||o }) w:=by
  refine⟨fun _ _ s=>s,fun o k s=>rfl,fun b z f=>?_,fun b k o t=>Nat.le_refl _⟩
  by_cases e:b=d
  ·subst e;rw[A] at f;simp at f;subst f
   exact⟨{ x with taint:=x.taint||o },⟨by rw[Ah,if_pos rfl],rfl⟩,.inr ⟨u,rfl,rfl,fun _=>rfl⟩⟩
  ·refine⟨z,⟨by rw[Ah,if_neg e];exact f,rfl⟩,?_⟩
   cases u:z.dead
   ·exact .inr ⟨rfl,rfl,rfl,fun _=>rfl⟩
   ·exact .inl rfl
 refine⟨E,⟨S.jlt,S.jft,S.gl.ext E,fun b z f i C=>?_,fun b z f i C=>by
   rw[Ah] at f
   by_cases e:b=d
   ·rw[if_pos e] at f;simp at f;subst f;simp[v] at C
   ·rw[if_neg e] at f
    exact(S.mblk b z f i C).keep rfl (fun k o t=>rfl) (fun _ _ _ _ s=>s),?_⟩,rfl,rfl,rfl,Nat.le_refl _,fun k hk _=>rfl,?_,fun _ _ s=>.inl s⟩
 ·rw[Ah] at f
  by_cases e:b=d
  ·rw[if_pos e] at f;simp at f;subst f;subst e
   rcases S.blk b x A u v with j | ⟨k,o',l,m,n,j,D,F,G,I,K,h7⟩
   ·exact .inl j
   ·refine .inr ⟨k,o',l,m,n,j,D,F,G,CellsRep.ext E ⟨fun _=>?_,fun L=>?_⟩,fun _=>K hs,fun L=>by simp[hs] at L⟩
    ·exact RepCs.keep (J:=J x.taint) (w:=w) (gN S.jft _ _) (fun _ _=>rfl) (fun _=>rfl) (I.1 hp)
    ·simp[hp] at L
  ·rw[if_neg e] at f
   rcases S.blk b z f i C with j | ⟨k,o,l,m,n,j,D,F,G,I,K,h7⟩
   ·exact .inl j
   ·exact .inr ⟨k,o,l,m,n,j,D,F,G,I.ext E,K,h7⟩
 ·intro b b' z z' k oo M f O T U q t V
  have get:∀ {c y},Am (Gg h d { x with taint:=x.taint||o }) c=some y→y.dead=false→∃ X,Am h c=some X∧X.dead=false∧(y.sealed=false→X.sealed=false):=by
   intro c y Y hyd
   rw[Ah] at Y
   by_cases e:c=d
   ·subst e;exact⟨x,A,u,fun _=>hs⟩
   ·rw[if_neg e] at Y;exact⟨y,Y,hyd,id⟩
  obtain⟨y1,g1,g2,g3⟩:=get f T
  obtain⟨y2,g4,g5,g6⟩:=get O U
  exact S.sep b b' y1 y2 k oo M g1 g4 g2 g5 (g3 q) t V
 ·rintro k ⟨b,z,o,f,i,q,t⟩ hk
  rw[Ah] at f
  by_cases e:b=d
  ·subst e;exact⟨b,x,o,A,u,hs,t⟩
  ·rw[if_neg e] at f
   exact⟨b,z,o,f,i,q,t⟩
theorem zd (c:LA) (off:Nat):C4 c off []=c:=by simp[C4]
theorem Ar9 {t tx ty:TypeId} {s x:AV} {vs vx:Value} {k:AV→Fy→O R} (S:SimH J β h w) (hl:Looks g h) (I:Aj1 P g t s x k=some r) (hs:Rep J β h w s vs) (hx:Rep J β h w x vx) :
  ∃ val ups,k val ups=some r∧∃ u w',(Builtin.copy_ #[t,tx] ty #[vs,vx]).run P w=.ok u w'∧OpDone J β h w ups val u w':=by
 unfold Aj1 at I
 split at I
 ·rename_i el b off n i
  obtain⟨sz,f,h1⟩:=ub I
  obtain⟨y,hy,h2⟩:=ub h1
  obtain⟨new,us,h3,Y,K,l⟩:=SL (P:=P) S hl h2 hx
  obtain⟨hc,h4⟩:=uc h3
  simp at hc
  obtain⟨c1,c2,c3⟩:=hc
  subst c3
  obtain⟨hb,L⟩:=Es hl hy
  have M:=RepCs.one l K.symm
  refine⟨_,_,h4,?_⟩
  rw[Rep] at hs
  obtain⟨y',A,cap,⟨v,z⟩,rfl,hcap,hr⟩:=hs
  rw[hb] at v;simp at v;subst v
  have hm:Nat.min new.2.1 n≤new.2.1:=Nat.min_le_left _ _
  have c:=Y.cells w (Nat.min new.2.1 n) (fun _=>rfl) hm
  have d:=Y.len w
  by_cases C:Nat.min new.2.1 n*y.sz=0
  ·
   refine⟨.int .i64 (Nat.min new.2.1 n:Nat),w,?_,J,β,?_,by rw[Rep]⟩
   ·have e:us.take (Nat.min new.2.1 n*y.sz)=[]:=by rw[C];rfl
    rw[e] at c
    cases A with
    | none=>simp[Builtin.copy_,run_underlying i,d,D1 f,c,goInt]
    | some a=>simp[Builtin.copy_,run_underlying i,d,D1 f,c,goInt,storeCells]
   ·have e:(new.1.take (min new.2.1 n*y.sz))=[]:=by
     have:min new.2.1 n*y.sz=0:=C
     rw[this];rfl
    have T:=Step.retaint S hb L c2 c1 z new.2.2
    simp only[Al]
    rw[e,zd]
    exact T
  ·rcases hr with hr | ⟨kk,o,rfl,hr⟩
   ·have:n=0:=by omega
    subst this;simp at C
   ·rcases hr with hr | ⟨r1,r2,r3⟩
    ·simp[L] at hr
    ·rcases S.blk b y hb L z with⟨U,_⟩ | ⟨k',o',cs,ty',fr,D,g1,g2,g3,g4,g5,g6⟩
     ·rw[r1] at U;simp at U
     ·rw[r1] at D;simp at D;obtain⟨rfl,rfl⟩:=D
      have hle1:Nat.min new.2.1 n*y.sz≤new.2.1*y.sz:=Nat.mul_le_mul_right _ hm
      have hle2:Nat.min new.2.1 n*y.sz≤n*y.sz:=Nat.mul_le_mul_right _ (Nat.min_le_right _ _)
      have hul':=Y.length
      have htl:(us.take (Nat.min new.2.1 n*y.sz)).length=Nat.min new.2.1 n*y.sz:=by rw[List.length_take];omega
      have V:(new.1.take (Nat.min new.2.1 n*y.sz)).length=Nat.min new.2.1 n*y.sz:=by rw[List.length_take];omega
      obtain⟨cs',O,hO⟩:=OnlyBlk.setCells (k:=kk) (us.take (Nat.min new.2.1 n*y.sz)) (o+off) w cs g1
      have X:=run_storeCells_cells (P:=P) kk (o+off) (us.take (Nat.min new.2.1 n*y.sz)) 0 w (fun j G=>by
        rw[Nat.add_zero,Vd g1];simp;omega)
       (fun j G=>by
        rw[Nat.add_zero];simp only[World.frozen?,g1]
        have:=g2.1.at (o+off+j) (by omega)
        cases fr;simp at this ⊢;omega) (fun u i=>M u (List.mem_of_mem_take i))
      simp only[Nat.add_zero] at X
      have B:=Step.set (x':={ y with cells:=C4 y.cells off (new.1.take (Nat.min new.2.1 n*y.sz)),taint:=y.taint||new.2.2 }) S hb L c2 r1 O L c2 rfl (Yz (by omega)) ⟨fun _=>by
       show RepCs (J (y.taint||new.2.2)) w (C4 y.cells off (new.1.take (Nat.min new.2.1 n*y.sz))) _ 0
       rw[B4]
       intro j q G
       rw[SN (by omega),V] at G
       simp only[Nat.zero_add]
       split at G
       ·obtain⟨u,F,hr⟩:=(l.take _).at G
        refine⟨u,?_,RepC.keep (J:=J new.2.2) (w:=w) (zc S.jft _ _) (fun _ _=>rfl) hr⟩
        rw[hO,if_pos (by omega),List.getElem?_take,if_pos (by omega),←F];congr 1;omega
       ·obtain⟨u,F,hr⟩:=(g4.1 c1).at G
        refine⟨u,?_,RepC.keep (J:=J y.taint) (w:=w) (gN S.jft _ _) (fun _ _=>rfl) hr⟩
        rw[hO,if_neg (by omega)];exact F,fun hp=>by simp[c1] at hp⟩ z
      refine⟨.int .i64 (Nat.min new.2.1 n:Nat),_,?_,J,β,B,by rw[Rep]⟩
      simp[Builtin.copy_,run_underlying i,d,D1 f,c,goInt,X]
 ·rename_i el i
  obtain⟨sz,f,h1⟩:=ub I
  obtain⟨new,us,h2,Y,K,l⟩:=SL (P:=P) S hl h1 hx
  rw[Rep] at hs;subst hs
  have d:=Y.len w
  have c:=Y.cells w 0 (fun _=>rfl) (Nat.zero_le _)
  simp at c
  refine⟨_,_,h2,.int .i64 0,w,?_,J,β,Step.refl S,by rw[Rep]⟩
  have hm:∀ m:Nat,Nat.min m 0=0:=fun m=>Nat.min_eq_right (Nat.zero_le _)
  simp[Builtin.copy_,run_underlying i,d,D1 f,hm,c,goInt]
 ·simp at I
theorem Ann {t ty:TypeId} {s:AV} {vs:Value} {k:AV→Fy→O R} (S:SimH J β h w) (hl:Looks g h) (hh:sG P g t s k=some r) (hs:Rep J β h w s vs) :
  ∃ val ups,k val ups=some r∧∃ u w',(Builtin.clear_ #[t] ty #[vs]).run P w=.ok u w'∧OpDone J β h w ups val u w':=by
 unfold sG at hh
 split at hh
 ·rename_i el b off n D
  obtain⟨sz,G,h1⟩:=ub hh
  obtain⟨z,hz,h2⟩:=ub h1
  obtain⟨y,hy,h3⟩:=ub h2
  obtain⟨hc,h4⟩:=uc h3
  simp at hc
  obtain⟨c1,c2,c3⟩:=hc
  subst c3
  obtain⟨hb,I⟩:=Es hl hy
  obtain⟨i,v,hi,hv,rfl,hp,e1,e2⟩:=Xp hz
  have K:i.size=y.sz:=by simp[Ca,hi] at G;exact G
  have L:∀ w,(zeroValue el).run P w=.ok v w:=fun w=>by simp[zeroValue,typeInfo,hi,hv]
  have c:=G6 n (Ol v.cells.toList)
  rw[e2,K] at c
  have M:Builtin.zeroCells v.cells n=madeCells v.cells (n*v.cells.size):=rfl
  have U:(Builtin.zeroCells v.cells n).toList.length=n*y.sz:=by rw[M,Array.length_toList,size_madeCells,e1,K]
  have V:RepCs (J y.taint) w (F1 n (Ol v.cells.toList)) (fun j=>(Builtin.zeroCells v.cells n).toList[j]?) 0:=by
   have:=SQ (J:=J y.taint) (w:=w) hp n (n*v.cells.size) (Nat.le_refl _)
   rw[←M] at this
   simpa using this
  have X:=RepCs.one V (by rw[U,c])
  refine⟨_,_,h4,?_⟩
  rw[Rep] at hs
  obtain⟨y',A,cap,⟨f,l⟩,rfl,hcap,hr⟩:=hs
  rw[hb] at f;simp at f;subst f
  by_cases d:n*y.sz=0
  ·have e0:(Builtin.zeroCells v.cells n).toList=[]:=List.eq_nil_of_length_eq_zero (by rw[U,d])
   refine⟨.tuple #[],w,?_,J,β,?_,by rw[Rep];exact⟨[],rfl,by rw[Reps]⟩⟩
   ·cases n with
    | zero=>cases A<;>simp[Builtin.clear_,run_underlying D]
    | succ n =>
     cases A with
     | none=>simp[Builtin.clear_,run_underlying D]
     | some a=>simp[Builtin.clear_,run_underlying D,L,e0,storeCells]
   ·have e:F1 n (Ol v.cells.toList)=[]:=List.eq_nil_of_length_eq_zero (by rw[c,d])
    have T:=Step.retaint S hb I c2 c1 l false
    simp only[Al]
    rw[e,zd]
    simpa using T
  ·rcases hr with hr | ⟨kk,o,rfl,hr⟩
   ·have:n=0:=by omega
    subst this;simp at d
   ·rcases hr with hr | ⟨r1,r2,r3⟩
    ·simp[I] at hr
    ·rcases S.blk b y hb I l with⟨Y,_⟩ | ⟨k',o',cs,ty',fr,m,g1,g2,g3,g4,g5,g6⟩
     ·rw[r1] at Y;simp at Y
     ·rw[r1] at m;simp at m;obtain⟨rfl,rfl⟩:=m
      obtain⟨cs',O,hO⟩:=OnlyBlk.setCells (k:=kk) (Builtin.zeroCells v.cells n).toList (o+off) w cs g1
      have hst:=run_storeCells_cells (P:=P) kk (o+off) (Builtin.zeroCells v.cells n).toList 0 w (fun j F=>by
        rw[Nat.add_zero,Vd g1];simp;omega)
       (fun j F=>by
        rw[Nat.add_zero];simp only[World.frozen?,g1]
        have:=g2.1.at (o+off+j) (by omega)
        cases fr;simp at this ⊢;omega) (fun u D=>X u D)
      simp only[Nat.add_zero] at hst
      have B:=Step.set (x':={ y with cells:=C4 y.cells off (F1 n (Ol v.cells.toList)) }) S hb I c2 r1 O I c2 rfl (Yz (by omega)) ⟨fun _=>by
       show RepCs (J y.taint) w (C4 y.cells off (F1 n (Ol v.cells.toList))) _ 0
       rw[B4]
       intro j q F
       rw[SN (by omega),c] at F
       simp only[Nat.zero_add]
       split at F
       ·obtain⟨u,C,hr⟩:=V.at F
        refine⟨u,?_,hr⟩
        rw[hO,if_pos (by omega),←C];congr 1;omega
       ·obtain⟨u,C,hr⟩:=(g4.1 c1).at F
        refine⟨u,?_,hr⟩
        rw[hO,if_neg (by omega)];exact C,fun hp=>by simp[c1] at hp⟩ l
      refine⟨.tuple #[],_,?_,J,β,B,by rw[Rep];exact⟨[],rfl,by rw[Reps]⟩⟩
      cases n with
      | zero=>simp at d
      | succ n=>simp[Builtin.clear_,run_underlying D,L,hst]
 ·simp at hh
theorem iq:∀ {c:LA} {s:List UInt8} {us:List Value} {J:Nat→Prop},IY c=some s→RepCs J w c (fun j=>us[j]?) 0→c.length=us.length →
  ∃ ns:List Int,us=ns.map (Value.int .u8)∧s=ns.map (fun n=>UInt8.ofNat n.toNat)
 | [],s,us,J,i,m,q=>by
  simp[IY] at i;subst i
  have:us=[]:=by cases us<;>simp_all
  exact⟨[],by simp[this],rfl⟩
 | x::r,s,us,J,i,m,q=>by
  rw[IY] at i
  obtain⟨b,d,D⟩:=ub i
  obtain⟨l,t,A⟩:=ub D
  simp at A;subst A
  cases us with
  | nil=>simp at q
  | cons u us =>
   rw[RepCs] at m
   obtain⟨⟨K,k,hr⟩,e⟩:=m
   simp at k;subst k
   unfold A5y at d
   split at d
   ·rename_i n
    simp at d;subst d
    rw[RepC] at hr;subst hr
    have f:RepCs J w r (fun j=>us[j]?) 0:=by
     rw[B4] at e ⊢
     intro j y F
     obtain⟨v,C,z⟩:=e j y F
     refine⟨v,?_,z⟩
     rw[show 0+1+j=j+1 by omega] at C
     simpa using C
    obtain⟨ns,G,I⟩:=iq t f (by simpa using q)
    exact⟨n::ns,by simp[G],by simp[I]⟩
   ·simp at d
theorem A6b:∀ (ns:List Int) (s:List UInt8),(ns.foldl (fun r n=>r.push (UInt8.ofNat n.toNat)) (⟨⟨s⟩⟩:ByteArray))=⟨⟨s++ns.map fun n=>UInt8.ofNat n.toNat⟩⟩
 | [],s=>by simp
 | n::r,s=>by
  rw[List.foldl_cons]
  have:(⟨⟨s⟩⟩:ByteArray).push (UInt8.ofNat n.toNat)=⟨⟨s++[UInt8.ofNat n.toNat]⟩⟩:=by
   simp[ByteArray.push]
  rw[this,A6b r];simp
theorem Asa {d:Nat} {src dst:TypeId} {x:AV} {vx:Value} {k:AV→Fy→O R} (S:SimH J β h w) (hl:Looks g h) (c:Aj2 P g d src dst x k=some r) (f:Rep J β h w x vx) :
  ∃ val ups,k val ups=some r∧(UpsFree d h ups→∃ u w',(convert src dst vx).run P w=.ok u w'∧OpDone J β h w ups val u w'):=by
 unfold Aj2 at c
 split at c
 ·rename_i kd t
  split at c
  ·rename_i kd' n
   rw[Rep] at f;subst f
   obtain⟨y,I⟩:=uc c
   obtain⟨s,hs⟩:=Option.isSome_iff_exists.1 y
   refine⟨_,_,I,fun _=>⟨.int kd (kd.wrap n),w,?_,J,β,Step.refl S,by rw[Rep]⟩⟩
   cases s<;>simp[convert,run_underlying hs,run_underlying t,Conv.intToInt]
  ·simp at c
 ·rename_i t
  split at c
  ·rename_i hs
   split at c
   ·rename_i s
    rw[Rep] at f;subst f
    refine⟨_,_,c,fun _=>⟨.string ⟨⟨s⟩⟩,w,?_,J,β,Step.refl S,by rw[Rep]⟩⟩
    simp[convert,run_underlying hs,run_underlying t]
   ·simp at c
  ·rename_i m hs
   split at c
   ·rename_i K
    split at c
    ·simp at c
    ·rename_i hns
     obtain⟨q,hq,I⟩:=ub c
     obtain⟨s,hs',h2⟩:=ub I
     obtain⟨us,Y,hul,hur⟩:=uE (P:=P) S hl hq f
     obtain⟨ns,e1,e2⟩:=iq hs' hur hul
     refine⟨_,_,h2,fun _=>⟨.string ⟨⟨s⟩⟩,w,?_,J,β,Step.refl S,by rw[Rep]⟩⟩
     have hv:∃ A n cap,vx=.slice A n cap:=by
      unfold VY at hq
      split at hq
      ·rw[Rep] at f;exact⟨_,_,_,f⟩
      ·rw[Rep,RepC] at f;obtain⟨_,A,cap,rfl,_⟩:=f;exact⟨_,_,_,rfl⟩
      ·rw[Rep] at f;obtain⟨_,A,cap,_,rfl,_⟩:=f;exact⟨_,_,_,rfl⟩
      ·exact absurd rfl (hns _)
      ·simp at hq
     obtain⟨A,n,cap,rfl⟩:=hv
     have hn:q.2.1=n:=by have:=Y.len w;simpa[Builtin.lenOf] using this.symm
     have F:=Y.cells w n (fun _=>rfl) (by omega)
     have L:=Y.length
     rw[hn] at L
     rw[show us.take (n*1)=us by rw[←L,List.take_length]] at F
     have z:(convert src dst (.slice A n cap)).run P w=(Conv.bytesToString (.slice A n cap)).run P w:=by
      cases A<;>simp[convert,run_underlying hs,run_underlying t,run_underlying K]
     rw[z]
     cases A with
     | none =>
      rw[run_firstCells_none] at F
      injection F with hc1 _
      have hus:us=[]:=by simpa using hc1.symm
      rw[hus] at e1
      have M:ns=[]:=by simpa using e1.symm
      rw[M] at e2
      simp at e2;subst e2
      simp[Conv.bytesToString];rfl
     | some a =>
      simp only[Builtin.firstCells,Nat.mul_one] at F
      rw[e1] at F
      rw[run_bytesToString w a n cap ns F,e2]
      have:=A6b ns []
      simp at this
      rw[←this];rfl
   ·simp at c
  ·simp at c
 ·rename_i m t
  split at c
  ·rename_i e' b off n hs K
   obtain⟨i,I⟩:=uc c
   simp only[Bool.and_eq_true] at i
   obtain⟨i,T⟩:=i
   have T:1≤n:=by simpa using T
   have i:=Nat.eq_of_beq_eq_true i
   subst i
   have hee:e'=m:=by rw[hs] at t;simpa using t
   subst hee
   obtain⟨x,l,h2⟩:=ub I
   obtain⟨hsl,h3⟩:=Aya h2
   obtain⟨l,hd⟩:=Es hl l
   refine⟨_,_,h3,fun _=>?_⟩
   have hx':=f
   rw[Rep] at f
   obtain⟨x0,A,cap,⟨C,U⟩,rfl,hle,hr⟩:=f
   rw[l] at C;simp at C;subst C
   rcases hr with hr | ⟨V,o1,rfl,hr⟩
   ·omega
   ·rcases hr with hr | ⟨hβ,_,_⟩
    ·simp[hd] at hr
    ·rcases S.blk b x l hd U with⟨G,_⟩ | ⟨k2,o2,cs,ty,fr,G,h5,X,h7,h8,h9,h10⟩
     ·rw[hβ] at G;simp at G
     ·rw[hβ] at G;simp at G;obtain⟨rfl,rfl⟩:=G
      have hsh:w.shape? V=some (ty,cs.size):=by simp[World.shape?,h5]
      have hnew:∃ D,(w.freeze ⟨V,cs.size,none⟩ 1).heap[V]?=some (.cells cs ty D)∧FrOk cs.size D:=by
       obtain⟨lo,hi⟩:=fr
       refine⟨if lo==hi then (cs.size,cs.size+1) else (min lo cs.size,max hi (cs.size+1)),?_,?_⟩
       ·simp[World.freeze,Array.getElem?_modify,h5]
       ·by_cases e:lo=hi
        ·simp[e,FrOk]
        ·have h11:cs.size≤lo:=by rcases X with X | X;exact absurd X e;exact X
         simp[e,FrOk];omega
      obtain⟨D,hf1,hf2⟩:=hnew
      have A:=Step.mark S l hd hsl hβ h5 hf1 hf2 (fun j v=>by
       simp only[World.freeze]
       rw[if_neg (by decide)]
       show(w.heap.modify V _)[j]?=_
       rw[Array.getElem?_modify,if_neg (fun e=>v e.symm)]) (by simp[World.freeze]) rfl rfl rfl U
      refine⟨_,w.freeze ⟨V,cs.size,none⟩ 1,?_,J,β,A,Rep.ext A.ext hx'⟩
      simp[convert,run_underlying hs,run_underlying K,markStringish,hsh]
  ·rename_i s hs K
   rw[Rep] at f;subst f
   refine⟨_,_,c,fun hn=>⟨_,_,run_bytes_of_string (P:=P) w src dst m ⟨⟨s⟩⟩ hs t K,?_⟩⟩
   replace hn:=hn.nid (by simp[Vb,Be])
   have hsz:(⟨⟨s⟩⟩:ByteArray).size=s.length:=rfl
   have hcap:s.length≤grownCap w s.length 0 m:=by unfold grownCap;simp[Question.cut]
   rw[hsz]
   obtain⟨J',β',B1,B2⟩:=nO (d:=d) (n:=s.length) (cap:=grownCap w s.length 0 m) (sz:=1) (ty:=m) (fr:=((bytesRow ⟨⟨s⟩⟩ (grownCap w s.length 0 m)).size,(bytesRow ⟨⟨s⟩⟩ (grownCap w s.length 0 m)).size+1))
    (x:={ dead:=false,sealed:=false,pure:=true,taint:=false,sz:=1,cells:=s.map fun b=>.int .u8 (b.toNat:Int) })
    (cs:=bytesRow ⟨⟨s⟩⟩ (grownCap w s.length 0 m)) (Step.drew S).sim hn rfl rfl rfl (FrOk.un (.inr (Nat.le_refl _))) (by simp) (by simp[bytesRow,hsz];omega) hcap
    ⟨fun _=>by
     show RepCs (J false) w.drew (s.map fun b=>.int .u8 (b.toNat:Int)) _ 0
     rw[B4]
     intro j q v
     rw[List.getElem?_map] at v
     cases hb:s[j]? with
     | none=>rw[hb] at v;simp at v
     | some b =>
      rw[hb] at v;simp at v;subst v
      refine⟨.int .u8 (b.toNat:Int),?_,by rw[RepC]⟩
      have hlt:j<s.length:=(List.getElem?_eq_some_iff.1 hb).1
      simp only[Nat.zero_add,bytesRow]
      rw[Array.getElem?_append_left (by simp;exact hlt)]
      simp[hb],fun hp=>by simp at hp⟩
   exact⟨J',β',(Step.drew S).trans B1 (fun _ k _ _=>by rw[←SR];exact Tr _ _ k),B2⟩
  ·simp at c
 ·simp at c
theorem ze {t:TypeId} {n:Nat} (h:Ca P t=some n):∃ j,P.info? t=some j∧j.size=n:=by
 unfold Ca at h
 cases hq:P.info? t with
 | none=>rw[hq] at h;cases h
 | some j=>rw[hq] at h;simp at h;exact⟨j,rfl,h⟩
theorem Ano {d:Nat} {src dst:TypeId} {x:AV} {vx:Value} {k:AV→Fy→O R} (S:SimH J β h w) (D:Looks g h) (c:sH P g d src dst x k=some r) (m:Rep J β h w x vx) :
  ∃ val ups,k val ups=some r∧(UpsFree d h ups→∃ u w',(convert src dst vx).run P w=.ok u w'∧OpDone J β h w ups val u w'):=by
 unfold sH at c
 split at c
 ·rename_i F
  split at c
  ·rename_i t b off hs
   obtain⟨n,hn,c⟩:=ub c
   obtain⟨y,G,c⟩:=ub c
   obtain⟨z,c⟩:=uc c
   simp at z
   obtain⟨l,f⟩:=Es D G
   have s:=m
   rw[Rep] at m
   obtain⟨x1,I,o1,⟨v,gm⟩,rfl,i⟩:=m
   rw[l] at v;simp at v;subst v
   rcases i with i | i
   ·rw[i] at f;cases f
   obtain⟨j,K,A⟩:=ze hn
   rcases S.blk b y l f gm with⟨e1,C⟩ | ⟨M,o2,cs,ty,fr,e1,C,e3,e4,T⟩
   ·rw[i] at e1;cases e1
   ·rw[i] at e1;simp at e1;obtain⟨rfl,rfl⟩:=e1
    refine⟨_,_,c,fun _=>⟨_,w,Lib.run_to_unsafe w ⟨I,o1+off,none⟩ hs F K (by rw[A];exact fun e=>by rw[e] at z;simp at z) (e:=ty) (cells:=cs.size) (by simp[World.shape?,C]) (by show o1+off<_;omega),J,β,Step.refl S,s⟩⟩
  ·cases c
 ·rename_i u F
  split at c
  ·rename_i b off hs
   obtain⟨n,hn,c⟩:=ub c
   obtain⟨y,G,c⟩:=ub c
   obtain⟨q,hq,c⟩:=ub c
   obtain⟨z,c⟩:=uc c
   simp at z
   obtain⟨l,f⟩:=Es D G
   have s:=m
   rw[Rep] at m
   obtain⟨x1,I,o1,⟨v,gm⟩,rfl,i⟩:=m
   rw[l] at v;simp at v;subst v
   rcases i with i | i
   ·rw[i] at f;cases f
   obtain⟨j,K,A⟩:=ze hn
   rcases S.blk b y l f gm with⟨e1,C⟩ | ⟨M,o2,cs,ty,fr,e1,C,e3,e4,T⟩
   ·rw[i] at e1;cases e1
   ·rw[i] at e1;simp at e1;obtain⟨rfl,rfl⟩:=e1
    obtain⟨rfl,rfl,L⟩:=e3.2 q.1 q.2 hq
    have L:cs.size=q.2:=by omega
    refine⟨_,_,c,fun _=>⟨_,w,Lib.run_from_unsafe w ⟨I,0+off,none⟩ hs F K (e:=q.1) (cells:=cs.size) (by simp[World.shape?,C]) (by show liesAt P P.depth q.1 (cs.size/_) (0+off) u 1=true;rw[L,Nat.zero_add];exact z.2.2),J,β,Step.refl S,s⟩⟩
  ·cases c
 ·exact Asa S D c m
end
end Gx

namespace Gx
open Go
section
variable {R:Type} {r:R} {P:Program} {J J':Bool→Nat→Prop} {β:Cp} {h:Aj} {w w':World} {g:Bj}
theorem Ayd {fn : Func} (b : fn.name = "internal/abi.NoEscape") : Extern.find fn = some Extern.AbiNoEscape.same := by
 have l1 : Extern.allGenericRows.lookup "internal/abi.NoEscape" = none := by kernel_rfl
 have l2 : Extern.allTypedRows.lookup "internal/abi.NoEscape" = none := by kernel_rfl
 have l3 : Extern.allRows.lookup "internal/abi.NoEscape" = some Extern.AbiNoEscape.same := by kernel_rfl
 unfold Extern.find
 simp only[b,l1,l2,l3]
 rfl
theorem zf {fn : Func} (b : fn.name = "internal/abi.NoEscape") (c : fn.origin = "") : Extern.findNext fn = none := by
 have l1 : Extern.allNextRows.lookup "internal/abi.NoEscape" = none := by kernel_rfl
 have l2 : Extern.allNextRows.lookup "" = none := by kernel_rfl
 unfold Extern.findNext
 simp only[b,c,l1,l2]
 rfl
theorem A3l {f:Nat} (h:A55 P f=true) (x:Value) (w:World):(callFunc f #[x]).run P w=.ok (.value x) w:=by
 unfold A55 at h
 split at h
 ·rename_i fn c
  simp only[Bool.and_eq_true] at h
  obtain⟨d,hn,b⟩:=h
  have hn : fn.name = "internal/abi.NoEscape" := by simpa using hn
  have b : fn.origin = "" := by simpa using b
  rw[run_callFunc_extern c (by rw[hn];decide) d (zf hn b) (Ayd hn)]
  rfl
 ·cases h
theorem Aye {x:AV} {b:UInt8} (h:yy x=some b):x=.int .u8 (b.toNat:Int):=by
 unfold yy at h
 split at h
 ·rename_i n
  obtain⟨d,c⟩:=uc h
  simp at c;subst c
  have:=of_decide_eq_true d
  rw[this]
 ·cases h
theorem bK:∀ {c:LA} {s:List UInt8},Z2 c=some s→c=s.map fun b=>.int .u8 (b.toNat:Int)
 | [],s,h=>by simp[Z2] at h;subst h;rfl
 | x::r,s,h=>by
  rw[Z2] at h
  obtain⟨b,d,h⟩:=ub h
  obtain⟨l,e,h⟩:=ub h
  simp at h;subst h
  rw[Aye d,bK e];rfl
theorem sP {d:Nat} {ts:Array TypeId} {ty:TypeId} {x:AV} {vx:Value} {k:AV→Fy→O R} (S:SimH J β h w) (m:Looks g h) (c:Xm g x k=some r) (j:Rep J β h w x vx) :
  ∃ val ups,k val ups=some r∧(UpsFree d h ups→∃ u w',(Builtin.unsafeSliceData_ ts ty #[vx]).run P w=.ok u w'∧OpDone J β h w ups val u w'):=by
 unfold Xm at c
 split at c
 ·rw[Rep] at j;subst j
  exact⟨_,_,c,fun _=>⟨.pointer none,w,rfl,J,β,Step.refl S,by rw[Rep]⟩⟩
 ·rename_i b off n
  obtain⟨y,q,c⟩:=ub c
  obtain⟨hn,c⟩:=uc c
  have hn:0<n:=by simpa using hn
  obtain⟨f,i⟩:=Es m q
  rw[Rep] at j
  obtain⟨z,A,cap,⟨l,gm⟩,rfl,t,e⟩:=j
  rw[f] at l;simp at l;subst l
  rcases e with e | ⟨s,o1,rfl,e⟩
  ·omega
  rcases e with e | ⟨e,_⟩
  ·rw[e] at i;cases i
  refine⟨_,_,c,fun _=>⟨_,w,Lib.run_unsafeSliceData_row w ts ty _ n cap (by omega),J,β,Step.refl S,?_⟩⟩
  rw[Rep]
  exact⟨y,s,o1,⟨f,gm⟩,rfl,.inr e⟩
 ·cases c
theorem sQ {d:Nat} {t it ty:TypeId} {x n:AV} {vx vn:Value} {k:AV→Fy→O R} (S:SimH J β h w) (hl:Looks g h) (c:Xn P g t x n k=some r) (K:Rep J β h w x vx) (L:Rep J β h w n vn) :
  ∃ val ups,k val ups=some r∧(UpsFree d h ups→∃ u w',(Builtin.unsafeString_ #[t,it] ty #[vx,vn]).run P w=.ok u w'∧OpDone J β h w ups val u w'):=by
 unfold Xn at c
 split at c
 ·rename_i n
  obtain⟨hn,c⟩:=uc c
  have hn:n=0:=by simpa using hn
  subst hn
  simp only[Rep] at K L;subst K L
  exact⟨_,_,c,fun _=>⟨_,w,Lib.run_unsafeString_none w t it ty none,J,β,Step.refl S,by rw[Rep];rfl⟩⟩
 ·rename_i b off n
  obtain⟨y,hy,c⟩:=ub c
  obtain⟨q,hq,c⟩:=ub c
  split at c
  ·rename_i e he
   obtain⟨hc,c⟩:=uc c
   obtain⟨s,hs,hk⟩:=ub c
   simp only[Bool.and_eq_true,Bool.not_eq_true',decide_eq_true_eq] at hc
   obtain⟨c1,U,c3,c4,V,c6,c7,c8⟩:=hc
   have c1:=Nat.eq_of_beq_eq_true c1
   have U:=Nat.eq_of_beq_eq_true U
   have V:=Nat.eq_of_beq_eq_true V
   obtain⟨i,l⟩:=Es hl hy
   simp only[Rep] at K L;subst L
   obtain⟨z,D,o1,⟨X,gm⟩,rfl,v⟩:=K
   rw[i] at X;simp at X;subst X
   rcases v with v | v
   ·rw[v] at l;cases l
   rcases S.blk b y i l gm with⟨e1,C⟩ | ⟨k2,o2,cs,ty2,fr,e1,C,e3,e4,e5,e6⟩
   ·rw[v] at e1;cases e1
   rw[v] at e1;simp at e1;obtain⟨rfl,rfl⟩:=e1
   obtain⟨rfl,rfl,_⟩:=e3.2 q.1 q.2 hq
   subst V
   have hsl:s.length=n.toNat:=by
    have:=congrArg List.length (bK hs)
    simp at this;omega
   have Y:(n:Int)=(s.length:Int):=by omega
   subst Y
   refine⟨_,_,hk,fun _=>⟨.string ⟨s.toArray⟩,w.freeze ⟨D,0,none⟩ s.length,?_,J,β,?_,by rw[Rep]⟩⟩
   ·refine Lib.run_unsafeString_row w t it ty q.1 (by rw[c1];exact he) (by rw[c1];exact U) D cs.size (by simp[World.shape?,C]) s (by intro e;subst e;simp at c6) (by omega) (by omega) fun j x M=>?_
    have hjl:j<s.length:=(List.getElem?_eq_some_iff.1 M).1
    have A:y.cells[j]?=some (.int .u8 (x.toNat:Int)):=by
     have T:(y.cells.take (s.length:Int).toNat)[j]?=some (.int .u8 (x.toNat:Int)):=by rw[bK hs];simp[M]
     rw[List.getElem?_take] at T
     split at T
     ·exact T
     ·cases T
    obtain⟨u,m,F⟩:=B4.1 (e5.1 c3) j _ A
    rw[RepC] at F;subst F
    have m:cs[j]?=some (.int .u8 (x.toNat:Int)):=by simpa using m
    by_cases ej:j=0
    ·subst ej;simp[World.cell?,Addr.add,C,m]
    ·simp[World.cell?,Addr.add,C,ej,m]
   ·have ap:Al [(b,none)] h=Gg h b { y with dead:=true,pure:=true,cells:=[] }:=by simp[Al,i]
    rw[ap]
    have f:s.length≠0:=by omega
    refine Step.giveUp S i l c4 v gm rfl (fun j M=>?_) (by simp[World.freeze,f]) (by simp[World.freeze,f]) (by simp[World.freeze,f]) (by simp[World.freeze,f]) ?_
    ·simp only[World.freeze]
     rw[if_neg f]
     show(w.heap.modify D _)[j]?=_
     rw[Array.getElem?_modify,if_neg (fun e=>M e.symm)]
    ·obtain⟨lo,hi⟩:=fr
     have G:∃ I,(w.freeze ⟨D,0,none⟩ s.length).heap[D]?=some (.cells cs q.1 I):=⟨_,by simp[World.freeze,f,Array.getElem?_modify,C];rfl⟩
     obtain⟨I,hf⟩:=G
     rw[E8 C,E8 hf];exact Nat.le_refl _
  ·cases c
 ·cases c
end
end Gx

namespace Gx
open Go
def ST (CR:AV→Value→Prop) (c:LA) (cs:List Value):Prop:=c.length=cs.length∧∀ (j:Nat) (x:AV) (u:Value),c[j]?=some x→cs[j]?=some u→CR x u
def PartsRel (CR:AV→Value→Prop):List (Nat×LA)→List (Nat×Value)→Prop
 | [],vs=>vs=[]
 | (i,c)::r,vs=>∃ v vs',vs=(i,v)::vs'∧ST CR c v.cells.toList∧PartsRel CR r vs'
theorem A2h:∀ (vs:List Value) (n off:Nat) (cells:Array Value) (j:Nat),
  ((vs.zipIdx n).foldl (fun (cs:Array Value) (p:Value×Nat)=>cs.setIfInBounds (off+p.2) p.1) cells)[j]?=if off+n≤j∧j<off+n+vs.length∧j<cells.size then vs[j - (off+n)]? else cells[j]?
 | [],n,off,cells,j=>by simp;omega
 | v::r,n,off,cells,j=>by
  rw[List.zipIdx_cons,List.foldl_cons,A2h r (n+1) off]
  simp only[Array.size_setIfInBounds,List.length_cons]
  by_cases c:j=off+n
  ·subst c
   rw[if_neg (by omega)]
   by_cases b:off+n<cells.size
   ·rw[if_pos (by omega)];simp[b]
   ·rw[if_neg (by omega)];simp[b]
  ·by_cases b:off+(n+1)≤j∧j<off+(n+1)+r.length∧j<cells.size
   ·rw[if_pos b,if_pos (by omega),show j - (off+n)=(j - (off+(n+1)))+1 by omega];simp
   ·rw[if_neg b,if_neg (by omega),Array.getElem?_setIfInBounds_ne (by omega)]
theorem nP:∀ (vs:List Value) (n off:Nat) (cells:Array Value),((vs.zipIdx n).foldl (fun (cs:Array Value) (p:Value×Nat)=>cs.setIfInBounds (off+p.2) p.1) cells).size=cells.size
 | [],_,_,_=>rfl
 | v::r,n,off,cells=>by rw[List.zipIdx_cons,List.foldl_cons,nP r];simp
theorem OJ {CR:AV→Value→Prop} {place:Nat→Option (Nat×Nat)}:∀ {parts:List (Nat×LA)} {vparts:List (Nat×Value)} {c m:LA} {cs:Array Value},PartsRel CR parts vparts→ST CR c cs.toList →
  Ro place parts c=some m→∃ b,Instr.fill place cs vparts=some b∧ST CR m b.toList
 | [],vparts,c,m,cs,f,n,k=>by
  rw[PartsRel] at f;subst f
  simp[Ro] at k;subst k
  exact⟨cs,rfl,n⟩
 | (i,vs)::r,vparts,c,m,cs,f,n,k=>by
  rw[PartsRel] at f
  obtain⟨v,A,rfl,y,hr⟩:=f
  rw[Ro] at k
  obtain⟨p,t,C⟩:=ub k
  obtain⟨z,D⟩:=uc C
  simp at z
  obtain⟨L,M⟩:=z
  have e1:vs.length=v.cells.size:=by have:=y.1;simpa using this
  have F:c.length=cs.size:=by have:=n.1;simpa using this
  have l:p.1+vs.length≤c.length:=by omega
  have key:ST CR (setCells c p.1 vs) (v.cells.zipIdx.foldl (fun (cs:Array Value) (q:Value×Nat)=>cs.setIfInBounds (p.1+q.2) q.1) cs).toList:=by
   have d:v.cells.zipIdx.foldl (fun (cs:Array Value) (q:Value×Nat)=>cs.setIfInBounds (p.1+q.2) q.1) cs=(v.cells.toList.zipIdx 0).foldl (fun (cs:Array Value) (q:Value×Nat)=>cs.setIfInBounds (p.1+q.2) q.1) cs:=by
    rw[←Array.foldl_toList];simp
   rw[d]
   refine⟨by rw[Td l,F];exact(nP _ 0 _ _).symm,fun j x u s e=>?_⟩
   rw[SO l] at s
   rw[Array.getElem?_toList,A2h] at e
   simp only[Nat.add_zero,Array.length_toList] at e
   split at s
   ·rename_i G
    rw[if_pos (by omega)] at e
    exact y.2 _ x u s e
   ·rename_i G
    rw[if_neg (by omega)] at e
    exact n.2 j x u s (by simpa using e)
  obtain⟨b,I,K⟩:=OJ hr key D
  refine⟨b,?_,K⟩
  rw[Instr.fill,t]
  have:¬ (v.cells.size≠p.2||p.1+v.cells.size>cs.size)=true:=by simp;omega
  simp only[this]
  exact I
section
variable {R:Type} {r:R} {P:Program} {J J':Bool→Nat→Prop} {β:Cp} {h:Aj} {w w':World} {g:Bj}
def RepParts (J:Bool→Nat→Prop) (β:Cp) (h:Aj) (w:World):List (Nat×AV)→List (Nat×Value)→Prop
 | [],vs=>vs=[]
 | (i,x)::r,vs=>∃ v vs',vs=(i,v)::vs'∧Rep J β h w x v∧RepParts J β h w r vs'
theorem RepParts.ext {β':Cp} {h':Aj} (E:Ext J β h w J' β' h' w'):∀ {ps:List (Nat×AV)} {vs:List (Nat×Value)},RepParts J β h w ps vs→RepParts J' β' h' w' ps vs
 | [],_,hr=>hr
 | (i,x)::r,vs,hr=>by
  rw[RepParts] at hr ⊢
  obtain⟨v,b,e,c,d⟩:=hr
  exact⟨v,b,e,Rep.ext E c,RepParts.ext E d⟩
theorem PartsRel.mono {CR CR':AV→Value→Prop} (d:∀ x u,CR x u→CR' x u):∀ {ps:List (Nat×LA)} {vs:List (Nat×Value)},PartsRel CR ps vs→PartsRel CR' ps vs
 | [],_,hr=>hr
 | (i,c)::r,vs,hr=>by
  rw[PartsRel] at hr ⊢
  obtain⟨v,b,e,f,k⟩:=hr
  exact⟨v,b,e,⟨f.1,fun j x u l m=>d _ _ (f.2 j x u l m)⟩,PartsRel.mono d k⟩
theorem Y0 {J:Nat→Prop} {c:LA} {us:List Value} (d:RepCs J w c (fun j=>us[j]?) 0) (e:c.length=us.length):ST (RepC J w) c us :=
 ⟨e,fun j x u f i=>by
  obtain⟨k,b,hr⟩:=d.at f
  rw[i] at b;simp at b;subst b;exact hr⟩
theorem iw {J:Nat→Prop} {c:LA} {us:List Value} (b:ST (RepC J w) c us):RepCs J w c (fun j=>us[j]?) 0:=by
 rw[B4]
 intro j x d
 have:j<us.length:=by rw[←b.1];exact(List.getElem?_eq_some_iff.1 d).1
 exact⟨us[j],by simp[this],b.2 j x _ d (List.getElem?_eq_getElem this)⟩
theorem WA:∀ {ps:List (Nat×AV)} {vs:List (Nat×Value)} {q:List (Nat×LA)} {ups:Fy} {org:Bool} {J:Bool→Nat→Prop} {h:Aj},SimH J β h w→LooksS g h→OC g ps=some (q,ups,org)→RepParts J β h w ps vs →
  ∃ J',Step J β h w J' β (Al ups h) w∧PartsRel (RepC (J' org) w) q vs∧LooksS g (Al ups h)∧∀ b,Be ups b=true→∃ x,g b=some x
 | [],vs,q,ups,org,J,h,S,j,c,d=>by
  simp[OC] at c;obtain⟨rfl,rfl,rfl⟩:=c
  rw[RepParts] at d
  exact⟨J,Step.refl S,by rw[PartsRel];exact d,j,fun b e=>by simp[Be] at e⟩
 | (i,x)::r,vs,q,ups,org,J,h,S,j,c,d=>by
  rw[OC] at c
  obtain⟨⟨c1,u1,o1⟩,C,G⟩:=ub c
  obtain⟨⟨K,u2,o2⟩,hq,D⟩:=ub G
  simp at D
  obtain⟨rfl,rfl,rfl⟩:=D
  rw[RepParts] at d
  obtain⟨v,l,rfl,m,n⟩:=d
  obtain⟨J1,A,hA,f,s⟩:=V' S j C m
  obtain⟨J2,B,hB,t,y⟩:=WA A.sim s hq (RepParts.ext A.ext n)
  refine⟨J2,by rw[Da];exact A.trans B (fun _ _ _ _=>Nat.le_refl _),?_,by rw[Da];exact t,fun b e=>?_⟩
  ·rw[PartsRel]
   refine⟨v,l,rfl,Y0 (RepCs.keep (J:=J1 o1) (w:=w) (fun k z=>gN B.sim.jft _ _ k (B.ext.jsub _ k z)) (fun _ _=>rfl) (fun _=>rfl) hA) f,?_⟩
   exact PartsRel.mono (fun x u I=>RepC.keep (J:=J2 o2) (w:=w) (fun k z=>zc B.sim.jft _ _ k z) (fun _ _=>rfl) I) hB
  ·rw[Jz] at e
   cases F:Be u1 b with
   | true=>exact Agv C b F
   | false=>rw[F] at e;exact y b (by simpa using e)
theorem OK {place:Nat→Option (Nat×Nat)} {k:LA→O R}:∀ (ps:List (Nat×LA)) (c:LA),zW place ps c k=(Ro place ps c).bind k
 | [],c=>rfl
 | (i,vs)::r,c=>by
  rw[zW,Ro,Option.bind_assoc]
  congr 1;funext p
  rw[OK r]
  cases (Nat.beq vs.length p.2&&Nat.ble (p.1+p.2) c.length)<;>rfl
theorem nQ {d len:Nat} {t:TypeId} {ps:List (Nat×AV)} {vs:List (Nat×Value)} {k:AV→Fy→O R} (S:SimH J β h w) (M:Looks g h) (x:Ug P g d t len ps k=some r) (hv:RepParts J β h w ps vs) :
  ∃ val ups,k val ups=some r∧(UpsFree d h ups→∃ u w',(Instr.buildSlice t len vs.toArray).run P w=.ok u w'∧OpDone J β h w ups val u w'):=by
 unfold Ug at x
 split at x
 ·rename_i el T
  obtain⟨sz,b,h1⟩:=ub x
  obtain⟨zz,hz,h2⟩:=ub h1
  obtain⟨⟨q,u1,o1⟩,hq,h3⟩:=ub h2
  obtain⟨hb,U⟩:=uc h3
  rw[OK] at U
  obtain⟨cells,V,h5⟩:=ub U
  simp at hb
  obtain⟨i,z,hi,C,rfl,D,e1,X⟩:=Xp hz
  have e:i.size=sz:=by simp[Ca,hi] at b;exact b
  refine⟨_,_,h5,fun hn=>?_⟩
  replace hn:=hn.nid (by simp[Jz,Vb,Be])
  obtain⟨J1,A,hA,_,m⟩:=WA S M.s hq hv
  have F:=SQ (w:=w) (J:=J1 o1) D len (len*sz) (by rw[e1,e];exact Nat.le_refl _)
  have G:ST (RepC (J1 o1) w) (F1 len (Ol z.cells.toList)) (madeCells z.cells (len*sz)).toList:=by
   refine Y0 (RepCs.keep (J:=J1 o1) (w:=w) (fun _ I=>I) (fun _ _=>rfl) (fun j=>by simp) F) ?_
   rw[G6,X,e,Array.length_toList,size_madeCells]
  obtain⟨f,f1,Y⟩:=OJ hA G V
  have n:cells.length=len*sz:=by
   have:∀ {ps:List (Nat×LA)} {c y:LA},Ro (fun i=>some (i*sz,sz)) ps c=some y→y.length=c.length:=by
    intro ps
    induction ps with
    | nil=>intro c y v;simp[Ro] at v;rw[v]
    | cons p r ih =>
     intro c y v
     obtain⟨i,vs⟩:=p
     rw[Ro] at v
     obtain⟨p,hpl,g1⟩:=ub v
     obtain⟨gb,g2⟩:=uc g1
     simp at gb
     rw[ih g2,Td (by omega)]
   rw[this V,G6,X,e]
  have hcs:f.size=len*sz:=by have:=Y.1;simp at this;omega
  refine⟨.slice (some ⟨w.heap.size,0,none⟩) len len,w.alloc (.cells f el),?_,?_⟩
  ·have l:Instr.fill (fun i=>some (i*sz,sz)) ((Array.range (len*sz)).map (z.cells[·%z.cells.size]!)) vs=some f:=f1
   have K:¬ (16777216<len*sz):=by omega
   by_cases h0:len*sz=0
   ·have L:∀ (a:Array Value),(Array.range (len*sz)).map (a[·%a.size]!)=#[]:=fun a=>by rw[h0];simp[Array.range_zero']
    rw[L] at l
    simp[Instr.buildSlice,run_underlying T,D1 b,h0,Array.range_zero',l,newRow]
   ·simp[Instr.buildSlice,run_underlying T,D1 b,K,h0,zeroValue,typeInfo,hi,C,l,newRow]
  ·refine OpDone.after A (nO (sz:=sz) (fr:=(0,0)) A.sim (A2g M m hn) rfl rfl rfl FrTy.un0 n (by omega) (Nat.le_refl _) ⟨fun _=>?_,fun D=>by simp at D⟩) (Tr _ _)
   have:=iw Y
   exact RepCs.keep (J:=J1 o1) (w:=w) (fun _ I=>I) (fun _ _=>rfl) (fun j=>by simp) this
 ·simp at x
theorem mB {t:TypeId} {ps:List (Nat×AV)} {k:AV→O R}:Am7 P t ps k=(Am6 P t ps).bind k:=by
 unfold Am7 Am6
 rw[Option.bind_assoc]
 congr 1;funext place
 cases (ps.all fun p=>bA p.2) with
 | false=>rfl
 | true =>
  simp only[cond_true]
  cases (ps.any fun p=>SE p.2) with
  | true =>
   simp only[cond_true]
   cases (ps.any fun p=>zX p.2) with
   | true =>
    simp only[cond_true]
    rw[Option.bind_assoc]
    congr 1;funext z
    rw[OK]
    cases Ro place (Mn ps) z<;>rfl
   | false =>
    simp only[cond_false]
    rw[Option.bind_assoc]
    congr 1;funext z
    rw[OK]
    cases Ro place (G0 ps) z<;>rfl
  | false =>
   simp only[cond_false]
   rw[Option.bind_assoc]
   congr 1;funext z
   rw[OK]
   cases Ro place (G0 ps) z<;>rfl
theorem A6c {x:AV} {u:Value} (hr:RepC (fun _=>False) w x u):Rep J β h w x u:=by
 have b:∀ o:Bool,RepC (J o) w x u:=fun o=>RepC.keep (J:=fun _=>False) (w:=w) (fun _ d=>d.elim) (fun _ _=>rfl) hr
 cases x
 case imm c n sz t org=>rw[Rep];exact b org
 case iptr c org=>rw[Rep];exact b org
 case fn f c =>
  cases c with
  | nil=>rw[RepC] at hr;subst hr;rw[Rep];exact⟨[],by simp,by rw[Reps]⟩
  | cons a l=>simp[RepC] at hr
 all_goals first | (rw[RepC] at hr;rw[Rep];exact hr) | simp[RepC] at hr
theorem sR {d len:Nat} {t:TypeId} {ps:List (Nat×AV)} {vs:List (Nat×Value)} {k:AV→Fy→O R} (S:SimH J β h w) (G:Xl P g d t len ps k=some r) (q:RepParts J β h w ps vs) :
  ∃ val ups,k val ups=some r∧(UpsFree d h ups→∃ u w',(Instr.buildSlice t len vs.toArray).run P w=.ok u w'∧OpDone J β h w ups val u w'):=by
 unfold Xl at G
 split at G
 ·rename_i el n
  obtain⟨sz,f,I⟩:=ub G
  obtain⟨zz,hz,L⟩:=ub I
  obtain⟨M,h4⟩:=uc L
  obtain⟨cells,hc,h5⟩:=ub h4
  simp at M
  obtain⟨rfl,M,T⟩:=M
  obtain⟨i,z,hi,U,rfl,V,e1,e2⟩:=Xp hz
  have s:i.size=1:=by simp[Ca,hi] at f;exact f
  refine⟨_,_,h5,fun hn=>?_⟩
  replace hn:=hn.nid (by simp[Vb,Be])
  have X:=SQ (w:=w) (J:=fun _=>False) V len (len*1) (by rw[e1,s];exact Nat.le_refl _)
  have Y:ST (fun x u=>Rep J β h w x u∧u.oneCell'=true) (F1 len (Ol z.cells.toList)) (madeCells z.cells (len*1)).toList:=by
   have hl:ST (RepC (fun _=>False) w) (F1 len (Ol z.cells.toList)) (madeCells z.cells (len*1)).toList:=by
    refine Y0 (RepCs.keep (J:=fun _=>False) (w:=w) (fun _ hk=>hk) (fun _ _=>rfl) (fun j=>by simp) X) ?_
    rw[G6,e2,s,Array.length_toList,size_madeCells]
   exact⟨hl.1,fun j x u hx n=>⟨A6c (hl.2 j x u hx n),nN (hl.2 j x u hx n)⟩⟩
  have l:∀ {ps:List (Nat×AV)} {vs:List (Nat×Value)},Qv g (ps.map (·.2))=true→RepParts J β h w ps vs→PartsRel (fun x u=>Rep J β h w x u∧u.oneCell'=true) (ps.map fun p=>(p.1,[p.2])) vs:=by
   intro ps
   induction ps with
   | nil=>intro vs _ q;rw[RepParts] at q;rw[List.map_nil,PartsRel];exact q
   | cons p r ih =>
    obtain⟨i,x⟩:=p
    intro vs hs q
    rw[RepParts] at q
    obtain⟨v,vs',rfl,I,L⟩:=q
    simp[Qv] at hs
    rw[List.map_cons,PartsRel]
    refine⟨v,vs',rfl,?_,ih (by simpa using hs.2) L⟩
    have ho:=Qy hs.1 I
    have m:v.cells=#[v]:=by cases v<;>simp_all[Value.cells,Value.oneCell']
    rw[m]
    refine⟨rfl,fun j y u hy n=>?_⟩
    cases j with
    | zero=>simp at hy n;subst hy n;exact⟨I,ho⟩
    | succ j=>simp at hy
  obtain⟨b,f1,f2⟩:=OJ (l T q) Y hc
  have A:cells.length=len*1:=by
   have:∀ {ps:List (Nat×LA)} {c K:LA},Ro (fun i=>some (i*1,1)) ps c=some K→K.length=c.length:=by
    intro ps
    induction ps with
    | nil=>intro c K C;simp[Ro] at C;rw[C]
    | cons p r ih =>
     intro c K C
     obtain⟨i,vs⟩:=p
     rw[Ro] at C
     obtain⟨p,hpl,g1⟩:=ub C
     obtain⟨gb,g2⟩:=uc g1
     simp at gb
     rw[ih g2,Td (by omega)]
   rw[this hc,G6,e2,s]
  have hcs:b.size=len*1:=by have:=f2.1;simp at this;omega
  refine⟨.slice (some ⟨w.heap.size,0,none⟩) len len,w.alloc (.cells b el),?_,?_⟩
  ·have e:Instr.fill (fun i=>some (i*1,1)) ((Array.range (len*1)).map (z.cells[·%z.cells.size]!)) vs=some b:=f1
   have D:¬ (16777216<len*1):=by omega
   by_cases h0:len*1=0
   ·have hme:∀ (a:Array Value),(Array.range (len*1)).map (a[·%a.size]!)=#[]:=fun a=>by rw[h0];simp[Array.range_zero']
    rw[hme] at e
    simp only[Nat.mul_one] at h0
    simp[Instr.buildSlice,run_underlying n,D1 f,h0,Array.range_zero',newRow]
    simp at e
    simp[e]
   ·simp only[Nat.mul_one] at e h0 D
    simp[Instr.buildSlice,run_underlying n,D1 f,D,h0,zeroValue,typeInfo,hi,U,e,newRow]
  ·refine nO (sz:=1) (fr:=(0,0)) S hn rfl rfl rfl FrTy.un0 A (by omega) (Nat.le_refl _) ⟨fun V=>by simp at V,fun _ j y hj=>?_⟩
   have F:j<b.size:=by have:=(List.getElem?_eq_some_iff.1 hj).1;simp at this;omega
   have:=f2.2 j y b[j] hj (by simp[F])
   exact⟨b[j],by simp[F],this.1,this.2⟩
 ·simp at G
theorem Y1 {d:Nat}:∀ {l:List (Nat×Nat)} {j:Nat} {c:LA} {cs:List Value} {β:Cp} {h:Aj},SimH J β h w→1≤j→j+l.length≤16→(∀ i,j≤i→i<16→Be (Hn d l j c).2 (nid d+i)=true→Am h (nid d+i)=none)→Reps J β h w c cs →
  ∃ β',Step J β h w J β' (Al (Hn d l j c).2 h) w∧Reps J β' (Al (Hn d l j c).2 h) w (Hn d l j c).1 cs
 | [],j,c,cs,β,h,S,_,_,_,hr=>⟨β,Step.refl S,hr⟩
 | (o,sz)::l,j,c,cs,β,h,S,I,C,n,hr=>by
  rw[Hn] at n ⊢
  split
  ·rename_i q
   simp only[q] at n
   simp at C
   have G:Am h (nid d+j)=none:=n j (Nat.le_refl _) (by omega) (by simp[Be])
   have A:=Step.newNone S (d:=nid d+j) (x:=Hd sz) G rfl
   have f:=Reps.ext A.ext hr
   rw[C0] at f
   have t:Reps J (fun b=>if b=nid d+j then none else β b) (Gg h (nid d+j) (Hd sz)) w (c.set o (.own (nid d+j) 0 0)) cs:=by
    rw[C0]
    refine⟨by rw[f.1];simp,fun i y u s D=>?_⟩
    by_cases hi:i=o
    ·subst hi
     have v:i<c.length:=(List.getElem?_eq_some_iff.1 q).1
     rw[List.getElem?_set_self v] at s;simp at s;subst s
     have F:=f.2 i _ u q D
     rw[Rep] at F;subst F
     rw[Rep]
     exact⟨Hd sz,none,0,⟨by simp[Ah],rfl⟩,rfl,Nat.le_refl _,.inl rfl⟩
    ·rw[List.getElem?_set_ne (by omega)] at s
     exact f.2 i y u s D
   obtain⟨β',B,hB⟩:=Y1 (d:=d) (l:=l) (j:=j+1) A.sim (by omega) (by omega) (fun i hi k m=>by
    have:=n i (by omega) k (by
     rw[Be]
     have:Nat.beq (nid d+j) (nid d+i)=false:=aO (by omega)
     rw[this];exact m)
    rw[Ah,if_neg (by omega)];exact this) t
   exact⟨β',by simp only[Al];exact A.trans B (fun _ _ _ _=>Nat.le_refl _),by simp only[Al];exact hB⟩
  ·rename_i q
   have e:Hn d ((o,sz)::l) j c=Hn d l (j+1) c:=by
    rw[Hn]
    split
    ·rename_i z;exact absurd z (q ·)
    ·rfl
   simp at C
   split at n
   ·rename_i z;exact absurd z (q ·)
   ·exact Y1 S (by omega) (by omega) (fun i hi k m=>n i (by omega) k m) hr
theorem Ayf {t:TypeId} {co:Bool} {d:Nat} {v:AV} {vc:Value} {k:AV→Fy→O R} (S:SimH J β h w) (b:A3f P t co d v k=some r) (e:Rep J β h w v vc) :
  ∃ val ups,k val ups=some r∧(UpsFree d h ups→OpDone J β h w ups val vc w):=by
 unfold A3f at b
 split at b
 ·rename_i c
  obtain⟨m,n⟩:=uc b
  refine⟨_,_,n,fun q=>?_⟩
  rw[Rep] at e
  obtain⟨cs,rfl,hr⟩:=e
  obtain⟨β',A,hA⟩:=Y1 (d:=d) (l:=Vc P t) (j:=1) S (Nat.le_refl _) (by simp at m;omega) (fun i hi s f=>q _ f (by unfold OG;simp;omega)) hr
  exact⟨J,β',A,by rw[Rep];exact⟨cs,rfl,hA⟩⟩
 ·exact⟨_,_,b,fun _=>⟨J,β,Step.refl S,e⟩⟩
theorem uG {x:AV} {v:Value} (b:Rep J β h w x v) (k:SE x=false) (e:bA x=true):ST (Rep J β h w) (cellsOf x) v.cells.toList:=by
 have one:v.cells=#[v]→cellsOf x=[x]→ST (Rep J β h w) (cellsOf x) v.cells.toList:=fun l d=>by
  rw[l,d]
  refine⟨rfl,fun j y u f i=>?_⟩
  cases j with
  | zero=>simp at f i;subst f i;exact b
  | succ j=>simp at f
 cases x
 case pagg=>simp[SE] at k
 case agg c =>
  rw[Rep] at b
  obtain⟨cs,rfl,d⟩:=b
  rw[C0] at d
  exact⟨d.1.symm,d.2⟩
 case tup c=>simp[bA] at e
 case undef=>simp[bA] at e
 case omap=>simp[bA] at e
 case own=>rw[Rep] at b;obtain⟨_,A,cap,_,rfl,_⟩:=b;exact one rfl rfl
 case optr=>rw[Rep] at b;obtain⟨_,kk,o,_,rfl,_⟩:=b;exact one rfl rfl
 case fn=>rw[Rep] at b;obtain⟨cs,rfl,_⟩:=b;exact one rfl rfl
 case imm=>rw[Rep,RepC] at b;obtain⟨_,A,cap,rfl,_⟩:=b;exact one rfl rfl
 case iptr=>rw[Rep,RepC] at b;obtain⟨a,rfl,_⟩:=b;exact one rfl rfl
 all_goals (rw[Rep] at b;subst b;exact one rfl rfl)
theorem Akb {x:AV} {v:Value} (e:∀ k,J false k→J true k) (d:Rep J β h w x v) (hr:lx x=false) {o:Bool} (f:Am5 x=true→o=true):RepC (J o) w x v:=by
 cases x<;>simp[lx] at hr
 case imm c n sz t org =>
  rw[Rep] at d
  refine RepC.keep (J:=J org) (w:=w) (fun k b=>?_) (fun _ _=>rfl) d
  cases org
  ·cases o
   ·exact b
   ·exact e k b
  ·rw[f rfl];exact b
 case iptr c org =>
  rw[Rep] at d
  refine RepC.keep (J:=J org) (w:=w) (fun k b=>?_) (fun _ _=>rfl) d
  cases org
  ·cases o
   ·exact b
   ·exact e k b
  ·rw[f rfl];exact b
 all_goals (rw[Rep] at d;rw[RepC];exact d)
theorem Anp {x:AV} {v:Value} (i:∀ k,J false k→J true k) (e:Rep J β h w x v) (hr:zX x=false) {o:Bool} (l:tv x=true→o=true):ST (RepC (J o) w) (cellsOf x) v.cells.toList:=by
 have one:lx x=false→cellsOf x=[x]→tv x=Am5 x→ST (RepC (J o) w) (cellsOf x) v.cells.toList:=fun h0 b m=>by
  have t:=Akb (o:=o) i e h0 (by rw[←m];exact l)
  have n:v.cells=#[v]:=by have:=nN t;cases v<;>simp_all[Value.cells,Value.oneCell']
  rw[n,b]
  refine⟨rfl,fun j y u d f=>?_⟩
  cases j with
  | zero=>simp at d f;subst d f;exact t
  | succ j=>simp at d
 cases x
 case pagg c org =>
  rw[Rep] at e
  obtain⟨cs,rfl,n,b⟩:=e
  refine Y0 (RepCs.keep (J:=J org) (w:=w) (fun k q=>?_) (fun _ _=>rfl) (fun j=>by simp[Value.cells]) b) (by simp[Value.cells,cellsOf,n])
  cases org
  ·cases o
   ·exact q
   ·exact i k q
  ·rw[l rfl];exact q
 case agg c =>
  rw[Rep] at e
  obtain⟨cs,rfl,b⟩:=e
  rw[C0] at b
  refine⟨b.1.symm,fun j y u d f=>?_⟩
  simp only[zX,List.any_eq_false] at hr
  have z:y ∈ c:=List.mem_of_getElem? d
  have s:lx y=false:=by simpa using hr y z
  refine Akb i (b.2 j y u d f) s (fun m=>l ?_)
  rw[tv,List.any_eq_true];exact⟨y,z,m⟩
 all_goals first | exact one hr rfl rfl | simp[zX,lx] at hr
theorem A3m {o:Bool} {x:AV} {v:Value} (hr:RepC (J o) w x v):Rep J β h w (Ar0 o x) v:=by
 cases x
 case imm=>rw[Ar0,Rep];rw[RepC] at hr ⊢;exact hr
 case iptr=>rw[Ar0,Rep];rw[RepC] at hr ⊢;exact hr
 case fn f c =>
  cases c with
  | nil=>rw[RepC] at hr;subst hr;show Rep J β h w (.fn f []) _;rw[Rep];exact⟨[],by simp,by rw[Reps]⟩
  | cons a b=>simp[RepC] at hr
 all_goals first | (rw[RepC] at hr;unfold Ar0;rw[Rep];exact hr) | (simp[RepC] at hr)
theorem Ayg {x:AV} {v:Value} (e:Rep J β h w x v) (l:bA x=true):ST (Rep J β h w) (zY x) v.cells.toList:=by
 cases f:SE x with
 | false =>
  have:=uG e f l
  cases x<;>first | exact this | simp[SE] at f
 | true =>
  cases x<;>simp[SE] at f
  rename_i c o
  rw[Rep] at e
  obtain⟨cs,rfl,m,n⟩:=e
  refine⟨by simp[zY,Value.cells,m],fun j y u d k=>?_⟩
  simp only[zY,List.getElem?_map] at d
  cases i:c[j]? with
  | none=>rw[i] at d;simp at d
  | some x0 =>
   rw[i] at d;simp at d;subst d
   obtain⟨q,b,hr⟩:=n.at i
   simp[Value.cells] at k
   rw[k] at b;simp at b;subst b
   exact A3m hr
theorem bL {CR:AV→Value→Prop}:∀ {ps:List (Nat×AV)} {vs:List (Nat×Value)},RepParts J β h w ps vs→(∀ p ∈ ps,∀ v,Rep J β h w p.2 v→ST CR (zY p.2) v.cells.toList)→PartsRel CR (Mn ps) vs
 | [],vs,hr,_=>by rw[RepParts] at hr;rw[Mn,PartsRel];exact hr
 | (i,x)::r,vs,hr,c=>by
  rw[RepParts] at hr
  obtain⟨v,b,rfl,d,e⟩:=hr
  rw[Mn,PartsRel]
  exact⟨v,b,rfl,c (i,x) (by simp) v d,bL e (fun p f=>c p (by simp[f]))⟩
theorem MQ {CR:AV→Value→Prop}:∀ {ps:List (Nat×AV)} {vs:List (Nat×Value)},RepParts J β h w ps vs→(∀ p ∈ ps,∀ v,Rep J β h w p.2 v→ST CR (cellsOf p.2) v.cells.toList)→PartsRel CR (G0 ps) vs
 | [],vs,hr,_=>by rw[RepParts] at hr;rw[G0,PartsRel];exact hr
 | (i,x)::r,vs,hr,c=>by
  rw[RepParts] at hr
  obtain⟨v,b,rfl,d,e⟩:=hr
  rw[G0,PartsRel]
  exact⟨v,b,rfl,c (i,x) (by simp) v d,MQ e (fun p f=>c p (by simp[f]))⟩
theorem zg {t:TypeId} {place:Nat→Option (Nat×Nat)} {i:TypeInfo} {z:Value} {vs:List (Nat×Value)} {cs:Array Value} (b:nD P t=some place) (hi:P.info? t=some i) (j:i.zero=some z)
  (k:Instr.fill place z.cells vs=some cs):P.built t vs=some cs:=by
 unfold nD at b
 unfold Program.built
 split at b
 ·rename_i n e d
  cases c:P.info? e with
  | none=>simp[c] at b
  | some ie=>simp[c] at b;subst b;simp only[hi,d,j,c];exact k
 ·rename_i fs d
  cases c:fs.toList.mapM fun f=>(P.info? f.type).map fun i=>(f.offset,i.size) with
  | none=>rw[c] at b;simp at b
  | some pl =>
   rw[c] at b;simp at b;subst b
   simp only[hi,d,j,c]
   simpa using k
 ·simp at b
theorem Anq {t:TypeId} {ps:List (Nat×AV)} {vs:List (Nat×Value)} {v:AV} (S:SimH J β h w) (L:Am6 P t ps=some v) (I:RepParts J β h w ps vs) :
  ∃ u,(Instr.build t vs.toArray).run P w=.ok u w∧Rep J β h w v u:=by
 unfold Am6 at L
 obtain⟨place,n,M⟩:=ub L
 obtain⟨F,q⟩:=uc M
 cases s:ps.any (fun p=>SE p.2) with
 | true =>
  rw[s] at q
  cases A:ps.any (fun p=>zX p.2) with
  | true =>
   rw[A] at q
   obtain⟨zz,d,f⟩:=ub q
   unfold Ajz at d
   obtain⟨i,hi,d⟩:=ub d
   cases e:i.zero with
   | none=>rw[e] at d;simp at d
   | some z =>
    rw[e] at d;simp at d;subst d
    cases k:Ro place (Mn ps) (Ol z.cells.toList) with
    | none=>rw[k] at f;simp at f
    | some c =>
     rw[k] at f;simp at f;subst f
     have b:PartsRel (Rep J β h w) (Mn ps) vs:=bL I (fun p C u D=>Ayg D (List.all_eq_true.1 F p C))
     have l:ST (Rep J β h w) (Ol z.cells.toList) z.cells.toList:=by
      have:=gK (J:=J) (β:=β) (h:=h) (w:=w) z.cells.toList
      rw[C0] at this
      exact⟨this.1.symm,this.2⟩
     obtain⟨cs,G,m⟩:=OJ b l k
     refine⟨.agg cs,run_build w t vs.toArray cs (zg n hi e (by simpa using G)),?_⟩
     rw[Rep]
     exact⟨cs.toList,rfl,C0.2 ⟨m.1.symm,m.2⟩⟩
  | false =>
  rw[A] at q
  have O:=q
  obtain⟨zz,d,f⟩:=ub O
  obtain⟨i,z,hi,e,rfl,T,e1,Y⟩:=Xp d
  cases k:Ro place (G0 ps) (Ol z.cells.toList) with
  | none=>rw[k] at f;simp at f
  | some c =>
   rw[k] at f;simp at f;subst f
   have b:PartsRel (RepC (J (ps.any fun p=>tv p.2)) w) (G0 ps) vs:=MQ I (fun p C u D=>Anp S.jft D (by
     have:=List.any_eq_false.1 A p C;simpa using this) (fun U=>by rw[List.any_eq_true];exact⟨p,C,U⟩))
   have l:ST (RepC (J (ps.any fun p=>tv p.2)) w) (Ol z.cells.toList) z.cells.toList:=by
    refine⟨JA _,fun j x u V D=>?_⟩
    obtain⟨y,K,X⟩:=mA (w:=w) (J:=J (ps.any fun p=>tv p.2)) T j u D
    rw[V] at K;simp at K;subst K;exact X
   obtain⟨cs,G,m⟩:=OJ b l k
   refine⟨.agg cs,run_build w t vs.toArray cs (zg n hi e (by simpa using G)),?_⟩
   rw[Rep]
   exact⟨cs.toList,rfl,m.1.symm,iw m⟩
 | false =>
  rw[s] at q
  obtain⟨zz,d,f⟩:=ub q
  unfold Ajz at d
  obtain⟨i,hi,d⟩:=ub d
  cases e:i.zero with
  | none=>rw[e] at d;simp at d
  | some z =>
   rw[e] at d;simp at d;subst d
   cases k:Ro place (G0 ps) (Ol z.cells.toList) with
   | none=>rw[k] at f;simp at f
   | some c =>
    rw[k] at f;simp at f;subst f
    have b:PartsRel (Rep J β h w) (G0 ps) vs:=MQ I (fun p C u D=>uG D (by
      have:=List.any_eq_false.1 s p C;simpa using this) (List.all_eq_true.1 F p C))
    have l:ST (Rep J β h w) (Ol z.cells.toList) z.cells.toList:=by
     have:=gK (J:=J) (β:=β) (h:=h) (w:=w) z.cells.toList
     rw[C0] at this
     exact⟨this.1.symm,this.2⟩
    obtain⟨cs,G,m⟩:=OJ b l k
    refine⟨.agg cs,run_build w t vs.toArray cs (zg n hi e (by simpa using G)),?_⟩
    rw[Rep]
    exact⟨cs.toList,rfl,C0.2 ⟨m.1.symm,m.2⟩⟩
end
end Gx

namespace Gx
open Go
section
variable {R:Type} {r:R} {P:Program} {J:Bool→Nat→Prop} {β:Cp} {h:Aj} {w:World}
def PRd (n:Nat) (x:LA) (rd:Nat→Option Value):Prop:=∀ j q,j<n→x[j]?=some q →
 (∀ k m,q=.int k m→rd j=some (.int k m))∧(∀ b,q=.bool b→rd j=some (.bool b))∧(∀ s,q=.str s→rd j=some (.string ⟨⟨s⟩⟩))
theorem PRd.drop {n m o:Nat} {x:LA} {xs:Array Value} {ox sz:Nat} (f:PRd sz x (fun j=>xs[ox+j]?)) (u:o+m≤sz) (hn:n=m):PRd n (x.drop o) (fun j=>(xs.extract ox (ox+sz))[o+j]?):=by
 subst hn
 intro j q y hq
 rw[List.getElem?_drop] at hq
 have c:=f (o+j) q (by omega) hq
 have e:∀ v,xs[ox+(o+j)]?=some v→(xs.extract ox (ox+sz))[o+j]?=some v:=by
  intro v d
  have i:=(Array.getElem?_eq_some_iff.1 d).1
  rw[Array.getElem?_extract,if_pos (by omega)];exact d
 exact⟨fun k m l=>e _ (c.1 k m l),fun b t=>e _ (c.2.1 b t),fun s hs=>e _ (c.2.2 s hs)⟩
theorem FP {t:TypeId} {d:TypeDesc} {xs:Array Value} {ox:Nat} {v:Value} (b:P.underlying t=some d) (c:d.isRow=false) (e:xs[ox]?=some v):(part t xs ox).run P w=.ok v w:=by
 unfold part isAgg
 simp only[Sem.run_bind,run_underlying b,Result.andThen_ok]
 cases d<;>simp_all[TypeDesc.isRow]
theorem OL {t:TypeId} {d:TypeDesc} {xs:Array Value} {ox s:Nat} (b:P.underlying t=some d) (c:d.isRow=true) (hs:Ca P t=some s):(part t xs ox).run P w=.ok (.agg (xs.extract ox (ox+s))) w:=by
 unfold part isAgg
 have:=D1 hs w
 simp only[Sem.run_bind,run_underlying b,Result.andThen_ok]
 cases d<;>simp_all[TypeDesc.isRow]
def Ayh (P:Program) (w:World) (D:Nat) (step:TypeId→LA→LA→(Bool→O R)→O R):Prop :=
 ∀ (r:R) (t:TypeId) (s:Nat) (x y:LA) (k:Bool→O R) (xs ys:Array Value) (ox oy:Nat),Ca P t=some s→0<s→step t x y k=some r→PRd s x (fun j=>xs[ox+j]?)→PRd s y (fun j=>ys[oy+j]?) →
  ∃ b a a',k b=some r∧(part t xs ox).run P w=.ok a w∧(part t ys oy).run P w=.ok a' w∧(Op.equalIn D t a a').run P w=.ok b w
theorem WB {D:Nat} {step:TypeId→LA→LA→(Bool→O R)→O R} (hs:Ayh P w D step) {x y:LA} {xs ys:Array Value} {ox oy sz:Nat} (n:PRd sz x (fun j=>xs[ox+j]?)) (q:PRd sz y (fun j=>ys[oy+j]?)) :
  ∀ (fs:List Field) {k:Bool→O R},fs.all (Am2 P sz)=true→OA step x y (fs.map fun f=>(f.offset,f.type)) k=some r →
  ∃ b,k b=some r∧(Op.eqFields D (xs.extract ox (ox+sz)) (ys.extract oy (oy+sz)) fs).run P w=.ok b w
 | [],k,_,l=>⟨true,by simpa[OA] using l,by simp[Op.eqFields]⟩
 | f::fs,k,m,l=>by
  rw[List.all_cons,Bool.and_eq_true] at m
  obtain⟨i,m⟩:=m
  unfold Am2 at i
  cases d:Ca P f.type with
  | none=>rw[d] at i;simp at i
  | some s =>
   rw[d] at i
   simp only[Bool.and_eq_true,Nat.ble_eq] at i
   obtain⟨G,t,u⟩:=i
   have e : f.name ≠ "_" := by simpa using u
   rw[List.map_cons,OA] at l
   obtain⟨b,a,I,v,z,A,C⟩:=hs r f.type s _ _ _ (xs.extract ox (ox+sz)) (ys.extract oy (oy+sz)) f.offset f.offset d (by omega) l (n.drop t rfl) (q.drop t rfl)
   obtain⟨c,e1,F⟩:=WB hs n q fs m v
   refine⟨b&&c,e1,?_⟩
   rw[Op.eqFields,if_pos e]
   simp only[Sem.run_bind,z,A,C,Result.andThen_ok]
   cases b with
   | false=>simp
   | true=>simpa using F
theorem bM {D:Nat} {step:TypeId→LA→LA→(Bool→O R)→O R} (hs:Ayh P w D step) {x y:LA} {xs ys:Array Value} {ox oy sz:Nat} {e:TypeId} {s:Nat} (d:Ca P e=some s) (f:0<s) (m:PRd sz x (fun j=>xs[ox+j]?)) (n:PRd sz y (fun j=>ys[oy+j]?)) :
  ∀ (is:List Nat) {k:Bool→O R},(∀ i ∈ is,i*s+s≤sz)→OA step x y (is.map fun i=>(i*s,e)) k=some r →
  ∃ b,k b=some r∧(Op.eqItems D e s (xs.extract ox (ox+sz)) (ys.extract oy (oy+sz)) is).run P w=.ok b w
 | [],k,_,l=>⟨true,by simpa[OA] using l,by simp[Op.eqItems]⟩
 | i::is,k,q,l=>by
  have t:=q i (by simp)
  rw[List.map_cons,OA] at l
  obtain⟨b,a,G,u,v,z,A⟩:=hs r e s _ _ _ (xs.extract ox (ox+sz)) (ys.extract oy (oy+sz)) (i*s) (i*s) d f l (m.drop t rfl) (n.drop t rfl)
  obtain⟨c,e1,C⟩:=bM hs d f m n is (fun j F=>q j (by simp[F])) u
  refine⟨b&&c,e1,?_⟩
  rw[Op.eqItems]
  simp only[Sem.run_bind,v,z,A,Result.andThen_ok]
  cases b with
  | false=>simp
  | true=>simpa using C
theorem mC:∀ (d D:Nat),d≤D→Ayh P w D (yE (R:=R) P d)
 | 0,D,_=>fun r t s x y k xs ys ox oy hs j c=>by simp[yE] at c
 | d+1,D,hD=>fun r t s x y k xs ys ox oy hs j c K L=>by
  obtain⟨D,rfl⟩:∃ D',D=D'+1:=⟨D - 1,by omega⟩
  rw[yE] at c
  split at c
  ·rename_i I f
   obtain⟨u,m,c⟩:=ub c
   obtain⟨a,z,c⟩:=ub c
   obtain⟨v,q,c⟩:=ub c
   obtain⟨b,A,c⟩:=ub c
   have M:u=.int I a:=by
    unfold tp at z;split at z
    ·obtain⟨O,S⟩:=uc z;simp[Va] at O S;subst O S;rfl
    ·simp at z
   have eb:v=.int I b:=by
    unfold tp at A;split at A
    ·obtain⟨O,T⟩:=uc A;simp[Va] at O T;subst O T;rfl
    ·simp at A
   have px:=(K 0 u j (by rw[←List.head?_eq_getElem?];exact m)).1 I a M
   have py:=(L 0 v j (by rw[←List.head?_eq_getElem?];exact q)).1 I b eb
   exact⟨_,_,_,c,FP f rfl (by simpa using px),FP f rfl (by simpa using py),run_equalIn_int w D t I I a b f⟩
  ·rename_i f
   obtain⟨u,m,c⟩:=ub c
   obtain⟨a,z,c⟩:=ub c
   obtain⟨v,q,c⟩:=ub c
   obtain⟨b,A,c⟩:=ub c
   have M:u=.bool a:=by unfold asBool at z;split at z<;>simp_all
   have eb:v=.bool b:=by unfold asBool at A;split at A<;>simp_all
   have px:=(K 0 u j (by rw[←List.head?_eq_getElem?];exact m)).2.1 a M
   have py:=(L 0 v j (by rw[←List.head?_eq_getElem?];exact q)).2.1 b eb
   exact⟨_,_,_,c,FP f rfl (by simpa using px),FP f rfl (by simpa using py),run_equalIn_bool' w D t a b f⟩
  ·rename_i f
   obtain⟨u,m,c⟩:=ub c
   obtain⟨a,z,c⟩:=ub c
   obtain⟨v,q,c⟩:=ub c
   obtain⟨b,A,c⟩:=ub c
   have M:u=.str a:=by unfold tq at z;split at z<;>simp_all
   have eb:v=.str b:=by unfold tq at A;split at A<;>simp_all
   have px:=(K 0 u j (by rw[←List.head?_eq_getElem?];exact m)).2.2 a M
   have py:=(L 0 v j (by rw[←List.head?_eq_getElem?];exact q)).2.2 b eb
   refine⟨_,_,_,c,FP f rfl (by simpa using px),FP f rfl (by simpa using py),?_⟩
   have:=run_equalIn_string w D t ⟨⟨a⟩⟩ ⟨⟨b⟩⟩ f
   rw[this]
   simp[ByteArray.toList_eq]
  ·rename_i fs f
   obtain⟨sz,l,c⟩:=ub c
   obtain⟨U,F⟩:=Aya c
   simp only[Bool.or_eq_false_iff,Bool.not_eq_false'] at U
   rw[hs] at l;simp at l;subst l
   obtain⟨b,X,Y⟩:=WB (mC d D (by omega)) K L fs.toList U.2 F
   refine⟨b,_,_,X,OL f rfl hs,OL f rfl hs,?_⟩
   have V:P.fieldsOf t=fs:=by simp[Program.fieldsOf,f]
   rw[run_equalIn_struct w D t _ _ (by rw[V];exact f) U.1,V]
   exact Y
  ·rename_i n e f
   obtain⟨s',C,c⟩:=ub c
   obtain⟨sz,l,c⟩:=ub c
   obtain⟨U,F⟩:=uc c
   simp only[Bool.and_eq_true,Nat.ble_eq] at U
   rw[hs] at l;simp at l;subst l
   obtain⟨b,X,Y⟩:=bM (mC d D (by omega)) C (by omega) K L (List.range n) (fun i hi=>by
    have:=List.mem_range.1 hi
    have h3:(i+1)*s'≤n*s':=Nat.mul_le_mul_right _ this
    rw[Nat.succ_mul] at h3;omega) F
   refine⟨b,_,_,X,OL f rfl hs,OL f rfl hs,?_⟩
   cases hi:P.info? e with
   | none=>simp[Ca,hi] at C
   | some i =>
    have G:P.cellsOf e=s':=by simp[Ca,hi] at C;simp[Program.cellsOf,hi,C]
    rw[run_equalIn_array w D _ _ f hi,G]
    exact Y
  ·simp at c
theorem Asb {c:LA} {org:Bool} {v:Value} {a:LA} {x:AV} (f:Am3 x=some a) (hr:Rep J β h w x v):∃ cs:List Value,v=.agg ⟨cs⟩∧cs.length=a.length∧∀ n,PRd n a (fun j=>(⟨cs⟩:Array Value)[0+j]?):=by
 unfold Am3 at f
 split at f
 ·simp at f;subst f
  rw[Rep] at hr
  obtain⟨cs,t,i,A⟩:=hr
  refine⟨cs,t,i,fun n j q _ hq=>?_⟩
  rw[B4] at A
  obtain⟨u,l,d⟩:=A j q hq
  simp only[Nat.zero_add] at l ⊢
  refine⟨fun k m y=>?_,fun b z=>?_,fun s hs=>?_⟩
  ·subst y;rw[RepC] at d;subst d;simpa using l
  ·subst z;rw[RepC] at d;subst d;simpa using l
  ·subst hs;rw[RepC] at d;subst d;simpa using l
 ·simp at f;subst f
  rw[Rep] at hr
  obtain⟨cs,t,i⟩:=hr
  rw[C0] at i
  refine⟨cs,t,i.1,fun n j q _ hq=>?_⟩
  have e:j<cs.length:=by rw[i.1];exact(List.getElem?_eq_some_iff.1 hq).1
  have d:=i.2 j q cs[j] hq (List.getElem?_eq_getElem e)
  simp only[Nat.zero_add]
  refine⟨fun k m y=>?_,fun b z=>?_,fun s hs=>?_⟩
  ·subst y;rw[Rep] at d;simp[e,d]
  ·subst z;rw[Rep] at d;simp[e,d]
  ·subst hs;rw[Rep] at d;simp[e,d]
 ·simp at f
theorem Asc {op:BinOp} {t:TypeId} {x y:AV} {k:AV→O R} {vx vy:Value} (f:Ajy P t op x y k=some r) (A:Rep J β h w x vx) (C:Rep J β h w y vy) (ox oy:Operand) :
  ∃ v vc,k v=some r∧(do eqGuard op t ox oy vx vy;binOp op t vx vy:Sem Value).run P w=.ok vc w∧Rep J β h w v vc:=by
 unfold Ajy at f
 split at f
 ·rename_i a b M S
  obtain⟨s,hs,f⟩:=ub f
  obtain⟨D,f⟩:=uc f
  simp only[Bool.and_eq_true,Nat.ble_eq,Bool.not_eq_true'] at D
  obtain⟨X,F,G,j,T⟩:=D
  have F:=Nat.eq_of_beq_eq_true F
  have G:=Nat.eq_of_beq_eq_true G
  obtain⟨cs,rfl,I,px⟩:=Asb (c:=[]) (org:=false) M A
  obtain⟨i,rfl,U,py⟩:=Asb (c:=[]) (org:=false) S C
  have K:=run_eqGuard_agg w op t ox oy ⟨cs⟩ ⟨i⟩ T
  have whole:∀ (l:List Value),l.length=s→(⟨l⟩:Array Value).extract 0 (0+s)=⟨l⟩:=by
   intro l I;subst I;simp
  have key:∀ {kk:Bool→O R},yE P 8 t a b kk=some r→∃ c,kk c=some r∧(Op.equal t (.agg ⟨cs⟩) (.agg ⟨i⟩)).run P w=.ok c w:=by
   intro kk V
   obtain⟨c,u,Y,e1,m,e3,e4⟩:=mC 8 10000 (by omega) r t s a b kk ⟨cs⟩ ⟨i⟩ 0 0 hs (by omega) V (px s) (py s)
   refine⟨c,e1,?_⟩
   have z:∃ d,P.underlying t=some d∧d.isRow=true:=by
    unfold A5z at j
    split at j
    ·rename_i fs q;exact⟨_,q,rfl⟩
    ·rename_i n e q;exact⟨_,q,rfl⟩
    ·simp at j
   obtain⟨d,q,L⟩:=z
   rw[OL q L hs,whole cs (by omega)] at m
   rw[OL q L hs,whole i (by omega)] at e3
   simp only[Result.ok.injEq,and_true] at m e3
   subst m e3
   exact e4
  split at f
  ·obtain⟨c,e1,m⟩:=key f
   refine⟨_,.bool c,e1,?_,by rw[Rep]⟩
   simp only[Sem.run_bind,K,Result.andThen_ok,binOp,m,Sem.run_pure]
  ·obtain⟨c,e1,m⟩:=key f
   refine⟨_,.bool (!c),e1,?_,by rw[Rep]⟩
   simp only[Sem.run_bind,K,Result.andThen_ok,binOp,m,Sem.run_pure]
  ·simp at f
 ·exact Ax9 f A C ox oy
theorem Asd {t:TypeId} {x y:AV} {b:Bool} {vx vy:Value} {g:Bj} (S:SimH J β h w) (G:Looks g h) (c:A54 g x y=some b) (l:Ax6 P t=true) (d:Rep J β h w x vx) (f:Rep J β h w y vy) :
  ∃ p q,vx=.pointer p∧vy=.pointer q∧(Op.equal t (.pointer p) (.pointer q)).run P w=.ok b w:=by
 unfold Ax6 at l
 split at l
 ·rename_i e m
  split at l
  ·rename_i n hn
   have v:n≠0:=fun e=>by subst e;simp at l
   have m:=run_underlying (w:=w) m
   have hs:(Go.sizeOf e).run P w=.ok n w:=D1 hn w
   have nn:∀ q:Option Addr,(Op.equal t (.pointer none) (.pointer q)).run P w=.ok q.isNone w:=fun q=>by
    unfold Op.equal Op.maxDepth Op.equalIn;simp[m]
   have s:∀ a:Addr,(Op.equal t (.pointer (some a)) (.pointer none)).run P w=.ok false w:=fun q=>by
    unfold Op.equal Op.maxDepth Op.equalIn;simp[m]
   unfold A54 at c
   split at c
   ·simp only[Rep] at d f;subst d f;simp at c;subst c;exact⟨_,_,rfl,rfl,nn none⟩
   ·simp only[Rep] at d f;obtain⟨_,k,o,_,rfl,_⟩:=f;subst d;simp at c;subst c;exact⟨_,_,rfl,rfl,nn (some _)⟩
   ·simp only[Rep] at d f;obtain⟨_,k,o,_,rfl,_⟩:=d;subst f;simp at c;subst c;exact⟨_,_,rfl,rfl,s _⟩
   ·simp only[Rep] at d f;rw[RepC] at f;obtain⟨a,rfl,_⟩:=f;subst d;simp at c;subst c;exact⟨_,_,rfl,rfl,nn (some _)⟩
   ·simp only[Rep] at d f;rw[RepC] at d;obtain⟨a,rfl,_⟩:=d;subst f;simp at c;subst c;exact⟨_,_,rfl,rfl,s _⟩
   ·rename_i K o1 L o2
    obtain⟨z,I,c⟩:=ub c
    obtain⟨A,c⟩:=uc c
    have A:=Nat.eq_of_beq_eq_true A
    subst A
    obtain⟨C,i⟩:=Es G I
    rw[Rep] at d f
    obtain⟨x1,M,O,⟨D,_⟩,rfl,u⟩:=d
    obtain⟨x2,T,U,⟨F,_⟩,rfl,j⟩:=f
    rw[C] at D F;simp at D F;subst D F
    rcases u with u | u
    ·rw[u] at i;cases i
    ·rcases j with j | j
     ·rw[j] at i;cases i
     ·rw[u] at j;simp at j;obtain⟨rfl,rfl⟩:=j
      refine⟨_,_,rfl,rfl,?_⟩
      simp at c
      unfold Op.equal Op.maxDepth Op.equalIn
      simp[m,hs,v,sameAddr]
      by_cases e:o1=o2
      ·subst e;simp at c;simp[c]
      ·rw[aO e] at c;subst c;simp;exact e
   ·cases c
  ·cases l
 ·cases l
theorem Ase {g:Bj} {op:BinOp} {t:TypeId} {x y:AV} {k:AV→O R} {vx vy:Value} (S:SimH J β h w) (i:Looks g h) (c:Aj5 P g t op x y k=some r) (d:Rep J β h w x vx) (e:Rep J β h w y vy) (ox oy:Operand) :
  ∃ v vc,k v=some r∧(do eqGuard op t ox oy vx vy;binOp op t vx vy:Sem Value).run P w=.ok vc w∧Rep J β h w v vc:=by
 unfold Aj5 at c
 split at c
 ·rename_i b j
  obtain⟨l,c⟩:=uc c
  obtain⟨p,q,rfl,rfl,f⟩:=Asd S i j l d e
  split at c
  ·refine⟨_,.bool b,c,?_,by rw[Rep]⟩
   simp[eqGuard,binOp,f]
  ·refine⟨_,.bool (!b),c,?_,by rw[Rep]⟩
   simp[eqGuard,binOp,f]
  ·cases c
 ·exact Asc c d e ox oy
end
end Gx

namespace Gx
open Go Go.MapKept
section
variable {R:Type} {r:R} {P:Program} {J:Bool→Nat→Prop} {β:Cp} {h:Aj} {w:World} {g:Bj}
theorem sS:∀ (l:List Int) (n:Int),zZ (l.map fun m=>.int .i64 m) n=true↔n ∈ l
 | [],n=>by simp[zZ]
 | m::r,n=>by
  rw[List.map_cons,zZ]
  by_cases e:n=m
  ·simp[e]
  ·simp[e,sS r n]
theorem Asf {c:LA} {es:Array MapEntry} {l:List Int} (d:es.toList.map (fun e=>(e.key,e.val))=l.map (fun n=>((.int .i64 n:Value),(.bool true:Value)))) {x:MapEntry} (i:x ∈ es.toList):∃ n,n ∈ l∧x.key=.int .i64 n∧x.val=.bool true:=by
 have:=List.mem_map_of_mem (f:=fun e:MapEntry=>(e.key,e.val)) i
 rw[d] at this
 obtain⟨n,hn,b⟩:=List.mem_map.1 this
 simp at b
 exact⟨n,hn,b.1.symm,b.2.symm⟩
theorem A6d {es:Array MapEntry} {l:List Int} (c:es.toList.map (fun e=>(e.key,e.val))=l.map (fun n=>((.int .i64 n:Value),(.bool true:Value)))) {n:Int} (hn:n ∈ l):∃ x ∈ es.toList,x.key=.int .i64 n:=by
 have:=List.mem_map_of_mem (f:=fun n:Int=>((.int .i64 n:Value),(.bool true:Value))) hn
 rw[←c] at this
 obtain⟨x,d,b⟩:=List.mem_map.1 this
 simp at b
 exact⟨x,d,b.1⟩
theorem Asg {c:LA} {es:Array MapEntry} (A:A93 c es) (n:Int) :
  (zZ c n=false∧Instr.findNow (.int .i64) (.int .i64 n) es.toList 0=some none) ∨
  (zZ c n=true∧∃ j e,Instr.findNow (.int .i64) (.int .i64 n) es.toList 0=some (some (j,.bool true))∧es[j]?=some e∧e.key=.int .i64 n∧e.val=.bool true):=by
 obtain⟨l,rfl,t⟩:=A
 have u:∀ x ∈ es.toList,IsKey (.int .i64) x.key:=fun x v=>by
  obtain⟨m,_,f,_⟩:=Asf (c:=[]) t v
  rw[f];simp[IsKey]
 rcases findNow_spec (d:=.int .i64) (k:=.int .i64 n) (by simp[IsKey]) es.toList 0 u with⟨f,s⟩ | ⟨j,e,f,s,z⟩
 ·left
  refine⟨?_,f⟩
  cases C:zZ (l.map fun m=>.int .i64 m) n with
  | false=>rfl
  | true =>
   obtain⟨x,v,D⟩:=A6d t ((sS l n).1 C)
   exact absurd D (s x v)
 ·right
  have i:e ∈ es.toList:=List.mem_of_getElem? s
  obtain⟨m,y,b,q⟩:=Asf (c:=[]) t i
  rw[z] at b;simp at b;subst b
  refine⟨(sS l n).2 y,j,e,?_,by simpa using s,z,q⟩
  rw[f,q,Nat.zero_add]
theorem zh {t:TypeId} (hs:Am9 P t=true):∃ kt et,P.underlying t=some (.map kt et)∧P.underlying kt=some (.int .i64)∧∀ w,(zeroValue et).run P w=.ok (.bool false) w:=by
 unfold Am9 at hs
 split at hs
 ·rename_i kt et f
  simp only[Bool.and_eq_true] at hs
  obtain⟨d,e⟩:=hs
  refine⟨kt,et,f,?_,fun w=>?_⟩
  ·split at d
   ·assumption
   ·cases d
  ·split at e
   ·rename_i b
    unfold zU at b
    cases hi:P.info? et with
    | none=>rw[hi] at b;simp at b
    | some i =>
     rw[hi] at b
     cases c:i.zero with
     | none=>simp[c] at b
     | some z =>
      simp[c] at b
      have:z=.bool false:=by
       have h0:=SK (J:=fun _ _=>False) (β:=fun _=>none) (h:=[]) (w:=w) z
       rw[b,Rep] at h0;exact h0
      subst this
      simp[zeroValue,typeInfo,hi,c]
   ·cases e
 ·cases hs
theorem A6e {b:Nat} {x:Blk} {v:Value} (S:SimH J β h w) (e:Am h b=some x) (f:x.dead=false) (hr:Rep J β h w (.omap b) v) :
  ∃ k ob,x.mp=true∧β b=some (k,0)∧v=Bay x.sz k∧w.heap[k]?=some ob∧ObjIs x ob∧x.sealed=false∧x.pure=true:=by
 rw[Rep] at hr
 obtain⟨y,k,⟨c,i⟩,hr⟩:=hr
 rw[e] at c;simp at c;subst c
 rcases hr with hr | ⟨j,l⟩
 ·simp[f] at hr
 ·obtain⟨m,n,t,ob,d,q,s,_⟩:=S.mblk b x e f i
  rw[j] at d;simp at d;subst d
  exact⟨k,ob,i,j,l,q,s,n,m⟩
theorem A2i {b:Nat} {x:Blk} {v:Value} (S:SimH J β h w) (e:Am h b=some x) (f:x.dead=false) (i:x.sz=0) (hr:Rep J β h w (.omap b) v) :
  ∃ k es clk,x.mp=true∧β b=some (k,0)∧v=.map (some k)∧w.heap[k]?=some (.map es clk)∧A93 x.cells es∧x.sealed=false∧x.pure=true:=by
 obtain⟨k,ob,j,l,d,m,c,n,q⟩:=A6e S e f hr
 rw[i] at d
 rcases c with⟨_,es,clk,rfl,c⟩ | ⟨c,_⟩
 ·exact⟨k,es,clk,j,l,d,m,c,n,q⟩
 ·omega
theorem A8o {b:Nat} {x:Blk} {v:Value} (S:SimH J β h w) (e:Am h b=some x) (f:x.dead=false) (i:x.sz=1) (hr:Rep J β h w (.omap b) v) :
  ∃ k s pos,x.mp=true∧β b=some (k,0)∧v=.pointer (some ⟨k,0,none⟩)∧w.heap[k]?=some (.stringIter ⟨⟨s⟩⟩ pos)∧x.cells=[.str s,.int .i64 ((pos:Nat):Int)]∧x.sealed=false∧x.pure=true:=by
 obtain⟨k,ob,j,l,d,m,c,n,q⟩:=A6e S e f hr
 rw[i] at d
 rcases c with⟨c,_⟩ | ⟨_,s,pos,rfl,c⟩
 ·omega
 ·exact⟨k,s,pos,j,l,d,m,c,n,q⟩
theorem WC {k pos:Nat} {s:ByteArray} (b:w.heap[k]?=some (.stringIter s pos)):(getObj k).run P w=.ok (.stringIter s pos) w:=by
 simp[getObj,Sem.run,b]
theorem yF {k pos:Nat} {s:ByteArray} (ob:Obj) (b:w.heap[k]?=some (.stringIter s pos)):(setObj k ob).run P w=.ok () { w with heap:=w.heap.setIfInBounds k ob }:=by
 simp[setObj,Sem.run,b]
theorem Anr {d:Nat} {t:TypeId} {x:AV} {vx:Value} {k:AV→Fy→O R} (S:SimH J β h w) (b:sJ P d t x k=some r) (c:Rep J β h w x vx) :
  ∃ val ups,k val ups=some r∧(UpsFree d h ups→∃ vc w',(Instr.range t vx).run P w=.ok vc w'∧OpDone J β h w ups val vc w'):=by
 unfold sJ at b
 split at b
 ·rename_i s e
  rw[Rep] at c;subst c
  refine⟨_,_,b,fun f=>⟨.pointer (some ⟨w.heap.size,0,none⟩),w.alloc (.stringIter ⟨⟨s⟩⟩ 0),?_,?_⟩⟩
  ·simp only[Instr.range,Sem.run_bind,run_underlying e,Result.andThen_ok,Sem.run_pure];rfl
  have A:=Step.newObj (x:={ dead:=false,sealed:=false,pure:=true,taint:=false,sz:=1,cells:=[.str s,.int .i64 0],mp:=true }) (ob:=.stringIter ⟨⟨s⟩⟩ 0) S (f.nid (by simp[Be])) rfl rfl rfl (.inr ⟨rfl,s,0,rfl,rfl⟩) rfl
  refine⟨_,_,A,?_⟩
  rw[Rep]
  exact⟨{ dead:=false,sealed:=false,pure:=true,taint:=false,sz:=1,cells:=[.str s,.int .i64 0],mp:=true },w.heap.size,⟨by simp[Al,Ah],rfl⟩,.inr ⟨by simp,rfl⟩⟩
 ·simp at b
theorem Ash {d:Nat} {t:TypeId} {it:AV} {b:Bool} {vi:Value} {k:AV→Fy→O R} (S:SimH J β h w) (D:Looks g h) (m:Aj4 g it b k=some r) (hi:Rep J β h w it vi) :
  ∃ val ups,k val ups=some r∧(UpsFree d h ups→∃ vc w',(Instr.next vi b t).run P w=.ok vc w'∧OpDone J β h w ups val vc w'):=by
 unfold Aj4 at m
 split at m
 ·rename_i F
  obtain⟨x,G,I⟩:=ub m
  obtain⟨A,f⟩:=uc I
  simp only[Bool.and_eq_true] at A
  obtain⟨i,n⟩:=A
  have n:=Nat.eq_of_beq_eq_true n
  obtain⟨C,q⟩:=Es D G
  obtain⟨kk,s,pos,_,K,rfl,l,u,v,y⟩:=A8o S C q n hi
  rw[u] at f
  simp only at f
  have z:=SM l
  cases c:decide (((pos:Nat):Int)<(s.length:Int)) with
  | true =>
   rw[c] at f
   have c:pos<s.length:=by have:=of_decide_eq_true c;omega
   have e:pos<(⟨⟨s⟩⟩:ByteArray).size:=c
   refine⟨_,_,f,fun _=>⟨.tuple #[.bool true,goInt pos,.int .i32 ((OD s pos).1:Nat)],{ w with heap:=w.heap.setIfInBounds kk (.stringIter ⟨⟨s⟩⟩ (pos+(OD s pos).2)) },?_,J,β,?_,?_⟩⟩
   ·simp[Instr.next,WC l,e,yF _ l,OD]
   ·show Step J β h w J β (Gg h F _) _
    refine Step.setObj (ob:=.stringIter ⟨⟨s⟩⟩ pos) S C q i K l (by simp[z]) (fun j L=>by simp[Array.getElem?_setIfInBounds,Ne.symm L]) (by simp) rfl rfl rfl (.inr ⟨n,s,pos+(OD s pos).2,rfl,by simp⟩) q v y rfl i
   ·rw[Rep]
    refine⟨_,rfl,?_⟩
    simp[Reps,Rep,goInt]
  | false =>
   rw[c] at f
   have c:¬ pos<s.length:=by have:=of_decide_eq_false c;omega
   have e:¬ pos<(⟨⟨s⟩⟩:ByteArray).size:=c
   refine⟨_,_,f,fun _=>⟨.tuple #[.bool false],w,?_,J,β,Step.refl S,?_⟩⟩
   ·simp[Instr.next,WC l,e]
   ·rw[Rep]
    refine⟨_,rfl,?_⟩
    simp[Reps,Rep]
 ·simp at m
theorem zi {d:Nat} {t:TypeId} {k:AV→Fy→O R} (S:SimH J β h w) (b:GD d none k=some r) :
  ∃ val ups,k val ups=some r∧(UpsFree d h ups→∃ vc w',(Instr.makeMap t none).run P w=.ok vc w'∧OpDone J β h w ups val vc w'):=by
 unfold GD at b
 refine⟨_,_,b,fun c=>⟨.map (some w.heap.size),w.alloc (.map #[] 0),rfl,?_⟩⟩
 have A:=Step.newObj (x:={ dead:=false,sealed:=false,pure:=true,taint:=false,sz:=0,cells:=[],mp:=true }) (ob:=.map #[] 0) S (c.nid (by simp[Be])) rfl rfl rfl (.inl ⟨rfl,#[],0,rfl,[],rfl,by simp⟩) rfl
 refine⟨_,_,A,?_⟩
 rw[Rep]
 exact⟨{ dead:=false,sealed:=false,pure:=true,taint:=false,sz:=0,cells:=[],mp:=true },w.heap.size,⟨by simp[Al,Ah],rfl⟩,.inr ⟨by simp,rfl⟩⟩
theorem Asi {t:TypeId} {m key:AV} {c:Bool} {vm vk:Value} {k:AV→O R} (S:SimH J β h w) (y:Looks g h) (l:Aj3 P g t m key c k=some r) (z:Rep J β h w m vm) (f:Rep J β h w key vk) :
  ∃ v vc,k v=some r∧(Instr.lookup t vm vk c).run P w=.ok vc w∧Rep J β h w v vc:=by
 unfold Aj3 at l
 split at l
 ·rename_i b n
  obtain⟨hs,A⟩:=uc l
  obtain⟨x,C,D⟩:=ub A
  obtain⟨d,F⟩:=uc D
  simp only[Bool.and_eq_true] at d
  obtain⟨d,q⟩:=d
  have q:=Nat.eq_of_beq_eq_true q
  obtain⟨G,I⟩:=Es y C
  rw[Rep] at f;subst f
  obtain⟨kk,es,clk,_,K,rfl,f,hr,_,_⟩:=A2i S G I q z
  obtain⟨kt,et,u1,u2,u3⟩:=zh hs
  refine⟨_,.bool (zZ x.cells n),F,?_,by rw[Rep]⟩
  have i:IsKey (.int .i64) (.int .i64 n):=by simp[IsKey]
  rcases Asg hr n with⟨s,u⟩ | ⟨s,j,e,u,_,_,_⟩
  ·rw[s]
   simp[Instr.lookup,run_underlying u1,run_getObj_map f,run_checkKey u2 i,run_findKey u2 u,u3,Result.andThen]
  ·rw[s]
   simp[Instr.lookup,run_underlying u1,run_getObj_map f,run_checkKey u2 i,run_findKey u2 u,Result.andThen]
 ·simp at l
theorem Ans {t:TypeId} {m key val:AV} {vm vk vv:Value} {k:AV→Fy→O R} (S:SimH J β h w) (U:Looks g h) (A:sI P g t m key val k=some r) (V:Rep J β h w m vm) (d:Rep J β h w key vk) (K:Rep J β h w val vv) :
  ∃ ups,k .undef ups=some r∧∃ J' β' w',(Instr.mapUpdate t vm vk vv).run P w=.ok () w'∧Step J β h w J' β' (Al ups h) w':=by
 unfold sI at A
 split at A
 ·rename_i b n
  obtain⟨hs,X⟩:=uc A
  obtain⟨x,Y,h2⟩:=ub X
  obtain⟨c,h3⟩:=uc h2
  simp only[Bool.and_eq_true] at c
  obtain⟨c,u⟩:=c
  have u:=Nat.eq_of_beq_eq_true u
  obtain⟨C,v⟩:=Es U Y
  simp only[Rep] at d K;subst d K
  obtain⟨kk,es,clk,_,L,rfl,d,hr,y,z⟩:=A2i S C v u V
  obtain⟨kt,et,u1,u2,u3⟩:=zh hs
  have f:IsKey (.int .i64) (.int .i64 n):=by simp[IsKey]
  have hlt:=SM d
  refine⟨_,h3,J,β,?_⟩
  rcases Asg hr n with⟨D,F⟩ | ⟨D,j,e,F,M,T,g5⟩
  ·refine⟨{ w with heap:=w.heap.setIfInBounds kk (.map (es.push { key:=.int .i64 n,val:=.bool true,born:=clk }) (clk+1)) },?_,?_⟩
   ·simp[Instr.mapUpdate,run_underlying u1,run_getObj_map d,run_checkKey u2 f,run_findKey u2 F,run_setObj_map _ d,Result.andThen]
   ·refine Step.setObj S C v c L d (heap_set d).1 (fun j G=>(heap_set d).2 j G) (by simp) rfl rfl rfl (.inl ⟨u,_,_,rfl,?_⟩) v y z rfl c
    obtain⟨l,q,s⟩:=hr
    refine⟨l++[n],?_,?_⟩
    ·show A53 x.cells n=_
     unfold A53;rw[D,q];simp
    ·simp[s]
  ·refine⟨{ w with heap:=w.heap.setIfInBounds kk (.map (es.modify j fun e=>{ e with key:=.int .i64 n,val:=.bool true }) clk) },?_,?_⟩
   ·simp[Instr.mapUpdate,run_underlying u1,run_getObj_map d,run_checkKey u2 f,run_findKey u2 F,M,T,run_keyThatStays f,run_setObj_map _ d,Result.andThen]
   ·refine Step.setObj S C v c L d (heap_set d).1 (fun j G=>(heap_set d).2 j G) (by simp) rfl rfl rfl (.inl ⟨u,_,_,rfl,?_⟩) v y z rfl c
    obtain⟨l,q,s⟩:=hr
    refine⟨l,?_,?_⟩
    ·show A53 x.cells n=_
     unfold A53;rw[D,q];rfl
    ·have:es.modify j (fun e=>{ e with key:=.int .i64 n,val:=.bool true })=es:=by
      apply Array.ext_getElem?
      intro i
      rw[Array.getElem?_modify]
      split
      ·rename_i I;subst I
       rw[M];simp;rw[←T,←g5]
      ·rfl
     rw[this];exact s
 ·simp at A
end
end Gx

namespace Gx
open Go
def mD (E:Env):Prop:=∀ (R:Type) (r:R) (k:AV→Fy→O R) (J:Bool→Nat→Prop) (β:Cp) (h:Aj) (w:World) (g:Bj) (d f:Nat) (args:LA) (vs:List Value),
 SimH J β h w→Looks g h→Aj6 E g d f args k=some r→Reps J β h w args vs →
 ∃ val ups,k val ups=some r∧(UpsFree d h ups→Calls E.P f vs.toArray w fun e w'=>∃ vc,e=.returned vc∧OpDone J β h w ups val vc w')
section
variable {R:Type} {r:R} {P:Program} {J J':Bool→Nat→Prop} {β:Cp} {h:Aj} {w w':World} {g:Bj} {o:Oper} {a:Act} {next:Act→World→Prop} {Q:Exit→Act→World→Prop}
theorem Hf {vc:Value} (b:(execOp a.eval o).run P w=.ok (.value vc) w') (hn:next (a.put o.dst vc) w'):o.wp P a w next Q:=by
 unfold Oper.wp;rw[b];exact hn
theorem Asj (b:(execOp a.eval o).run P w=.ok .skip w') (hn:next (a.put o.dst undef) w'):o.wp P a w next Q:=by
 unfold Oper.wp;rw[b];exact hn
theorem OpDone.same (S:SimH J β h w) {v:AV} {vc:Value} (b:Rep J β h w v vc):OpDone J β h w [] v vc w:=⟨J,β,Step.refl S,b⟩
theorem zj {s:Ip} (SS:SimS J β h w s a.tmps):∀ (xs:List Operand),Reps J β h w (xs.map (ev s)) (xs.map a.eval)
 | []=>by simp[Reps]
 | x::r=>by rw[List.map_cons,List.map_cons,Reps];exact⟨_,_,rfl,Bi SS x,zj SS r⟩
theorem DX {s:Ip} (SS:SimS J β h w s a.tmps):∀ (ps:List (Nat×Operand)),RepParts J β h w (ps.map fun p=>(p.1,ev s p.2)) (ps.map fun p=>(p.1,a.eval p.2))
 | []=>by simp[RepParts]
 | p::r=>by rw[List.map_cons,List.map_cons,RepParts];exact⟨_,_,rfl,Bi SS p.2,DX SS r⟩
theorem zk {s:Ip} (SS:SimS J β h w s a.tmps) (x:Option Operand):IR J β h w (x.map (ev s)) (x.map a.eval):=by
 cases x with
 | none=>simp[IR]
 | some x=>simp[IR];exact Bi SS x
theorem Reps.append:∀ {c e:LA} {cs b:List Value},Reps J β h w c cs→Reps J β h w e b→Reps J β h w (c++e) (cs++b)
 | [],e,cs,b,d,f=>by rw[Reps] at d;subst d;exact f
 | x::r,e,cs,b,d,f=>by
  rw[Reps] at d
  obtain⟨u,us,rfl,i,j⟩:=d
  rw[List.cons_append,List.cons_append,Reps]
  exact⟨u,us++b,rfl,i,Reps.append j f⟩
theorem Ask {J:Nat→Prop}:∀ {c:LA} {cs:List Value},Az c=true→Reps (fun _ _=>False) (fun _=>none) [] w c cs→RepCs J w c (fun j=>cs[j]?) 0∧cs.length=c.length:=by
 intro c cs i hr
 rw[C0] at hr
 refine⟨?_,hr.1⟩
 rw[B4]
 intro j x d
 have b:j<cs.length:=by rw[hr.1];exact(List.getElem?_eq_some_iff.1 d).1
 refine⟨cs[j],by simp[b],?_⟩
 have e:=hr.2 j x cs[j] d (List.getElem?_eq_getElem b)
 have k:Az [x]=true:=by
  clear hr e b
  induction c generalizing j with
  | nil=>simp at d
  | cons y r l =>
   have f:Az r=true:=by unfold Az at i;split at i<;>simp_all
   cases j with
   | zero=>simp at d;subst d;cases y<;>simp_all[Az]
   | succ j=>exact l f j (by simpa using d)
 cases x<;>simp[Az] at k<;>(rw[Rep] at e;rw[RepC];exact e)
theorem A3n {co:Bool} {v:AV} {vv:Value} (h0:∀ (J:Bool→Nat→Prop) (β:Cp) (h:Aj),Rep J β h w v vv):Rep J β h w (A50 co v) vv:=by
 unfold A50
 split
 ·rename_i c
  cases d:Az c with
  | false=>exact h0 J β h
  | true =>
   have b:=h0 (fun _ _=>False) (fun _=>none) []
   rw[Rep] at b
   obtain⟨cs,rfl,e⟩:=b
   obtain⟨f,i⟩:=Ask (J:=J false) d e
   rw[cond_true,Rep]
   exact⟨cs,rfl,i,f⟩
 ·exact h0 J β h
theorem mE {d:Nat}:∀ {l:List (Nat×Nat)} {j:Nat} {c:LA},1≤j→Be (Hn d l j c).2 (nid d)=false
 | [],_,_,_=>by simp[Hn,Be]
 | (o,sz)::l,j,c,b=>by
  rw[Hn]
  split
  ·simp only[Be]
   rw[aO (by omega),cond_false]
   exact mE (by omega)
  ·exact mE (by omega)
theorem Agx {d:Nat} {t:TypeId} {k:AV→Fy→O R} (S:SimH J β h w) (n:gF P g d t k=some r) :
  ∃ v val ups,(∃ i,P.info? t=some i∧i.zero=some v)∧k val ups=some r∧(UpsFree d h ups→∃ vc w',(Instr.box t v).run P w=.ok vc w'∧OpDone J β h w ups val vc w'):=by
 unfold gF at n
 split at n
 ·rename_i c f
  obtain⟨z,G⟩:=uc n
  simp only[Bool.and_eq_true] at z
  obtain⟨I,q⟩:=z
  obtain⟨v,K,L⟩:∃ v,(∃ i,P.info? t=some i∧i.zero=some v)∧ry v=.agg c:=by
   unfold zU at f
   cases hi:P.info? t with
   | none=>simp[hi] at f
   | some i =>
    cases e:i.zero with
    | none=>simp[hi,e] at f
    | some v=>simp[hi,e] at f;exact⟨v,⟨i,rfl,e⟩,f⟩
  have hr:=SK (J:=J) (β:=β) (h:=h) (w:=w) v
  rw[L,Rep] at hr
  obtain⟨cs,rfl,hr⟩:=hr
  refine⟨_,_,_,K,G,fun C=>⟨_,_,SP,?_⟩⟩
  have hn:=C.nid (by simp[Jz,Vb,Be])
  obtain⟨β',A,hA⟩:=Y1 (d:=d) (l:=Vc P t) (j:=1) S (Nat.le_refl _) (by simp at I;omega) (fun i hi M s=>C _ (by rw[Jz,s];rfl) (by unfold OG;simp;omega)) hr
  have x:Am (Al (Hn d (Vc P t) 1 c).2 h) (nid d)=none:=by rw[Db _ _ _ (mE (Nat.le_refl _))];exact hn
  have m:∀ (j:Nat) u,cs[j]?=some u→u.oneCell'=true:=fun j u D=>by
   rw[C0] at hr
   have b:j<c.length:=by rw[←hr.1];exact(List.getElem?_eq_some_iff.1 D).1
   exact Qy (DW q j c[j] (List.getElem?_eq_getElem b)) (hr.2 j c[j] u (List.getElem?_eq_getElem b) D)
  rw[C0] at hA
  refine OpDone.after A (gM A.sim x rfl rfl (by simp[Value.cells,hA.1]) ⟨fun T=>by simp at T,fun _ j y F=>?_⟩) (Tr _ _)
  have b:j<cs.length:=by rw[hA.1];exact(List.getElem?_eq_some_iff.1 F).1
  exact⟨cs[j],by simp[Value.cells,b],hA.2 j y _ F (List.getElem?_eq_getElem b),m j _ (List.getElem?_eq_getElem b)⟩
 ·simp at n
theorem Ant {co:Bool} {d:Nat} {t:TypeId} {k:AV→Fy→O R} (S:SimH J β h w) (F:Looks g h) (f:sE P g co d t k=some r) :
  ∃ v val ups,(∃ i,P.info? t=some i∧i.zero=some v)∧k val ups=some r∧(UpsFree d h ups→∃ vc w',(Instr.box t v).run P w=.ok vc w'∧OpDone J β h w ups val vc w'):=by
 have zv:∀ {z:AV},zU P t=some z→∃ v,(∃ i,P.info? t=some i∧i.zero=some v)∧ry v=z:=by
  intro z c
  unfold zU at c
  cases hi:P.info? t with
  | none=>simp[hi] at c
  | some i =>
   cases l:i.zero with
   | none=>simp[hi,l] at c
   | some v=>simp[hi,l] at c;exact⟨v,⟨i,rfl,l⟩,c⟩
 unfold sE at f
 split at f
 ·rename_i K L c
  obtain⟨v,m,n⟩:=zv c
  obtain⟨sz,hs,f⟩:=ub f
  refine⟨v,_,_,m,f,fun D=>⟨_,_,SP,?_⟩⟩
  have hr:=SK (J:=J) (β:=β) (h:=h) (w:=w) v
  rw[n,Rep] at hr;subst hr
  have q:∀ b,b=nid d+1→OG d b=true:=fun b G=>by subst G;unfold OG nid;simp
  have s:Am h (nid d+1)=none:=D _ (by simp[Be]) (q _ rfl)
  have u:Am h (nid d)=none:=D.nid (by simp[Be])
  have A:=Step.newNone S (d:=nid d+1) (x:=Hd sz) s rfl
  have e:([(nid d+1,some (Hd sz)),(nid d,some { dead:=false,sealed:=false,pure:=false,taint:=false,sz:=0,cells:=[.own (nid d+1) 0 0] })]:Fy)=[(nid d+1,some (Hd sz))]++[(nid d,some { dead:=false,sealed:=false,pure:=false,taint:=false,sz:=0,cells:=[.own (nid d+1) 0 0] })]:=rfl
  rw[e]
  refine OpDone.after A (gM A.sim ?_ rfl rfl (by simp[Value.cells]) ⟨fun I=>by simp at I,fun _ j y C=>?_⟩) (Tr _ _)
  ·simp only[Al];rw[Ah,if_neg (by omega)];exact u
  ·cases j with
   | zero =>
    simp at C;subst C
    refine⟨.slice none 0 0,by simp[Value.cells],?_,rfl⟩
    rw[Rep]
    exact⟨Hd sz,none,0,⟨by simp[Al,Ah],rfl⟩,rfl,Nat.le_refl _,.inl rfl⟩
   | succ j=>simp at C
 ·rename_i z c _
  obtain⟨v,m,n⟩:=zv c
  obtain⟨val,ups,s,u⟩:=za S F f (vv:=v) (A3n fun J β h=>by rw[←n];exact SK v)
  exact⟨v,val,ups,m,s,u⟩
 ·simp at f
theorem Asl {c x y:AV} {vc vx vy:Value} {k:AV→O R} (d:Aj7 c x y k=some r) (e:Rep J β h w c vc) (f:Rep J β h w x vx) (i:Rep J β h w y vy) :
  ∃ v,k v=some r∧∃ t:Bool,vc=.bool t∧Rep J β h w v (if t then vx else vy):=by
 unfold Aj7 at d
 split at d
 ·rename_i t a b
  rw[Rep] at e f i
  subst e f i
  exact⟨_,d,t,rfl,by cases t<;>simp[Rep]⟩
 ·rename_i t x _
  rw[Rep] at e;subst e
  obtain⟨j,l⟩:=uc d
  subst j
  exact⟨_,l,true,rfl,f⟩
 ·rename_i t _ _ _
  rw[Rep] at e;subst e
  obtain⟨j,l⟩:=Aya d
  subst j
  exact⟨_,l,false,rfl,i⟩
 ·rename_i t _ _ _
  rw[Rep] at e;subst e
  cases t
  ·exact⟨_,d,false,rfl,i⟩
  ·exact⟨_,d,true,rfl,f⟩
 ·simp at d
theorem Ayi {E:Env} (hC:mD E) {d:Nat} {s:Ip} {k:AV→Fy→O R} (S:SimH J β h w) (SS:SimS J β h w s a.tmps) (U:Looks g h)
  (A:Agu E g d (ev s) o.op k=some r) :
  ∃ val ups,k val ups=some r∧(UpsFree d h ups→(∀ vc w',OpDone J β h w ups val vc w'→next (a.put o.dst vc) w')→o.wp E.P a w next Q):=by
 unfold Agu at A
 have same:∀ {v:AV} {vc:Value},k v []=some r→(execOp a.eval o).run E.P w=.ok (.value vc) w→Rep J β h w v vc →
   ∃ val ups,k val ups=some r∧(UpsFree d h ups→(∀ vc w',OpDone J β h w ups val vc w'→next (a.put o.dst vc) w')→o.wp E.P a w next Q) :=
  fun hk hrun hr=>⟨_,_,hk,fun _ hn=>Hf hrun (hn _ _ (OpDone.same S hr))⟩
 split at A
 ·rename_i x G
  exact same A (by simp[execOp,G]) (Bi SS x)
 ·rename_i x G
  exact same A (by simp[execOp,G]) (Bi SS x)
 ·rename_i c x y G
  obtain⟨v,C,D⟩:=Asl A (Bi SS c) (Bi SS x) (Bi SS y)
  obtain⟨t,ht,hr⟩:=D
  refine same C (vc:=if t then a.eval x else a.eval y) ?_ hr
  cases t<;>simp[execOp,G,ht,Go.asBool]
 ·rename_i t G
  obtain⟨v,val,ups,h0,C,D⟩:∃ v val ups,(∃ i,E.P.info? t=some i∧i.zero=some v)∧k val ups=some r∧(UpsFree d h ups→∃ vc w',(Instr.box t v).run E.P w=.ok vc w'∧OpDone J β h w ups val vc w'):=by
   cases hm:Kt E.cob (d+1000000) with
   | true=>rw[hm] at A;exact Agx S A
   | false=>rw[hm] at A;exact Ant S U A
  refine⟨val,ups,C,fun T hn=>?_⟩
  obtain⟨vc,w',F,I⟩:=D T
  refine Hf ?_ (hn vc w' I)
  rw[SP] at F
  simp only[Result.ok.injEq] at F
  obtain⟨rfl,rfl⟩:=F
  obtain⟨i,hi,hiz⟩:=h0
  simp[execOp,G,Instr.alloc,zeroValue,typeInfo,hi,hiz,newVar,newRow]
 ·rename_i t x G
  obtain⟨v',h0,hv'⟩:=Ank A (Bi SS x)
  obtain⟨val,ups,C,D⟩:=za S U h0 hv'
  refine⟨val,ups,C,fun T hn=>?_⟩
  obtain⟨vc,w',F,I⟩:=D T
  exact Hf (by simp[execOp,G,F]) (hn vc w' I)
 ·rename_i t parts G
  rw[mB] at A
  obtain⟨v,M,A⟩:=ub A
  obtain⟨u,C,D⟩:=Anq (P:=E.P) S M (DX SS parts.toList)
  obtain⟨val,ups,F,I⟩:=Ayf S A D
  refine⟨val,ups,F,fun T hn=>Hf ?_ (hn _ _ (I T))⟩
  have:(parts.map fun p=>(p.1,a.eval p.2))=(parts.toList.map fun p=>(p.1,a.eval p.2)).toArray:=by apply Array.ext';simp
  simp[execOp,G,this,C]
 ·rename_i t len parts G
  have:(parts.map fun p=>(p.1,a.eval p.2))=(parts.toList.map fun p=>(p.1,a.eval p.2)).toArray:=by apply Array.ext';simp
  cases hhard:(parts.toList.map fun p=>(p.1,ev s p.2)).any fun p=>A51 p.2 with
  | true =>
   rw[hhard] at A
   obtain⟨val,ups,C,D⟩:=sR S A (DX SS parts.toList)
   refine⟨val,ups,C,fun T hn=>?_⟩
   obtain⟨vc,w',F,I⟩:=D T
   exact Hf (by simp[execOp,G,this,F]) (hn vc w' I)
  | false =>
   rw[hhard] at A
   obtain⟨val,ups,C,D⟩:=nQ S U A (DX SS parts.toList)
   refine⟨val,ups,C,fun T hn=>?_⟩
   obtain⟨vc,w',F,I⟩:=D T
   exact Hf (by simp[execOp,G,this,F]) (hn vc w' I)
 ·rename_i t p G
  obtain⟨v,vc,C,D,F⟩:=uD S U A (Bi SS p)
  exact same C (by simp[execOp,G,D]) F
 ·rename_i t p x G
  obtain⟨val,ups,C,J',β',w',D,F,rfl⟩:=Anj S U A (Bi SS p) (Bi SS x)
  exact⟨.undef,ups,C,fun _ hn=>Asj (w':=w') (by simp[execOp,G,D]) (hn undef w' ⟨J',β',F,by simp[Rep]⟩)⟩
 ·rename_i x G
  have C:=Bi SS x
  split at A
  ·rename_i c oo X
   rw[X] at C
   refine same A (vc:=a.eval x) ?_ C
   rw[Rep,RepC] at C
   obtain⟨ad,D,_⟩:=C
   simp[execOp,G,D]
  ·rename_i b oo X
   rw[X] at C
   refine same A (vc:=a.eval x) ?_ C
   rw[Rep] at C
   obtain⟨_,kk,o',_,D,_⟩:=C
   simp[execOp,G,D]
  ·simp at A
 ·rename_i op t x y t2 G
  obtain⟨v,vc,C,D,F⟩:=Ase S U A (Bi SS x) (Bi SS y) x y
  refine same C ?_ F
  simp only[execOp,G]
  rw[Sem.run_bind,D];simp
 ·rename_i op t x G
  obtain⟨v,M,A⟩:=ub A
  obtain⟨vc,D,F⟩:=A3j (P:=E.P) M (Bi SS x)
  exact same A (by simp[execOp,G,D]) F
 ·rename_i src dst x G
  obtain⟨val,ups,C,D⟩:=Ano S U A (Bi SS x)
  refine⟨val,ups,C,fun T hn=>?_⟩
  obtain⟨vc,w',F,I⟩:=D T
  exact Hf (by simp[execOp,G,F]) (hn vc w' I)
 ·rename_i f first caps G
  obtain⟨T,A⟩:=uc A
  have hf':f<1000000:=by simpa using T
  have key:∀ (a n:Nat),a<1000000→(a+1000000*n)%1000000=a∧(a+1000000*n)/1000000=n:=by intro a n h;omega
  have e1:=(key f first.toList.length hf').1
  have e2:=(key f first.toList.length hf').2
  refine same (vc:=.func (.func f) ⟨first.toList.map a.eval⟩ ⟨caps.toList.map a.eval⟩) A ?_ ?_
  ·simp only[execOp,G,Instr.makeFunc]
   simp
   refine⟨?_,?_⟩<;>(apply Array.ext';simp)
  ·rw[Rep,e1,e2]
   refine⟨(first.toList++caps.toList).map a.eval,?_,zj SS _⟩
   simp
 ·rename_i t l c G
  obtain⟨val,ups,C,D⟩:=Ar6 S A (Bi SS l) (Bi SS c)
  refine⟨val,ups,C,fun T hn=>?_⟩
  obtain⟨vc,w',F,I⟩:=D T
  exact Hf (by simp[execOp,G,F]) (hn vc w' I)
 ·rename_i t x lo hi mx G
  obtain⟨v,vc,C,D,F⟩:=Ani U A (Bi SS x) (zk SS lo) (zk SS hi) (zk SS mx)
  exact same C (by simp[execOp,G,D]) F
 ·rename_i t x f G
  obtain⟨v,vc,C,D,F⟩:=sO A (Bi SS x)
  exact same C (by simp[execOp,G,D]) F
 ·rename_i t x f G
  obtain⟨v,vc,C,D,F⟩:=Ang A (Bi SS x)
  exact same C (by simp[execOp,G,D]) F
 ·rename_i t x i G
  obtain⟨v,vc,C,D,F⟩:=sN A (Bi SS x) (Bi SS i)
  exact same C (by simp[execOp,G,D]) F
 ·rename_i t x i G
  obtain⟨v,vc,C,D,F⟩:=Anh A (Bi SS x) (Bi SS i)
  exact same C (by simp[execOp,G,D]) F
 ·rename_i t rr G
  cases rr with
  | some x=>simp[GD] at A
  | none =>
   obtain⟨val,ups,C,D⟩:=zi (P:=E.P) (t:=t) S A
   refine⟨val,ups,C,fun T hn=>?_⟩
   obtain⟨vc,w',F,I⟩:=D T
   exact Hf (by simp[execOp,G,F]) (hn vc w' I)
 ·rename_i t m x y G
  obtain⟨ups,C,J',β',w',D,F⟩:=Ans S U A (Bi SS m) (Bi SS x) (Bi SS y)
  exact⟨.undef,ups,C,fun _ hn=>Asj (w':=w') (by simp[execOp,G,D]) (hn undef w' ⟨J',β',F,by simp[Rep]⟩)⟩
 ·rename_i t m x c G
  obtain⟨v,vc,C,D,F⟩:=Asi S U A (Bi SS m) (Bi SS x)
  exact same C (by simp[execOp,G,D]) F
 ·rename_i t x G
  obtain⟨val,ups,C,D⟩:=Anr (P:=E.P) S A (Bi SS x)
  refine⟨val,ups,C,fun T hn=>?_⟩
  obtain⟨vc,w',F,I⟩:=D T
  exact Hf (by simp[execOp,G,F]) (hn vc w' I)
 ·rename_i x b G
  obtain⟨val,ups,C,D⟩:=Ash (P:=E.P) (d:=d) (t:=o.type) S U A (Bi SS x)
  refine⟨val,ups,C,fun T hn=>?_⟩
  obtain⟨vc,w',F,I⟩:=D T
  exact Hf (by simp[execOp,G,F]) (hn vc w' I)
 ·rename_i t i G
  split at A
  ·rename_i vs ht
   obtain⟨v,M,A⟩:=ub A
   have C:=Bi SS t
   rw[ht,Rep] at C
   obtain⟨cs,D,F⟩:=C
   rw[C0] at F
   have hlt:i<cs.length:=by rw[F.1];exact(List.getElem?_eq_some_iff.1 M).1
   refine same A (vc:=cs[i]) ?_ (F.2 i v _ M (List.getElem?_eq_getElem hlt))
   simp[execOp,G,Instr.extract,D,hlt]
  ·simp at A
 ·rename_i c G
  split at A
  ·rename_i V
   split at A
   ·rename_i x t C D
    obtain⟨v,M,A⟩:=ub A
    have e1:c.args=#[x]:=by apply Array.ext';simpa using C
    have e2:c.argTypes=#[t]:=by apply Array.ext';simpa using D
    obtain⟨vc,F,I⟩:=Ayb (P:=E.P) (ty:=o.type) M (Bi SS x)
    refine same A ?_ I
    simp[execOp,G,resolve,V,e1,e2,invoke,builtin,F]
   ·simp at A
  ·rename_i V
   split at A
   ·rename_i x y t tx C D
    have e1:c.args=#[x,y]:=by apply Array.ext';simpa using C
    have e2:c.argTypes=#[t,tx]:=by apply Array.ext';simpa using D
    obtain⟨val,ups,F,I⟩:=Agw (ty:=o.type) S U A (Bi SS x) (Bi SS y)
    refine⟨val,ups,F,fun T hn=>?_⟩
    obtain⟨vc,w',h5,h6⟩:=I T
    refine Hf ?_ (hn vc w' h6)
    simp[execOp,G,resolve,V,e1,e2,invoke,builtin,h5]
   ·simp at A
  ·rename_i V
   split at A
   ·rename_i x y t tx C D
    have e1:c.args=#[x,y]:=by apply Array.ext';simpa using C
    have e2:c.argTypes=#[t,tx]:=by apply Array.ext';simpa using D
    obtain⟨val,ups,F,vc,w',h5,h6⟩:=Ar9 (tx:=tx) (ty:=o.type) S U A (Bi SS x) (Bi SS y)
    refine⟨val,ups,F,fun T hn=>?_⟩
    refine Hf ?_ (hn vc w' h6)
    simp[execOp,G,resolve,V,e1,e2,invoke,builtin,h5]
   ·simp at A
  ·rename_i V
   split at A
   ·rename_i x t C D
    have e1:c.args=#[x]:=by apply Array.ext';simpa using C
    have e2:c.argTypes=#[t]:=by apply Array.ext';simpa using D
    obtain⟨val,ups,F,vc,w',h5,h6⟩:=Ann (ty:=o.type) S U A (Bi SS x)
    refine⟨val,ups,F,fun T hn=>?_⟩
    refine Hf ?_ (hn vc w' h6)
    simp[execOp,G,resolve,V,e1,e2,invoke,builtin,h5]
   ·simp at A
  ·rename_i V
   split at A
   ·rename_i x y C
    obtain⟨v,M,A⟩:=ub A
    have e1:c.args=#[x,y]:=by apply Array.ext';simpa using C
    have D:=Bi SS x
    have F:=Bi SS y
    unfold A3g at M
    split at M
    ·rename_i k1 a1 k2 a2 X hy
     simp at M;subst M
     rw[X,Rep] at D;rw[hy,Rep] at F
     refine same A (vc:=.int k1 (Mc a1 a2)) ?_ (by rw[Rep])
     simp[execOp,G,resolve,V,e1,invoke,builtin,D,F,Builtin.min_,Builtin.min2,Mc,cond_eq_ite]
    ·simp at M
   ·rename_i x y z C
    obtain⟨q,hq,A⟩:=ub A
    obtain⟨v,M,A⟩:=ub A
    have e1:c.args=#[x,y,z]:=by apply Array.ext';simpa using C
    have D:=Bi SS x
    have F:=Bi SS y
    have I:=Bi SS z
    unfold A3g at hq
    split at hq
    ·rename_i k1 a1 k2 a2 X hy
     simp at hq;subst hq
     unfold A3g at M
     split at M
     ·rename_i k3 a3 k4 a4 hx2 hz
      simp at hx2;obtain⟨rfl,rfl⟩:=hx2
      simp at M;subst M
      rw[X,Rep] at D;rw[hy,Rep] at F;rw[hz,Rep] at I
      refine same A (vc:=.int k1 (Mc (Mc a1 a2) a4)) ?_ (by rw[Rep])
      simp[execOp,G,resolve,V,e1,invoke,builtin,D,F,I,Builtin.min_,Builtin.min2,Mc,cond_eq_ite]
     ·simp at M
    ·simp at hq
   ·simp at A
  ·rename_i V
   split at A
   ·rename_i x y C
    obtain⟨v,M,A⟩:=ub A
    have e1:c.args=#[x,y]:=by apply Array.ext';simpa using C
    have D:=Bi SS x
    have F:=Bi SS y
    unfold A3h at M
    split at M
    ·rename_i k1 a1 k2 a2 X hy
     simp at M;subst M
     rw[X,Rep] at D;rw[hy,Rep] at F
     refine same A (vc:=.int k1 (ly a1 a2)) ?_ (by rw[Rep])
     simp[execOp,G,resolve,V,e1,invoke,builtin,D,F,Builtin.max_,Builtin.max2,ly,cond_eq_ite]
    ·simp at M
   ·rename_i x y z C
    obtain⟨q,hq,A⟩:=ub A
    obtain⟨v,M,A⟩:=ub A
    have e1:c.args=#[x,y,z]:=by apply Array.ext';simpa using C
    have D:=Bi SS x
    have F:=Bi SS y
    have I:=Bi SS z
    unfold A3h at hq
    split at hq
    ·rename_i k1 a1 k2 a2 X hy
     simp at hq;subst hq
     unfold A3h at M
     split at M
     ·rename_i k3 a3 k4 a4 hx2 hz
      simp at hx2;obtain⟨rfl,rfl⟩:=hx2
      simp at M;subst M
      rw[X,Rep] at D;rw[hy,Rep] at F;rw[hz,Rep] at I
      refine same A (vc:=.int k1 (ly (ly a1 a2) a4)) ?_ (by rw[Rep])
      simp[execOp,G,resolve,V,e1,invoke,builtin,D,F,I,Builtin.max_,Builtin.max2,ly,cond_eq_ite]
     ·simp at M
    ·simp at hq
   ·simp at A
  ·rename_i V
   split at A
   ·rename_i x C
    have e1:c.args=#[x]:=by apply Array.ext';simpa using C
    obtain⟨val,ups,F,I⟩:=sP (P:=E.P) (d:=d) (ts:=c.argTypes) (ty:=o.type) S U A (Bi SS x)
    refine⟨val,ups,F,fun T hn=>?_⟩
    obtain⟨vc,w',h5,h6⟩:=I T
    refine Hf ?_ (hn vc w' h6)
    simp[execOp,G,resolve,V,e1,invoke,builtin,h5]
   ·simp at A
  ·rename_i V
   split at A
   ·rename_i x y t tx C D
    have e1:c.args=#[x,y]:=by apply Array.ext';simpa using C
    have e2:c.argTypes=#[t,tx]:=by apply Array.ext';simpa using D
    obtain⟨val,ups,F,I⟩:=sQ (d:=d) (it:=tx) (ty:=o.type) S U A (Bi SS x) (Bi SS y)
    refine⟨val,ups,F,fun T hn=>?_⟩
    obtain⟨vc,w',h5,h6⟩:=I T
    refine Hf ?_ (hn vc w' h6)
    simp[execOp,G,resolve,V,e1,e2,invoke,builtin,h5]
   ·simp at A
  ·rename_i fo V
   split at A
   ·rename_i f0 caps T
    have C:=Bi SS fo
    rw[T,Rep] at C
    obtain⟨cs0,D,Y⟩:=C
    cases K:Anc E.P (f0%1000000) with
    | false =>
     rw[K,cond_false] at A
     obtain⟨hne,A⟩:=uc A
     split at A
     ·rename_i x L hold
      rw[Reps] at Y;subst Y
      obtain⟨y,hy,rfl⟩:∃ y,c.args=#[y]∧x=ev s y:=by
       cases U:c.args.toList with
       | nil=>rw[U] at L;cases L
       | cons y l =>
        rw[U] at L;simp at L
        exact⟨y,by apply Array.ext';rw[U,L.2],L.1.symm⟩
      refine same (vc:=a.eval y) A ?_ (Bi SS y)
      simp only[execOp,G,Sem.run_bind,resolve,V,D,Deferred.ofValue,Sem.run_pure,Result.andThen_ok,invoke,hy]
      simpa using A3l hne (a.eval y) w
     ·simp at A
    | true =>
    rw[K,cond_true] at A
    have htk:Reps J β h w (caps.take (f0/1000000)) (cs0.take (f0/1000000))∧Reps J β h w (caps.drop (f0/1000000)) (cs0.drop (f0/1000000)):=by
     rw[C0] at Y
     refine⟨C0.2 ⟨by simp[Y.1],fun j x u X hu=>?_⟩,C0.2 ⟨by simp[Y.1],fun j x u X hu=>?_⟩⟩
     ·rw[List.getElem?_take] at X hu
      split at X
      ·rename_i hj;rw[if_pos hj] at hu;exact Y.2 j x u X hu
      ·simp at X
     ·rw[List.getElem?_drop] at X hu;exact Y.2 _ x u X hu
    generalize f0%1000000=f at *
    generalize cs0.take (f0/1000000)=fs at *
    generalize cs0.drop (f0/1000000)=cs at *
    obtain⟨val,ups,I,h5⟩:=hC R r k J β h w g d f _ _ S U A (htk.1.append ((zj SS c.args.toList).append htk.2))
    refine⟨val,ups,I,fun hfr hn=>?_⟩
    have hcall:=h5 hfr
    unfold Anc at K
    cases hfn:E.P.funcs[f]? with
    | none=>rw[hfn] at K;simp at K
    | some fn =>
     rw[hfn] at K
     simp at K
     obtain⟨hb1,hb2⟩:=K
     have hb3:fn.body.isNone=false:=by cases hq:fn.body<;>simp_all
     have L:(⟨fs⟩:Array Value)++c.args.map a.eval++(⟨cs⟩:Array Value)=(fs++(c.args.toList.map a.eval++cs)).toArray:=by apply Array.ext';simp
     have hrun:(execOp a.eval o).run E.P w=.ok (.enter f (fs++(c.args.toList.map a.eval++cs)).toArray) w:=by
      simp only[execOp,G,Sem.run_bind,resolve,V,D,Deferred.ofValue,Sem.run_pure,Result.andThen_ok,invoke,callFunc,run_program,hfn]
      simp only[hb3,L]
      simp[hb2]
     unfold Oper.wp
     rw[hrun]
     refine Calls.mono hcall ?_
     rintro e w' ⟨vc,rfl,hd⟩
     exact hn vc w' hd
   ·simp at A
  ·simp at A
 ·simp at A
end
end Gx

namespace Gx
open Go
structure Start where
 J:Bool→Nat→Prop
 β:Cp
 h:Aj
 w:World
structure Inv (Z:Start) (nt:Nat) (J:Bool→Nat→Prop) (β:Cp) (st:St) (a:Act) (w:World):Prop where
 sim:SimH J β st.h w
 ss:SimS J β st.h w st.s a.tmps
 tmps:a.tmps.size=nt
 defers:a.defers=[]
 os:w.os=Z.w.os
 tape:w.tape=Z.w.tape
 output:w.output=Z.w.output
 size:Z.w.heap.size≤w.heap.size
 frame:∀ k,k<Z.w.heap.size→¬ Ar5 Z.β Z.h k→w.heap[k]?=Z.w.heap[k]?
 wr:∀ k,Ar5 β st.h k→k<Z.w.heap.size→Ar5 Z.β Z.h k
 jsub:∀ o k,Z.J o k→J o k
 jup:∀ o k,J o k→Z.J o k∨Ar5 Z.β Z.h k∨Z.w.heap.size≤k
 sizes:∀ k,Bh Z.w k≤Bh w k
 zlt:∀ b x0,Am Z.h b=some x0→b<200000
 zge:∀ b x0,Am Z.h b=some x0→100000≤b
 outs:∀ b x0 x,Am Z.h b=some x0→Am st.h b=some x→x.dead=false→(β b=Z.β b∧x.mp=x0.mp)∧x.sz=x0.sz∧(x0.mp=false→x.cells.length=x0.cells.length)∧x0.dead=false
section
variable {R:Type} {r:R} {Z:Start} {nt:Nat} {J J':Bool→Nat→Prop} {β β':Cp} {st:St} {h':Aj} {a:Act} {w w':World} {ops:Array Oper} {o:Oper}
theorem Qz {s:Ip} {d:Option Nat} {v:AV} {i:Nat}:Hb (Ax7 nt s d v) i=if d=some i∧i<nt then v else Hb s i:=by
 unfold Ax7
 cases d with
 | none=>simp
 | some d =>
  simp only[Option.some.injEq]
  cases c:Nat.blt d nt with
  | true =>
   have b:d<nt:=by simpa using c
   simp only[cond_true]
   rw[Qx]
   by_cases e:i=d
   ·subst e;simp[b]
   ·rw[if_neg e,if_neg (fun f=>e f.1.symm)]
  | false =>
   have b:¬ d<nt:=by intro j;rw[show Nat.blt d nt=true by simpa using j] at c;cases c
   simp only[cond_false]
   rw[if_neg (fun f=>by obtain⟨k,l⟩:=f;subst k;exact b l)]
theorem SimS.put {h:Aj} {s:Ip} {d:Option Nat} {v:AV} {vc:Value} (H:SimS J β h w s a.tmps) (hn:a.tmps.size=nt) (f:Rep J β h w v vc):SimS J β h w (Ax7 nt s d v) (a.put d vc).tmps:=by
 refine⟨fun i u b=>?_,fun i hi=>?_⟩
 ·rw[Qz]
  cases d with
  | none=>simp;exact H.slot i u b
  | some d =>
   simp only[Act.put] at b
   rw[Array.getElem?_setIfInBounds] at b
   by_cases e:d=i
   ·subst e
    simp only[if_true] at b
    by_cases c:d<a.tmps.size
    ·simp[c] at b;subst b
     rw[if_pos ⟨rfl,by omega⟩];exact f
    ·simp[c] at b
   ·rw[if_neg e] at b
    rw[if_neg (fun j=>e (by simpa using j.1))]
    exact H.slot i u b
 ·have hs:(a.put d vc).tmps.size=a.tmps.size:=by cases d<;>simp[Act.put]
  rw[hs] at hi
  rw[Qz,if_neg (by omega)]
  exact H.out i hi
theorem SimS.ext {h:Aj} {s:Ip} {t:Array Value} (E:Ext J β h w J' β' h' w') (H:SimS J β h w s t):SimS J' β' h' w' s t :=
 ⟨fun i v b=>Rep.ext E (H.slot i v b),H.out⟩
theorem Inv.step (I:Inv Z nt J β st a w) (A:Step J β st.h w J' β' h' w') (f:∀ b x,Am h' b=some x→Am st.h b=none→Jc≤b):Inv Z nt J' β' { s:=st.s,h:=h' } a w' where
 sim:=A.sim
 ss:=I.ss.ext A.ext
 tmps:=I.tmps
 defers:=I.defers
 os:=A.os.trans I.os
 tape:=A.tape.trans I.tape
 output:=A.output.trans I.output
 size:=Nat.le_trans I.size A.size
 frame k c d:=(A.frame k (Nat.lt_of_lt_of_le c I.size) (fun l=>d (I.wr k l c))).trans (I.frame k c d)
 wr k d c:=I.wr k (A.wr k d (Nat.lt_of_lt_of_le c I.size)) c
 jsub o k m:=A.ext.jsub o k (I.jsub o k m)
 jup o k m:=by
  rcases A.jup o k m with i | i | i
  ·exact I.jup o k i
  ·by_cases c:k<Z.w.heap.size
   ·exact .inr (.inl (I.wr k i c))
   ·exact .inr (.inr (by omega))
  ·exact .inr (.inr (Nat.le_trans I.size i))
 sizes k:=by
  refine Nat.le_trans (I.sizes k) ?_
  by_cases d:∃ b o,β b=some (k,o)
  ·obtain⟨b,o,e⟩:=d;exact A.ext.size b k o e
  ·by_cases c:k<w.heap.size
   ·have:=A.frame k c (fun ⟨b,x,o,_,_,_,e⟩=>d ⟨b,o,e⟩)
    simp[Bh,this]
   ·simp[Bh,Array.getElem?_eq_none (Nat.le_of_not_lt c)]
 outs b x0 x h0 n t:=by
  cases e:Am st.h b with
  | none=>have:=f b x n e;have:=I.zlt b x0 h0;unfold Jc at *;omega
  | some y =>
   obtain⟨x',⟨q,gm⟩,j⟩:=A.ext.blk b y e
   change Am h' b=some x at n
   rw[n] at q;simp at q;subst q
   rcases j with j | ⟨j,u,v,z⟩
   ·simp[t] at j
   ·obtain⟨⟨e1,em⟩,C,e3,e4⟩:=I.outs b x0 y h0 e j
    exact⟨⟨u.trans e1,gm.trans em⟩,v.trans C,fun h=>(z (em.trans h)).trans (e3 h),e4⟩
 zlt:=I.zlt
 zge:=I.zge
theorem Inv.put (I:Inv Z nt J β st a w) {d:Option Nat} {v:AV} {vc:Value} (b:Rep J β st.h w v vc):Inv Z nt J β { s:=Ax7 nt st.s d v,h:=st.h } (a.put d vc) w where
 sim:=I.sim
 ss:=I.ss.put I.tmps b
 tmps:=by cases d<;>simp[Act.put,I.tmps]
 defers:=by cases d<;>simp[Act.put,I.defers]
 os:=I.os
 tape:=I.tape
 output:=I.output
 size:=I.size
 frame:=I.frame
 wr:=I.wr
 jsub:=I.jsub
 jup:=I.jup
 sizes:=I.sizes
 zlt:=I.zlt
 zge:=I.zge
 outs:=I.outs
theorem zl {d:Nat} {F:List Nat} {h:Aj}:∀ {ups:Fy},ii d F h ups=true→∀ b,Be ups b=true→(OG d b=true∧Am h b=none)∨(OG d b=false∧Kt F b=true∧∃ x,Am h b=some x)
 | [],_,b,e=>by simp[Be] at e
 | (i,_)::r,c,b,e=>by
  rw[ii] at c
  simp at c
  rw[Be] at e
  cases hi:Nat.beq i b with
  | true =>
   have:i=b:=Nat.eq_of_beq_eq_true hi
   subst this
   cases hn:OG d i with
   | true=>rw[hn] at c;simp at c;exact .inl ⟨rfl,c.1⟩
   | false =>
    rw[hn] at c;simp at c
    obtain⟨⟨f,j⟩,_⟩:=c
    exact .inr ⟨rfl,f,Option.isSome_iff_exists.1 j⟩
  | false=>rw[hi] at e;exact zl c.2 b (by simpa using e)
theorem A6f {d b:Nat} (hn:OG d b=true):Jc≤b:=by
 unfold OG nid at hn
 simp at hn
 unfold Jc;omega
theorem Anu {d:Nat} {F:List Nat} {h:Aj} {ups:Fy} (f:ii d F h ups=true) {b:Nat} {x:Blk} (c:Am (Al ups h) b=some x) (hn:Am h b=none):Jc≤b:=by
 cases hi:Be ups b with
 | false=>rw[Db _ _ _ hi,hn] at c;cases c
 | true =>
  rcases zl f b hi with⟨i,_⟩ | ⟨_,_,y,e⟩
  ·exact A6f i
  ·rw[hn] at e;cases e
theorem Ayj {h:Aj} {F:List Nat}:Looks (fun b=>cond (Kt F b) (Am h b) none) h:=fun b x c=>by
 cases d:Kt F b with
 | true=>simpa[d] using c
 | false=>simp[d] at c
theorem Agy {h:Aj} {s:Ip} (H:SimS J β h w s a.tmps) {t:Bool} (c:SG ops s o=some t):Region.wanted o (yielded ops a.tmps)=t:=by
 unfold SG at c
 unfold Region.wanted
 split at c
 ·rename_i d;rw[d];simpa using c
 ·rename_i j want d
  rw[d]
  simp only
  unfold yielded
  split at c
  ·rename_i t' e
   rw[e]
   simp only[Option.bind_some]
   cases i:a.tmps[t']? with
   | none =>
    have:=H.out t' (by simpa using i)
    rw[this] at c;simp at c
   | some v =>
    have hr:=H.slot t' v i
    split at c
    ·rename_i b f
     rw[f,Rep] at hr;subst hr
     simp at c;subst c
     simp
    ·rename_i f
     rw[f,Rep] at hr
     obtain⟨cs,rfl,k⟩:=hr
     rw[Reps] at k;subst k
     simp at c;subst c
     simp
    ·simp at c
  ·rename_i e
   rw[e]
   simp at c;subst c
   simp
theorem zm {E:Env} (hC:mD E) (I:Inv Z E.nt J β st a w) {k:St→Foot→O R} (d:Ar2 E ops o st k=some r) {K:Act→World→Prop} {Q:Exit→Act→World→Prop} :
  ∃ st' f,k st' f=some r∧((∀ e w' J' β',Inv Z E.nt J' β' st' e w'→K e w')→if Region.wanted o (yielded ops a.tmps) then o.wp E.P a w K Q else K (a.put o.dst undef) w):=by
 unfold Ar2 at d
 obtain⟨t,j,c⟩:=ub d
 rw[Agy I.ss j]
 cases t with
 | false =>
  refine⟨_,_,c,fun hK=>?_⟩
  simp only[Bool.false_eq_true,if_false]
  exact hK _ _ J β (I.put (by rw[Rep];exact⟨[],rfl,by rw[Reps]⟩))
 | true =>
  rw[cond_true] at c
  obtain⟨val,ups,l,m⟩:=Ayi (o:=o) (next:=K) (Q:=Q) hC I.sim I.ss Ayj c
  obtain⟨i,n⟩:=uc l
  refine⟨_,_,n,fun hK=>?_⟩
  simp only[if_true]
  refine m (fun b q hn=>?_) (fun vc w' s=>?_)
  ·rcases zl i b q with⟨_,g⟩ | ⟨g,_⟩
   ·exact g
   ·rw[hn] at g;cases g
  ·obtain⟨J',β',A,u⟩:=s
   exact hK _ _ J' β' ((I.step A (fun b x v hn=>Anu i v hn)).put u)
def Eqv (a b:St):Prop:=(∀ t,Hb a.s t=Hb b.s t)∧(∀ b',Am a.h b'=Am b.h b')
theorem Eqv.refl (a:St):Eqv a a:=⟨fun _=>rfl,fun _=>rfl⟩
theorem Eqv.symm {a b:St} (h:Eqv a b):Eqv b a:=⟨fun t=>(h.1 t).symm,fun t=>(h.2 t).symm⟩
theorem Eqv.trans {a b c:St} (h:Eqv a b) (k:Eqv b c):Eqv a c:=⟨fun t=>(h.1 t).trans (k.1 t),fun t=>(h.2 t).trans (k.2 t)⟩
theorem Inv.eqv {nt:Nat} {J:Bool→Nat→Prop} {β:Cp} {st st2:St} {a:Act} {w:World} (I:Inv Z nt J β st a w) (h:Eqv st st2):Inv Z nt J β st2 a w:=by
 have hr:∀ {x v},Rep J β st.h w x v→Rep J β st2.h w x v:=fun f=>Rep.ext ⟨fun _ _ l=>l,fun _ _ _=>rfl,fun b x d=>⟨x,⟨by rw[←h.2 b];exact d,rfl⟩,by cases e:x.dead<;>simp⟩,fun _ _ _ _=>Nat.le_refl _⟩ f
 refine⟨⟨I.sim.jlt,I.sim.jft,I.sim.gl,fun b x d e m=>?_,fun b x d e m=>I.sim.mblk b x (by rw[h.2];exact d) e m,fun b t x x' k o o' d n=>I.sim.sep b t x x' k o o' (by rw[h.2];exact d) (by rw[h.2];exact n)⟩,⟨fun i v y=>by rw[←h.1 i];exact hr (I.ss.slot i v y),fun i hi=>by rw[←h.1 i];exact I.ss.out i hi⟩,I.tmps,I.defers,I.os,I.tape,I.output,I.size,I.frame,?_,I.jsub,I.jup,I.sizes,I.zlt,I.zge,fun b x0 x h0 f=>I.outs b x0 x h0 (by rw[h.2];exact f)⟩
 ·rcases I.sim.blk b x (by rw[h.2];exact d) e m with q | ⟨k,o,cs,ty,fr,q,z,A,C,s,D⟩
  ·exact .inl q
  ·exact .inr ⟨k,o,cs,ty,fr,q,z,A,C,⟨s.1,fun F j c l=>by
    obtain⟨u,G,K,L⟩:=s.2 F j c l
    exact⟨u,G,hr K,L⟩⟩,D⟩
 ·rintro k ⟨b,x,o,d,e,hs,M⟩ O
  exact I.wr k ⟨b,x,o,by rw[h.2];exact d,e,hs,M⟩ O
theorem zn {st:St} {k:St→O R} (d:sK ops o st k=some r):∃ st',Eqv st st'∧k st'=some r:=by
 unfold sK at d
 split at d
 ·exact⟨st,Eqv.refl _,d⟩
 ·rename_i j want n
  split at d
  ·exact⟨st,Eqv.refl _,d⟩
  ·rename_i t q
   split at d
   ·rename_i b l
    have key:∀ c:Bool,b=c→Eqv st { s:=lq st.s t (.bool c),h:=st.h }:=by
     intro c m
     refine⟨fun i=>?_,fun _=>rfl⟩
     simp only
     rw[Qx]
     by_cases e:i=t
     ·subst e;rw[if_pos rfl,l,m]
     ·rw[if_neg e]
    cases f:(b==want) with
    | true =>
     rw[f] at d
     exact⟨_,key want (by simpa using f),d⟩
    | false =>
     rw[f] at d
     exact⟨_,key (!want) (by cases b<;>cases want<;>simp_all),d⟩
   ·exact⟨st,Eqv.refl _,d⟩
theorem zo {E:Env} (hC:mD E) {Q:Exit→Act→World→Prop}:∀ (l:List Oper) {st:St} {tr:List Foot} {k:St→List Foot→O R} {a:Act} {w:World} {J:Bool→Nat→Prop} {β:Cp},
  Inv Z E.nt J β st a w→z6 E ops l st tr k=some r→(∀ st' c d w' J' β',Inv Z E.nt J' β' st' d w'→k st' c=some r→Q .normal d w')→wpList E.P ops Q l a w
 | [],st,tr,k,a,w,J,β,I,b,hQ=>hQ st tr a w J β I b
 | o::l,st,tr,k,a,w,J,β,I,b,hQ=>by
  rw[z6] at b
  obtain⟨A2j,i,b⟩:=zn b
  obtain⟨st',f,j,m⟩:=zm (K:=wpList E.P ops Q l) (Q:=Q) hC (I.eqv i) b
  have:=m (fun d w' J' β' I'=>zo hC l I' j hQ)
  rw[wpList]
  split
  ·rename_i e;rw[if_pos e] at this;exact .inl this
  ·rename_i e;rw[if_neg e] at this;exact this
end
end Gx
