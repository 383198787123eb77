/- A part of the proof: what it holds is said by each theorem. -/
import GoSem.Step
import Derived.KernelRfl
import Derived.WalkKit
import Derived.Deep.MidRow
import Derived.Deep.AppendSrc
import Derived.Laws.IdiomStrings
import Derived.Deep.Upon
import Derived.Laws.BytesString
import Derived.Laws.Tables
import Derived.Laws.StructEq
import Derived.ChangeKeysEq
import Derived.MapKept
set_option linter.unusedVariables false
namespace Gx
open Go
inductive AV where
 | int (k:IntKind) (n:Int)
 | bool (b:Bool)
 | str (s:List UInt8)
 | nsl
 | imm (c:List AV) (len sz:Nat) (tight org:Bool)
 | iptr (c:List AV) (org:Bool)
 | pagg (c:List AV) (org:Bool)
 | own (b off len:Nat)
 | optr (b off:Nat)
 | agg (c:List AV)
 | tup (c:List AV)
 | fn (f:Nat) (caps:List AV)
 | nilptr
 | nilfn
 | undef
 | omap (b:Nat)
structure Blk where
 dead:Bool
 sealed:Bool
 pure:Bool
 taint:Bool
 sz:Nat
 cells:List AV
 mp:Bool:=false
abbrev Al:=List (Nat×Blk)
abbrev Gg:=List (Nat×AV)
def Ao:Al→Nat→Option Blk
 | [],_=>none
 | (i,x)::r,b=>cond (Nat.beq i b) (some x) (Ao r b)
def Fx:Al→Nat→Blk→Al
 | [],b,y=>[(b,y)]
 | (i,x)::r,b,y=>cond (Nat.beq i b) ((b,y)::r) (cond (Nat.blt b i) ((b,y)::(i,x)::r) ((i,x)::Fx r b y))
def Fs:Gg→Nat→AV
 | [],_=>.undef
 | (i,x)::r,b=>cond (Nat.beq i b) x (Fs r b)
def Ax0:Gg→Nat→AV→Gg
 | [],b,y=>[(b,y)]
 | (i,x)::r,b,y=>cond (Nat.beq i b) ((b,y)::r) (cond (Nat.blt b i) ((b,y)::(i,x)::r) ((i,x)::Ax0 r b y))
structure St where
 s:Gg
 h:Al
mutual
def ofV:Value→AV
 | .int k n=>.int k n
 | .bool b=>.bool b
 | .string ⟨⟨s⟩⟩=>.str s
 | .slice none 0 0=>.nsl
 | .pointer none=>.nilptr
 | .nilFunc=>.nilfn
 | .agg ⟨cs⟩=>.agg (N5 cs)
 | _=>.undef
def N5:List Value→List AV
 | []=>[]
 | v::r=>ofV v::N5 r
end
def ev (s:Gg):Operand→AV
 | .tmp t=>Fs s t
 | .const v=>ofV v
 | .func f=>cond (Nat.blt f 1000000) (.fn f []) .undef
 | .global _=>.undef
def Cl (P:Program) (t:TypeId):Option Nat:=(P.info? t).map (·.size)
def Brn (P:Program) (t:TypeId):Option Nat:=(P.info? t).map (·.bytes)
def B2r (P:Program) (t:TypeId):Bool:=((P.info? t).map (·.hasPointers)).getD true
def Bu8 (P:Program) (t:TypeId):Option AV:=((P.info? t).bind (·.zero)).map ofV
def Bb:List AV→Bool
 | []=>true
 | .int ..::r=>Bb r
 | .bool _::r=>Bb r
 | .str _::r=>Bb r
 | .nsl::r=>Bb r
 | .nilptr::r=>Bb r
 | .nilfn::r=>Bb r
 | _=>false
def A7s (P:Program) (t:TypeId):Option (List AV) :=
 (P.info? t).bind fun i=>(i.zero).bind fun v=>cond (Bb (N5 v.cells.toList)&&Nat.beq v.cells.toList.length i.size) (some (N5 v.cells.toList)) none
def A45 (op:BinOp) (k:IntKind) (a b:Int):Option AV :=
 match op with
 | .add=>some (.int k (k.wrap (a+b)))
 | .sub=>some (.int k (k.wrap (a - b)))
 | .mul=>some (.int k (k.wrap (a*b)))
 | .and=>some (.int k (k.wrap ((BitVec.ofInt k.bits a &&& BitVec.ofInt k.bits b).toNat:Int)))
 | .or=>some (.int k (k.wrap ((BitVec.ofInt k.bits a ||| BitVec.ofInt k.bits b).toNat:Int)))
 | .xor=>some (.int k (k.wrap ((BitVec.ofInt k.bits a ^^^ BitVec.ofInt k.bits b).toNat:Int)))
 | .andNot=>some (.int k (k.wrap ((BitVec.ofInt k.bits a &&& ~~~ (BitVec.ofInt k.bits b)).toNat:Int)))
 | .eql=>some (.bool (a==b))
 | .neq=>some (.bool (a != b))
 | .lss=>some (.bool (decide (a<b)))
 | .leq=>some (.bool (decide (a≤b)))
 | .gtr=>some (.bool (decide (a>b)))
 | .geq=>some (.bool (decide (a≥b)))
 | _=>none
def Qg (k k':IntKind):Bool:=decide (k=k')
def Asd (P:Program) (t:TypeId):Bool:=match P.underlying t with | some .bool=>true | _=>false
def B3z {R:Type} (P:Program) (t:TypeId) (op:BinOp) (x y:AV) (r:AV→Option R):Option R :=
 match x,y with
 | .int k a,.int k' b =>
  match op with
  | .shl=>cond (decide (b<0)) none (r (.int k (k.wrap (a*2 ^ (min b.toNat k.bits)))))
  | .shr=>cond (decide (b<0)) none (r (.int k (a.fdiv (2 ^ (min b.toNat k.bits)))))
  | .quo=>cond (Qg k k') (cond (b==0) none (r (.int k (k.wrap (a.tdiv b))))) none
  | .rem=>cond (Qg k k') (cond (b==0) none (r (.int k (a.tmod b)))) none
  | op=>cond (Qg k k') ((A45 op k a b).bind r) none
 | .bool a,.bool b =>
  match op with
  | .eql=>cond (Asd P t) (r (.bool (a==b))) none
  | .neq=>cond (Asd P t) (r (.bool (!(a==b)))) none
  | _=>none
 | .str a,.str b =>
  match op with
  | .add=>cond (Nat.ble (a.length+b.length) 140737488355328) (r (.str (a++b))) none
  | .eql=>r (.bool (a==b))
  | .neq=>r (.bool (!(a==b)))
  | .lss=>r (.bool (Op.bytesLess a b))
  | .leq=>r (.bool (Op.bytesLess a b||a==b))
  | .gtr=>r (.bool (!(Op.bytesLess a b||a==b)))
  | .geq=>r (.bool (!Op.bytesLess a b))
  | _=>none
 | _,_=>none
def aun (op:UnOp) (x:AV):Option AV :=
 match op,x with
 | .neg,.int k n=>some (.int k (k.wrap (0 - n)))
 | .xor,.int k n=>A45 .xor k (cond k.signed (-1) k.max) n
 | .not,.bool b=>some (.bool (!b))
 | _,_=>none
def A7t (k:IntKind):AV→Option Int
 | .int k' n=>cond (Qg k k') (some n) none
 | _=>none
def asBool:AV→Option Bool
 | .bool b=>some b
 | _=>none
def A7u:AV→Option (List UInt8)
 | .str s=>some s
 | _=>none
def B30 (sz:Nat):AV→Option (List AV×Nat)
 | .imm c len sz' _ _=>cond (Nat.beq sz sz') (some (c,len)) none
 | .nsl=>some ([],0)
 | _=>none
def B6x:AV→Option UInt8
 | .int .u8 n=>some (UInt8.ofNat n.toNat)
 | _=>none
def Az6:List AV→Option (List UInt8)
 | []=>some []
 | x::r=>(B6x x).bind fun b=>(Az6 r).bind fun l=>some (b::l)
def Aff {R:Type} (step:TypeId→List AV→List AV→(Bool→Option R)→Option R) (x y:List AV):List (Nat×TypeId)→(Bool→Option R)→Option R
 | [],k=>k true
 | (off,t)::r,k=>step t (x.drop off) (y.drop off) fun b=>Aff step x y r fun c=>k (b&&c)
def Bro (P:Program) (sz:Nat) (f:Field):Bool:=match Cl P f.type with
 | some s => Nat.ble 1 s && (Nat.ble (f.offset + s) sz && !(f.name == "_"))
 | none=>false
def Bcs {R:Type} (P:Program):Nat→TypeId→List AV→List AV→(Bool→Option R)→Option R
 | 0,_,_,_,_=>none
 | d+1,t,x,y,k=>match P.underlying t with
  | some (.int kd)=>(x.head?).bind fun u=>(A7t kd u).bind fun a=>(y.head?).bind fun v=>(A7t kd v).bind fun b=>k (a==b)
  | some .bool=>(x.head?).bind fun u=>(asBool u).bind fun a=>(y.head?).bind fun v=>(asBool v).bind fun b=>k (a==b)
  | some .string=>(x.head?).bind fun u=>(A7u u).bind fun a=>(y.head?).bind fun v=>(A7u v).bind fun b=>k (a==b)
  | some (.struct fs)=>(Cl P t).bind fun sz=>cond (P.stoodInHeld t||!(fs.toList.all (Bro P sz))) none (Aff (Bcs P d) x y (fs.toList.map fun f=>(f.offset,f.type)) k)
  | some (.array n e)=>(Cl P e).bind fun s=>(Cl P t).bind fun sz=>cond (Nat.ble 1 s&&Nat.ble (n*s) sz) (Aff (Bcs P d) x y ((List.range n).map fun i=>(i*s,e)) k) none
  | _=>none
def Brp:AV→Option (List AV)
 | .pagg c _=>some c
 | .agg c=>some c
 | _=>none
def B6y (P:Program) (t:TypeId):Bool:=match P.underlying t with | some (.struct _)=>true | some (.array _ _)=>true | _=>false
def Boi {R:Type} (P:Program) (t:TypeId) (op:BinOp) (x y:AV) (r:AV→Option R):Option R :=
 match Brp x,Brp y with
 | some a,some b=>(Cl P t).bind fun s=>cond (Nat.ble 1 s&&(Nat.beq a.length s&&(Nat.beq b.length s&&(B6y P t&&!(P.eqGuardType P.depth t)))))
  (match op with
   | .eql=>Bcs P 8 t a b fun c=>r (.bool c)
   | .neq=>Bcs P 8 t a b fun c=>r (.bool (!c))
   | _=>none) none
 | _,_=>B3z P t op x y r
def Ya {R:Type} (P:Program) (t:TypeId) (c:List AV) (org:Bool) (k:Bool→Option R):Option R :=
 cond (B2r P t) (k org) (cond (!org||Bb c) (k false) none)
def An0 {R:Type} (P:Program) (t:TypeId) (c:List AV) (org:Bool) (k:AV→Option R):Option R :=
 match P.underlying t with
 | some (.int kd)=>(c.head?).bind fun x=>(A7t kd x).bind fun n=>k (.int kd n)
 | some .bool=>(c.head?).bind fun x=>(asBool x).bind fun b=>k (.bool b)
 | some .string=>(c.head?).bind fun x=>(A7u x).bind fun s=>k (.str s)
 | some (.slice e)=>(Cl P e).bind fun sz=>(c.head?).bind fun x=>(B30 sz x).bind fun p=>k (.imm p.1 p.2 sz false org)
 | some (.struct _)=>(Cl P t).bind fun n=>cond (Nat.ble n c.length) (Ya P t (c.take n) org fun o=>k (.pagg (c.take n) o)) none
 | some (.array _ _)=>(Cl P t).bind fun n=>cond (Nat.ble n c.length) (Ya P t (c.take n) org fun o=>k (.pagg (c.take n) o)) none
 | _=>none
def Aig {R:Type} (n:Nat) (k:AV→Option R):List AV→Nat→Option R
 | [],_=>none
 | v::r,i=>cond (Nat.beq n i) (k v) (Aig n k r (i+1))
def A7v {R:Type} (P:Program) (t:TypeId) (c:List AV) (k:AV→Option R):Option R :=
 match P.underlying t with
 | some (.struct _)=>(Cl P t).bind fun n=>cond (Nat.ble n c.length) (k (.agg (c.take n))) none
 | some (.array _ _)=>(Cl P t).bind fun n=>cond (Nat.ble n c.length) (k (.agg (c.take n))) none
 | some _=>(c.head?).bind k
 | none=>none
def An1 {R:Type} (P:Program) (t:TypeId) (c:List AV) (off:Nat) (k:AV→Option R):Option R :=
 match P.underlying t with
 | some (.struct _)=>(Cl P t).bind fun n=>cond (Nat.ble n (c.drop off).length) (k (.agg ((c.drop off).take n))) none
 | some (.array _ _)=>(Cl P t).bind fun n=>cond (Nat.ble n (c.drop off).length) (k (.agg ((c.drop off).take n))) none
 | some _=>Aig off k c 0
 | none=>none
abbrev Bt:=Nat→Option Blk
def It (g:Bt) (b:Nat):Option Blk:=(g b).bind fun x=>cond x.dead none (some x)
def Bdy {R:Type} (P:Program) (g:Bt) (t:TypeId) (p:AV) (k:AV→Option R):Option R :=
 match p with
 | .iptr c org=>An0 P t c org k
 | .optr b off=>(It g b).bind fun x=>cond x.pure (An0 P t (x.cells.drop off) x.taint k) (An1 P t x.cells off k)
 | _=>none
def Aj (i:Int) (n:Nat):Bool:=decide (0≤i)&&decide (i<(n:Int))
def Sm {R:Type} (P:Program) (t:TypeId) (x i:AV) (k:AV→Option R):Option R :=
 match P.underlying t,x,i with
 | some (.slice el),.imm c len sz _ org,.int _ i=>(Cl P el).bind fun sz'=>cond (Nat.beq sz sz') (cond (Aj i len) (k (.iptr (c.drop (i.toNat*sz)) org)) none) none
 | some (.slice el),.own b off len,.int _ i=>(Cl P el).bind fun sz=>cond (Aj i len) (k (.optr b (off+i.toNat*sz))) none
 | some (.array len el),.iptr c org,.int _ i=>(Cl P el).bind fun sz=>cond (Aj i len) (k (.iptr (c.drop (i.toNat*sz)) org)) none
 | some (.array len el),.optr b off,.int _ i=>(Cl P el).bind fun sz=>cond (Aj i len) (k (.optr b (off+i.toNat*sz))) none
 | _,_,_=>none
def Bdq (P:Program) (t:TypeId) (f:Nat):Option (Nat×TypeId) :=
 match P.underlying t with
 | some (.struct fs)=>(fs[f]?).map fun x=>(x.offset,x.type)
 | _=>none
def Sn {R:Type} (P:Program) (t:TypeId) (x:AV) (f:Nat) (k:AV→Option R):Option R :=
 (Bdq P t f).bind fun p=>(Cl P p.2).bind fun n=>cond (Nat.beq n 0) none
 (match x with
 | .iptr c org=>k (.iptr (c.drop p.1) org)
 | .optr b off=>k (.optr b (off+p.1))
 | _=>none)
def A46 {R:Type} (P:Program) (t:TypeId) (x:AV) (f:Nat) (k:AV→Option R):Option R :=
 (Bdq P t f).bind fun p =>
 match x with
 | .pagg c org=>An0 P p.2 (c.drop p.1) org k
 | .agg c=>A7v P p.2 (c.drop p.1) k
 | _=>none
def A47 {R:Type} (P:Program) (t:TypeId) (x i:AV) (k:AV→Option R):Option R :=
 match P.underlying t,x,i with
 | some .string,.str s,.int _ i=>cond (Aj i s.length) (k (.int .u8 ((s.getD i.toNat 0).toNat:Int))) none
 | some (.array len el),.pagg c org,.int _ i=>(Cl P el).bind fun sz=>cond (Aj i len) (An0 P el (c.drop (i.toNat*sz)) org k) none
 | some (.array len el),.agg c,.int _ i=>(Cl P el).bind fun sz=>cond (Aj i len) (An1 P el c (i.toNat*sz) k) none
 | _,_,_=>none
def Az7 (o:Option AV) (d:Nat):Option Int:=match o with | none=>some (d:Int) | some (.int _ i)=>some i | _=>none
def Yb {R:Type} (lo hi mx:Option AV) (n:Nat) (k:Nat→Nat→Option R):Option R :=
 (Az7 lo 0).bind fun l=>(Az7 hi n).bind fun h=>(Az7 mx n).bind fun m=>cond (mx.isSome&&!hi.isSome) none <|
 cond (decide (0≤l)&&(decide (l≤h)&&(decide (h≤m)&&decide (m≤(n:Int))))) (k l.toNat h.toNat) none
def B2s (tight:Bool) (hi mx:Option AV):Bool:=match hi,mx with | none,none=>tight | some (.int _ a),some (.int _ b)=>a==b | _,_=>false
def A48 {R:Type} (P:Program) (g:Bt) (t:TypeId) (x:AV) (lo hi mx:Option AV) (k:AV→Option R):Option R :=
 match P.underlying t,x with
 | some .string,.str s=>cond mx.isSome none (Yb lo hi none s.length fun l h=>k (.str ((s.drop l).take (h - l))))
 | some (.slice el),.nsl=>(Cl P el).bind fun _=>Yb lo hi mx 0 fun _ _=>k .nsl
 | some (.slice el),.imm c n sz tight org=>(Cl P el).bind fun sz'=>cond (Nat.beq sz sz') (Yb lo hi mx n fun l h =>
   k (.imm ((c.drop (l*sz)).take ((h - l)*sz)) (h - l) sz (B2s tight hi mx) org)) none
 | some (.slice el),.own b off n=>(Cl P el).bind fun sz=>(It g b).bind fun y=>cond (Nat.beq sz y.sz) (Yb lo hi mx n fun l h=>k (.own b (off+l*sz) (h - l))) none
 | _,_=>none
def Cag (P:Program) (t:TypeId) (x:AV):Option AV :=
 match P.underlying t,x with
 | some (.slice _),.nsl=>some (.int .i64 0)
 | some (.slice _),.imm _ n _ _ _=>some (.int .i64 n)
 | some (.slice _),.own _ _ n=>some (.int .i64 n)
 | some .string,.str s=>some (.int .i64 s.length)
 | some (.array n _),_=>some (.int .i64 n)
 | _,_=>none
def Boj (g:Bt) (sz:Nat):AV→Option (List AV×Nat×Bool)
 | .nsl=>some ([],0,false)
 | .imm c n sz' _ org=>cond (Nat.beq sz sz') (some (c,n,org)) none
 | .own b off n=>(It g b).bind fun x=>cond (x.pure&&Nat.beq sz x.sz) (some ((x.cells.drop off).take (n*sz),n,x.taint)) none
 | .str s=>cond (Nat.beq sz 1) (some (s.map fun b=>.int .u8 (b.toNat:Int),s.length,false)) none
 | _=>none
def Ax1 {R:Type} (P:Program) (el:TypeId) (g:Bt) (sz:Nat) (x:AV) (k:List AV×Nat×Bool→Option R):Option R :=
 (Boj g sz x).bind fun q=>Ya P el q.1 q.2.2 fun o=>k (q.1,q.2.1,o)
abbrev Ups:=List (Nat×Option Blk)
def Aug (g:Bt):AV→Option (AV×Ups×Bool)
 | .own b off n=>(It g b).bind fun x=>cond x.pure (some (.imm ((x.cells.drop off).take (n*x.sz)) n x.sz false x.taint,[(b,some { x with sealed:=true })],x.taint)) none
 | .optr .. | .agg _ | .tup _ | .undef | .fn .. | .omap _=>none
 | .imm c n sz t org=>some (.imm c n sz t org,[],org)
 | .iptr c org=>some (.iptr c org,[],org)
 | .pagg _ _=>none
 | v=>some (v,[],false)
def Zh (g:Bt):List AV→Option (List AV×Ups×Bool)
 | []=>some ([],[],false)
 | v::r=>(Aug g v).bind fun p=>(Zh g r).bind fun q=>some (p.1::q.1,p.2.1++q.2.1,p.2.2||q.2.2)
def Y2 (g:Bt):AV→Option (List AV×Ups×Bool)
 | .pagg c org=>some (c,[],org)
 | .agg c=>Zh g c
 | v=>Zh g [v]
def Dk (c:List AV) (off:Nat) (vs:List AV):List AV:=c.take off++vs++c.drop (off+vs.length)
def A9:Ups→Nat→Bool
 | [],_=>false
 | (i,_)::r,b=>cond (Nat.beq i b) true (A9 r b)
def Afg (g:Bt):AV→Bool
 | .own b _ _=>(It g b).isSome
 | .optr b _=>(It g b).isSome
 | .agg _=>false
 | .pagg _ _=>false
 | .tup _=>false
 | .undef=>false
 | .omap _=>false
 | _=>true
def Ph (g:Bt):List AV→Bool
 | []=>true
 | v::r=>Afg g v&&Ph g r
def setCells (c:List AV) (off:Nat) (vs:List AV):List AV:=match vs with | [y]=>c.set off y | ys=>Dk c off ys
def A49 {R:Type} (P:Program) (g:Bt) (t:TypeId) (p v:AV) (k:AV→Ups→Option R):Option R :=
  match p with
  | .optr b off=>(It g b).bind fun x=>(Cl P t).bind fun n =>
    cond x.sealed none
    (cond x.pure
      ((Y2 g v).bind fun q=>cond (Nat.beq q.1.length n&&(Nat.ble (off+n) x.cells.length&&!A9 q.2.1 b))
        (k .undef (q.2.1++[(b,some { x with cells:=setCells x.cells off q.1,taint:=x.taint||q.2.2 })])) none)
      (match v with
        | .agg c=>cond (Ph g c&&(Nat.beq c.length n&&Nat.ble (off+n) x.cells.length)) (k .undef [(b,some { x with cells:=Dk x.cells off c })]) none
        | .pagg c org=>cond (Nat.beq off 0&&(Nat.beq c.length n&&Nat.beq x.cells.length n)) (k .undef [(b,some { x with pure:=true,taint:=org,cells:=c })]) none
        | v=>cond (Afg g v&&(Nat.beq n 1&&Nat.blt off x.cells.length)) (k .undef [(b,some { x with cells:=x.cells.set off v })]) none))
  | _=>none
def G1:Nat:=1000000
def nid (d:Nat):Nat:=1000000+d*16
def Nv (d:Nat) (pure taint:Bool) (sz:Nat) (cells:List AV):Ups :=
 [(nid d,some { dead:=false,sealed:=false,pure,taint,sz,cells })]
def Bu9 {R:Type} (P:Program) (g:Bt) (d:Nat) (t:TypeId) (v:AV) (k:AV→Ups→Option R):Option R :=
 match v with
 | .pagg c org=>k (.optr (nid d) 0) (Nv d true org 0 c)
 | .agg c =>
  cond (B2r P t) (cond (Ph g c) (k (.optr (nid d) 0) (Nv d false false 0 c)) none)
   ((Zh g c).bind fun q=>k (.optr (nid d) 0) (q.2.1++Nv d true q.2.2 0 q.1))
 | v=>cond (Afg g v) (k (.optr (nid d) 0) (Nv d false false 0 [v])) none
def Ft (sz:Nat):Blk:={ dead:=false,sealed:=false,pure:=true,taint:=false,sz,cells:=[] }
def B6z (co:Bool) (v:AV):AV:=match co,v with
 | true,.agg c=>cond (Bb c) (.pagg c false) (.agg c)
 | _,v=>v
def A5a {R:Type} (P:Program) (g:Bt) (co:Bool) (d:Nat) (t:TypeId) (k:AV→Ups→Option R):Option R :=
 match P.underlying t,Bu8 P t with
 | some (.slice el),some .nsl=>(Cl P el).bind fun sz=>k (.optr (nid d) 0) [(nid d+1,some (Ft sz)),(nid d,some { dead:=false,sealed:=false,pure:=false,taint:=false,sz:=0,cells:=[.own (nid d+1) 0 0] })]
 | _,some z=>Bu9 P g d t (B6z co z) k
 | _,none=>none
def Nw (place:Nat→Option (Nat×Nat)):List (Nat×List AV)→List AV→Option (List AV)
 | [],c=>some c
 | (i,vs)::r,c=>(place i).bind fun p=>cond (Nat.beq vs.length p.2&&Nat.ble (p.1+p.2) c.length) (Nw place r (setCells c p.1 vs)) none
def Bdz {R:Type} (place:Nat→Option (Nat×Nat)):List (Nat×List AV)→List AV→(List AV→Option R)→Option R
 | [],c,k=>k c
 | (i,vs)::r,c,k=>(place i).bind fun p=>cond (Nat.beq vs.length p.2&&Nat.ble (p.1+p.2) c.length) (Bdz place r (setCells c p.1 vs) k) none
def Iu (n:Nat) (z:List AV):List AV:=match z with | [v]=>List.replicate n v | z=>(List.replicate n z).flatten
def Afh (g:Bt):List (Nat×AV)→Option (List (Nat×List AV)×Ups×Bool)
 | []=>some ([],[],false)
 | (i,v)::r=>(Y2 g v).bind fun q=>(Afh g r).bind fun q'=>some ((i,q.1)::q'.1,q.2.1++q'.2.1,q.2.2||q'.2.2)
def B60:AV→Bool
 | .optr ..=>true
 | .fn _ (_::_)=>true
 | _=>false
def So {R:Type} (P:Program) (g:Bt) (d:Nat) (t:TypeId) (len:Nat) (parts:List (Nat×AV)) (k:AV→Ups→Option R):Option R :=
 match P.underlying t with
 | some (.slice el)=>(Cl P el).bind fun sz=>(A7s P el).bind fun z =>
  cond (Nat.beq sz 1&&(Nat.ble len 16777216&&Ph g (parts.map (·.2)))) ((Nw (fun i=>some (i*1,1)) (parts.map fun p=>(p.1,[p.2])) (Iu len z)).bind fun cells =>
   k (.own (nid d) 0 len) (Nv d false false 1 cells)) none
 | _=>none
def Pi {R:Type} (P:Program) (g:Bt) (d:Nat) (t:TypeId) (len:Nat) (parts:List (Nat×AV)) (k:AV→Ups→Option R):Option R :=
 match P.underlying t with
 | some (.slice el)=>(Cl P el).bind fun sz=>(A7s P el).bind fun z=>(Afh g parts).bind fun q =>
  cond (Nat.ble (len*sz) 16777216) (Bdz (fun i=>some (i*sz,sz)) q.1 (Iu len z) fun cells =>
   k (.own (nid d) 0 len) (q.2.1++Nv d true q.2.2 sz cells)) none
 | _=>none
def Ax2:AV→Bool
 | .own .. | .optr .. | .fn .. | .undef | .agg _ | .pagg _ _ | .tup _ | .omap _=>true
 | _=>false
def Bd0:AV→Bool
 | .agg c=>c.any Ax2
 | .pagg _ _=>false
 | v=>Ax2 v
def cellsOf:AV→List AV
 | .agg c=>c
 | .pagg c _=>c
 | v=>[v]
def Brq:AV→Bool
 | .imm _ _ _ _ o=>o
 | .iptr _ o=>o
 | _=>false
def A7w:AV→Bool
 | .pagg _ o=>o
 | .agg c=>c.any Brq
 | v=>Brq v
def Aih:AV→Bool
 | .pagg _ _=>true
 | _=>false
def Az8 (P:Program) (t:TypeId):Option (Nat→Option (Nat×Nat)) :=
 match P.underlying t with
 | some (.array _ e)=>(P.info? e).map fun ie=>fun i=>some (i*ie.size,ie.size)
 | some (.struct fs)=>(fs.toList.mapM fun f=>(P.info? f.type).map fun i=>(f.offset,i.size)).map fun pl=>fun i=>pl[i]?
 | _=>none
def Bok (P:Program) (t:TypeId):Option (List AV):=(P.info? t).bind fun i=>(i.zero).map fun v=>N5 v.cells.toList
def Ff:List (Nat×AV)→List (Nat×List AV)
 | []=>[]
 | (i,v)::r=>(i,cellsOf v)::Ff r
def Bva (o:Bool):AV→AV
 | .imm c n s t _=>.imm c n s t o
 | .iptr c _=>.iptr c o
 | v=>v
def Bd1:AV→List AV
 | .agg c=>c
 | .pagg c o=>c.map (Bva o)
 | v=>[v]
def Jk:List (Nat×AV)→List (Nat×List AV)
 | []=>[]
 | (i,v)::r=>(i,Bd1 v)::Jk r
def An2:AV→Bool
 | .undef=>false
 | .tup _=>false
 | .omap _=>false
 | _=>true
def Brr (P:Program) (t:TypeId) (parts:List (Nat×AV)):Option AV :=
 (Az8 P t).bind fun place=>cond (parts.all fun p=>An2 p.2) (
 cond (parts.any fun p=>Aih p.2)
  (cond (parts.any fun p=>Bd0 p.2) ((Bok P t).bind fun z=>(Nw place (Jk parts) z).map fun c=>.agg c) ((A7s P t).bind fun z=>(Nw place (Ff parts) z).map fun c=>.pagg c (parts.any fun p=>A7w p.2)))
  ((Bok P t).bind fun z=>(Nw place (Ff parts) z).map fun c=>.agg c)) none
def Brs {R:Type} (P:Program) (t:TypeId) (parts:List (Nat×AV)) (k:AV→Option R):Option R :=
 (Az8 P t).bind fun place=>cond (parts.all fun p=>An2 p.2) (
 cond (parts.any fun p=>Aih p.2)
  (cond (parts.any fun p=>Bd0 p.2) ((Bok P t).bind fun z=>Bdz place (Jk parts) z fun c=>k (.agg c)) ((A7s P t).bind fun z=>Bdz place (Ff parts) z fun c=>k (.pagg c (parts.any fun p=>A7w p.2))))
  ((Bok P t).bind fun z=>Bdz place (Ff parts) z fun c=>k (.agg c))) none
def Az9 (P:Program) (t:TypeId):List (Nat×Nat) :=
 match P.underlying t with
 | some (.struct fs)=>fs.toList.filterMap fun f=>match P.underlying f.type with | some (.slice el)=>(Cl P el).map fun s=>(f.offset,s) | _=>none
 | _=>[]
def M9 (d:Nat):List (Nat×Nat)→Nat→List AV→List AV×Ups
 | [],_,c=>(c,[])
 | (o,sz)::r,j,c=>match c[o]? with
  | some .nsl=>((M9 d r (j+1) (c.set o (.own (nid d+j) 0 0))).1,(nid d+j,some (Ft sz))::(M9 d r (j+1) (c.set o (.own (nid d+j) 0 0))).2)
  | _=>M9 d r (j+1) c
def B31 {R:Type} (P:Program) (t:TypeId) (co:Bool) (d:Nat) (v:AV) (k:AV→Ups→Option R):Option R :=
 match co,v with
 | true,.agg c=>cond (Nat.ble (Az9 P t).length 14) (k (.agg (M9 d (Az9 P t) 1 c).1) (M9 d (Az9 P t) 1 c).2) none
 | _,v=>k v []
def B2t (P:Program):Nat→TypeId→Nat→List (Nat×TypeId)
 | 0,t,off=>[(off,t)]
 | d+1,t,off=>match P.underlying t with
  | some (.struct fs)=>fs.toList.flatMap fun f=>B2t P d f.type (off+f.offset)
  | _=>[(off,t)]
def B61 (P:Program) (t:TypeId):Bool:=match P.underlying t with
 | some (.int _)=>true | some .bool=>true | some .string=>true | some (.slice _)=>true | _=>false
def A0a {R:Type} (P:Program) (c:List AV) (org:Bool):List (Nat×TypeId)→List AV→(List AV→Option R)→Option R
 | [],acc,k=>k acc
 | (off,t)::r,acc,k=>cond (Nat.beq off acc.length&&B61 P t) (An0 P t (c.drop off) org fun v=>A0a P c org r (acc++[v]) k) none
def A5b {R:Type} (P:Program) (co:Bool) (t:TypeId) (v:AV) (k:AV→Option R):Option R :=
 match co,v with
 | true,.pagg c org=>A0a P c org (B2t P 4 t 0) [] fun l=>cond (Nat.beq c.length l.length) (k (.agg l)) none
 | _,v=>k v
def Bol {R:Type} (P:Program) (d:Nat) (t:TypeId) (len cap:AV) (k:AV→Ups→Option R):Option R :=
 match P.underlying t,len,cap with
 | some (.slice el),.int .i64 l,.int .i64 c=>(Cl P el).bind fun sz=>(Brn P el).bind fun by_=>(A7s P el).bind fun z =>
  cond (decide (0≤l)&&(decide (l≤c)&&(decide (c≤140737488355328)&&decide (c*(by_:Int)≤140737488355328)))) (
   k (.own (nid d) 0 l.toNat) (Nv d true false sz (Iu l.toNat z))) none
 | _,_,_=>none
def B2u (g:Bt) (sz:Nat) (s:AV):Option (List AV×Nat×Bool×Ups) :=
 match s with
 | .nsl=>some ([],0,false,[])
 | .imm _ n _ true _=>cond (Nat.beq n 0) (some ([],0,false,[])) none
 | .own b off n=>(It g b).bind fun x=>cond (x.pure&&(!x.sealed&&Nat.beq sz x.sz)) (some ((x.cells.drop off).take (n*sz),n,x.taint,[(b,none)])) none
 | _=>none
def Brt (P:Program) (t:TypeId):Bool:=match P.underlying t with | some (.slice _)=>true | some .string=>true | _=>false
def Ase {R:Type} (P:Program) (g:Bt) (d:Nat) (t tx:TypeId) (s x:AV) (k:AV→Ups→Option R):Option R :=
 match P.underlying t with
 | some (.slice el)=>cond (Brt P tx) ( (Cl P el).bind fun sz=>(Brn P el).bind fun by_=>(A7s P el).bind fun _ =>
  (B2u g sz s).bind fun old=>Ax1 P el g sz x fun new =>
  cond (Nat.ble (old.2.1+new.2.1) 140737488355328&&Nat.ble ((old.2.1+new.2.1)*by_) 140737488355328) (
   k (.own (nid d) 0 (old.2.1+new.2.1)) (old.2.2.2++Nv d true (old.2.2.1||new.2.2) sz (old.1++new.1))) none) none
 | _=>none
def Bom {R:Type} (P:Program) (g:Bt) (t:TypeId) (s x:AV) (k:AV→Ups→Option R):Option R :=
 match P.underlying t,s with
 | some (.slice el),.own b off n=>(Cl P el).bind fun sz=>(It g b).bind fun y=>Ax1 P el g sz x fun new =>
  cond (y.pure&&(!y.sealed&&Nat.beq sz y.sz)) (
   k (.int .i64 (min new.2.1 n:Nat)) [(b,some { y with cells:=Dk y.cells off (new.1.take ((min new.2.1 n)*sz)),taint:=y.taint||new.2.2 })]) none
 | some (.slice el),.nsl=>(Cl P el).bind fun sz=>Ax1 P el g sz x fun _=>k (.int .i64 0) []
 | _,_=>none
def Bon {R:Type} (P:Program) (g:Bt) (d:Nat) (src dst:TypeId) (x:AV) (k:AV→Ups→Option R):Option R :=
 match P.underlying dst with
 | some (.int kd)=>match x with | .int _ n=>cond (P.underlying src).isSome (k (.int kd (kd.wrap n)) []) none | _=>none
 | some .string=>match P.underlying src with
  | some .string=>match x with | .str s=>k (.str s) [] | _=>none
  | some (.slice el)=>match P.underlying el with
   | some (.int .u8)=>match x with
    | .str _=>none
    | x=>(Boj g 1 x).bind fun q=>(Az6 q.1).bind fun s=>k (.str s) []
   | _=>none
  | _=>none
 | some (.slice el)=>match P.underlying src,P.underlying el,x with
  | some (.slice _),some (.int .u8),.own b off n=>cond (Nat.beq src dst&&Nat.ble 1 n) ((It g b).bind fun x=>cond x.sealed none (k (.own b off n) [])) none
  | some .string,some (.int .u8),.str s=>k (.own (nid d) 0 s.length) (Nv d true false 1 (s.map fun b=>.int .u8 (b.toNat:Int)))
  | _,_,_=>none
 | _=>none
def Bct:List AV→Int→Bool
 | [],_=>false
 | .int _ m::r,n=>cond (n==m) true (Bct r n)
 | _::r,n=>Bct r n
def B32 (c:List AV) (n:Int):List AV:=cond (Bct c n) c (c++[.int .i64 n])
def Bru (P:Program) (t:TypeId):Bool:=match P.underlying t with
 | some (.map k e)=>(match P.underlying k with | some (.int .i64)=>true | _=>false)&&(match Bu8 P e with | some (.bool false)=>true | _=>false)
 | _=>false
def Zi {R:Type} (d:Nat) (r:Option AV) (k:AV→Ups→Option R):Option R :=
 match r with
 | none=>k (.omap (nid d)) [(nid d,some { dead:=false,sealed:=false,pure:=true,taint:=false,sz:=0,cells:=[],mp:=true })]
 | some _=>none
def A5c {R:Type} (P:Program) (g:Bt) (t:TypeId) (m key val:AV) (k:AV→Ups→Option R):Option R :=
 match m,key,val with
 | .omap b,.int .i64 n,.bool true=>cond (Bru P t) ((It g b).bind fun x=>cond x.mp (k .undef [(b,some { x with cells:=B32 x.cells n })]) none) none
 | _,_,_=>none
def Boo {R:Type} (P:Program) (g:Bt) (t:TypeId) (m key:AV) (comma:Bool) (k:AV→Option R):Option R :=
 match m,key,comma with
 | .omap b,.int .i64 n,false=>cond (Bru P t) ((It g b).bind fun x=>cond x.mp (k (.bool (Bct x.cells n))) none) none
 | _,_,_=>none
mutual
def Gh:AV→List Nat
 | .own b _ _=>[b]
 | .optr b _=>[b]
 | .omap b=>[b]
 | .agg c=>H6 c
 | .tup c=>H6 c
 | .fn _ c=>H6 c
 | _=>[]
def H6:List AV→List Nat
 | []=>[]
 | v::r=>Gh v++H6 r
end
mutual
def Atp (ρ:Nat→Nat):AV→AV
 | .own b off n=>.own (ρ b) off n
 | .optr b off=>.optr (ρ b) off
 | .omap b=>.omap (ρ b)
 | .agg c=>.agg (Wy ρ c)
 | .tup c=>.tup (Wy ρ c)
 | .fn f c=>.fn f (Wy ρ c)
 | v=>v
def Wy (ρ:Nat→Nat):List AV→List AV
 | []=>[]
 | v::r=>Atp ρ v::Wy ρ r
end
def Aii (g:Bt):AV→Option (AV×Bool)
 | .own b off n=>(It g b).bind fun x=>cond x.pure (some (.imm ((x.cells.drop off).take (n*x.sz)) n x.sz false (!x.sealed||x.taint),!x.sealed||x.taint)) none
 | .imm c n sz _ org=>some (.imm c n sz false org,org)
 | .iptr c org=>some (.iptr c org,org)
 | .optr .. | .agg _ | .tup _ | .undef | .fn .. | .pagg .. | .omap _=>none
 | v=>some (v,false)
def An3 (g:Bt):List AV→Option (List AV×Bool)
 | []=>some ([],false)
 | v::r=>(Aii g v).bind fun p=>(An3 g r).bind fun q=>some (p.1::q.1,p.2||q.2)
def Brv (g:Bt):AV→Option (AV×Bool)
 | .own b off n=>(It g b).bind fun x=>cond x.pure (some (.imm ((x.cells.drop off).take (n*x.sz)) n x.sz false (!x.sealed||x.taint),!x.sealed)) none
 | .imm c n sz _ org=>some (.imm c n sz false org,false)
 | .optr b off=>(It g b).bind fun x=>cond x.pure (some (.iptr (x.cells.drop off) (!x.sealed||x.taint),!x.sealed)) none
 | .agg c=>(An3 g c).bind fun q=>some (.pagg q.1 q.2,true)
 | .fn f []=>some (.fn f [],false)
 | .fn _ _ | .tup _ | .undef | .omap _=>none
 | v=>some (v,false)
def Ik (d:Nat):List (Nat×Nat)→Nat→Nat
 | [],_=>d
 | (i,x)::r,b=>cond (Nat.beq i b) x (Ik d r b)
def Iv:List Nat→Nat→Bool
 | [],_=>false
 | i::r,b=>cond (Nat.beq i b) true (Iv r b)
def A7x:List Nat→List Nat→List Nat
 | [],acc=>acc.reverse
 | i::r,acc=>cond (Iv acc i) (A7x r acc) (A7x r (i::acc))
def An4:List Nat→Bool
 | []=>true
 | i::r=>!Iv r i&&An4 r
def A4 (base:Nat):List Nat→List (Nat×Nat)
 | []=>[]
 | i::r=>(i,base)::A4 (base+1) r
def Ko (g:Bt):List Nat→List Nat
 | []=>[]
 | b::r=>(match g b with | some x=>cond x.pure [] (H6 x.cells) | none=>[])++Ko g r
def Zj (g:Bt) (ids:List Nat):List Nat:=A7x (ids++Ko g (ids++Ko g ids)) []
def An5 (g:Bt):List Nat→Bool
 | []=>true
 | b::r=>(match g b with | some x=>!x.dead | none=>false)&&An5 g r
def Aen (ρ:Nat→Nat) (x:Blk):Blk:={ x with cells:=cond x.pure x.cells (Wy ρ x.cells) }
def sub (g:Bt) (ρ:Nat→Nat):List Nat→Al
 | []=>[]
 | b::r=>match g b with
  | some x=>Fx (sub g ρ r) (ρ b) (Aen ρ x)
  | none=>sub g ρ r
structure Tw where
 runK:{R:Type}→List AV→Al→(AV→Al→Option R)→Option R
 eq:∀ {R:Type} (args:List AV) (h:Al) (k:AV→Al→Option R),runK args h k=(runK args h fun v h'=>some (v,h')).bind fun p=>k p.1 p.2
def A0b {R:Type}:List (Nat×Tw)→Nat→List AV→Al→(AV→Al→Option R)→Option R
 | [],_,_,_,_=>none
 | (g,t)::r,f,args,h,k=>cond (Nat.beq g f) (t.runK args h k) (A0b r f args h k)
structure Env where
 P:Program
 nt:Nat
 muts:Nat→List Bool
 nils:List (Nat×Nat)
 free:List Nat
 cob:List Nat
 tbl:List (Nat×Tw)
mutual
def Aeo:AV→Bool
 | .imm _ _ _ _ o=>o
 | .iptr _ o=>o
 | .pagg _ o=>o
 | .agg c=>T1 c
 | .tup c=>T1 c
 | .fn _ c=>T1 c
 | _=>false
def T1:List AV→Bool
 | []=>false
 | v::r=>Aeo v||T1 r
end
def A0c:Al→Bool
 | []=>false
 | (_,x)::r=>x.taint||(cond x.pure false (T1 x.cells))||A0c r
def Jl (g:Bt):List AV→List Nat
 | []=>[]
 | .own b _ _::r=>match g b with | some x=>cond x.sealed (Jl g r) (b::Jl g r) | none=>Jl g r
 | _::r=>Jl g r
def Afi (g:Bt):AV→List Nat
 | .own b _ _=>match g b with | some x=>cond x.sealed [] [b] | none=>[]
 | .optr b _=>match g b with | some x=>cond x.sealed [] [b] | none=>[]
 | .agg c=>Jl g c
 | _=>[]
def Afj (g:Bt):List Bool→List AV→Option (List AV×List Nat×List Nat)
 | _,[]=>some ([],[],[])
 | ms,v::r =>
  cond (ms.headD false)
   ((Afj g ms.tail r).bind fun q=>some (v::q.1,Gh v++q.2.1,q.2.2))
   ((Brv g v).bind fun p=>(Afj g ms.tail r).bind fun q=>some (p.1::q.1,q.2.1,Afi g v++q.2.2))
def Akz (ids:List Nat):List Nat→Bool
 | []=>true
 | b::r=>Iv ids b&&Akz ids r
def Bvb:List Nat→List Nat→Bool
 | [],_=>true
 | i::r,l=>!Iv l i&&Bvb r l
def Brw:List Nat→Bool
 | []=>true
 | _=>false
def Bop {R:Type} (E:Env) (g:Bt) (d:Nat) (f:Nat) (args:List AV) (k:AV→Ups→Option R):Option R :=
 (Afj g (E.muts f) args).bind fun q =>
 let ids:=Zj g q.2.1
 let tin:=A4 100000 ids
 let outs:=tin.map (·.2)
 cond (An5 g ids&&(Akz ids q.2.1&&(Akz ids (Ko g ids)&&(Bvb q.2.2 ids&&(An4 (ids.map (Ik 0 tin))&&Nat.ble ids.length 100000))))) (
  A0b E.tbl f (Wy (Ik 0 tin) q.1) (sub g (Ik 0 tin) ids) fun rv rh =>
  let all:=Zj (Ao rh) (Gh rv++outs)
  let new:=all.filter fun b=>!Iv outs b
  let tnew:=A4 (nid d) new
  let σ:=Ik 0 ((tin.map fun p=>(p.2,p.1))++tnew)
  cond (!Brw q.2.2&&(Aeo rv||A0c rh)) none
   (cond (An5 (Ao rh) new&&(Nat.ble new.length 16&&(Akz all (Gh rv)&&(Akz all outs&&(Akz all (Ko (Ao rh) all)&&An4 (all.map σ))))))
    (k (Atp σ rv) ((tin.map fun p=>(p.1,(Ao rh p.2).map (Aen σ)))++tnew.map fun p=>(p.2,(Ao rh p.1).map (Aen σ)))) none)) none
def Boq {R:Type} (c a b:AV) (k:AV→Option R):Option R :=
 match c,a,b with
 | .bool t,.bool x,.bool y=>k (.bool (cond t x y))
 | .bool t,x,.tup []=>cond t (k x) none
 | .bool t,.tup [],y=>cond t none (k y)
 | .bool t,x,y=>cond t (k x) (k y)
 | _,_,_=>none
def B2v (P : Program) (f : Nat) : Bool := match P.funcs[f]? with | some fn => fn.body.isSome && !(fn.name == "runtime.NumGoroutine") | none => false
def Fe (a b:Int):Int:=cond (decide (b<a)) b a
def Zk (a b:Int):Int:=cond (decide (b>a)) b a
def B33:AV→AV→Option AV
 | .int k a,.int _ b=>some (.int k (Fe a b))
 | _,_=>none
def B34:AV→AV→Option AV
 | .int k a,.int _ b=>some (.int k (Zk a b))
 | _,_=>none
def Bmh {R:Type} (E:Env) (g:Bt) (d:Nat) (v:Operand→AV) (o:Op) (k:AV→Ups→Option R):Option R :=
 match o with
 | .move x=>k (v x) []
 | .assign x=>k (v x) []
 | .pick c a b=>Boq (v c) (v a) (v b) fun r=>k r []
 | .alloc t=>A5a E.P g (Iv E.cob d) d t k
 | .box t x=>A5b E.P (Iv E.cob d) t (v x) fun u=>Bu9 E.P g d t u k
 | .build t parts=>Brs E.P t (parts.toList.map fun p=>(p.1,v p.2)) fun r=>B31 E.P t (Iv E.cob d) d r k
 | .buildSlice t len parts=>cond ((parts.toList.map fun p=>(p.1,v p.2)).any fun p=>B60 p.2) (So E.P g d t len (parts.toList.map fun p=>(p.1,v p.2)) k) (Pi E.P g d t len (parts.toList.map fun p=>(p.1,v p.2)) k)
 | .load t a=>Bdy E.P g t (v a) fun r=>k r []
 | .store t a x=>A49 E.P g t (v a) (v x) k
 | .nilCheck x=>match v x with | .iptr c o=>k (.iptr c o) [] | .optr b o=>k (.optr b o) [] | _=>none
 | .binOp op t x y _=>Boi E.P t op (v x) (v y) fun r=>k r []
 | .unOp op _ x=>(aun op (v x)).bind fun r=>k r []
 | .convert s t x=>Bon E.P g d s t (v x) k
 | .makeFunc (.func f) first caps=>cond (Nat.blt f 1000000) (k (.fn (f+1000000*first.toList.length) ((first.toList++caps.toList).map v)) []) none
 | .makeSlice t l c=>Bol E.P d t (v l) (v c) k
 | .slice t x lo hi mx=>A48 E.P g t (v x) (lo.map v) (hi.map v) (mx.map v) fun r=>k r []
 | .fieldAddr t x f=>Sn E.P t (v x) f fun r=>k r []
 | .field t x f=>A46 E.P t (v x) f fun r=>k r []
 | .indexAddr t x i=>Sm E.P t (v x) (v i) fun r=>k r []
 | .index t x i=>A47 E.P t (v x) (v i) fun r=>k r []
 | .makeMap _ r=>Zi d (r.map v) k
 | .mapUpdate t m x y=>A5c E.P g t (v m) (v x) (v y) k
 | .lookup t m x c=>Boo E.P g t (v m) (v x) c fun r=>k r []
 | .extract t i=>match v t with | .tup vs=>(vs[i]?).bind fun r=>k r [] | _=>none
 | .call c=>match c.callee with
  | .builtin .len=>match c.args.toList,c.argTypes.toList with | [x],[t]=>(Cag E.P t (v x)).bind fun r=>k r [] | _,_=>none
  | .builtin .append=>match c.args.toList,c.argTypes.toList with | [s,x],[t,tx]=>Ase E.P g d t tx (v s) (v x) k | _,_=>none
  | .builtin .copy=>match c.args.toList,c.argTypes.toList with | [s,x],[t,_]=>Bom E.P g t (v s) (v x) k | _,_=>none
  | .builtin .min=>match c.args.toList with | [x,y]=>(B33 (v x) (v y)).bind fun r=>k r [] | [x,y,z]=>(B33 (v x) (v y)).bind fun q=>(B33 q (v z)).bind fun r=>k r [] | _=>none
  | .builtin .max=>match c.args.toList with | [x,y]=>(B34 (v x) (v y)).bind fun r=>k r [] | [x,y,z]=>(B34 (v x) (v y)).bind fun q=>(B34 q (v z)).bind fun r=>k r [] | _=>none
  | .value fo=>match v fo with
   | .fn f caps=>cond (B2v E.P (f%1000000)) (Bop E g d (f%1000000) (caps.take (f/1000000)++(c.args.toList.map v++caps.drop (f/1000000))) k) none
   | _=>none
  | _=>none
 | _=>none
structure Foot where
 r:List Nat
 w:Option Nat
 f:List Nat
 u:List Nat
def Ax3:List Operand→List Nat
 | []=>[]
 | .tmp t::r=>t::Ax3 r
 | _::r=>Ax3 r
def An:Ups→Al→Al
 | [],h=>h
 | (b,some x)::r,h=>An r (Fx h b x)
 | (b,none)::r,h=>An r (match Ao h b with | some x=>Fx h b { x with dead:=true,pure:=true,cells:=[] } | none=>h)
def Asf (ops:Array Oper) (o:Oper):Option (Nat×Bool) :=
 match o.guard with
 | none=>none
 | some (j,want)=>((ops[j]?).bind (·.dst)).map fun t=>(t,want)
def Aij (ops:Array Oper) (s:Gg) (o:Oper):Option Bool :=
 match o.guard with
 | none=>some true
 | some (j,want)=>match (ops[j]?).bind (·.dst) with
  | some t=>match Fs s t with
   | .bool b=>some (b==want)
   | .tup []=>some false
   | _=>none
  | none=>some false
def Byw (nt:Nat) (s:Gg) (d:Option Nat) (v:AV):Gg:=match d with | some d=>cond (Nat.blt d nt) (Ax0 s d v) s | none=>s
def B2w:Op→Bool
 | .move _ | .assign _ | .pick .. | .build .. | .binOp .. | .unOp .. | .makeFunc .. | .fieldAddr .. | .field .. | .indexAddr .. | .index .. | .extract .. | .nilCheck _=>false
 | .call c=>match c.callee with
  | .builtin .len | .builtin .min | .builtin .max=>false
  | _=>true
 | _=>true
def B2x:Op→Bool
 | .load ..=>true
 | _=>false
def Wl (h:Al) (op:Op) (vals:List AV):List Nat:=cond (B2w op) (cond (B2x op) (A7x (H6 vals) []) (Zj (Ao h) (H6 vals))) []
def Ak0 (d b:Nat):Bool:=Nat.ble (nid d) b&&Nat.blt b (nid d+16)
def Auh (d:Nat) (F:List Nat) (h:Al):Ups→Bool
 | []=>true
 | (b,_)::r=>cond (Ak0 d b) (Ao h b).isNone (Iv F b&&(Ao h b).isSome)&&Auh d F h r
def Bvc {R:Type} (E:Env) (ops:Array Oper) (o:Oper) (st:St) (k:St→Foot→Option R):Option R :=
 (Aij ops st.s o).bind fun wanted=>cond wanted (
  Bmh E (fun b=>cond (Iv (Wl st.h o.op (o.op.operands.toList.map (ev st.s))) b) (Ao st.h b) none) (o.dst.getD 50000) (ev st.s) o.op fun v ups =>
  cond (Auh (o.dst.getD 50000) (Wl st.h o.op (o.op.operands.toList.map (ev st.s))) st.h ups)
   (k { s:=Byw E.nt st.s o.dst v,h:=An ups st.h } { r:=(match Asf ops o with | some p=>[p.1] | none=>[])++Ax3 o.op.operands.toList,w:=o.dst,f:=Wl st.h o.op (o.op.operands.toList.map (ev st.s)),u:=ups.map (·.1) }) none)
  (k { st with s:=Byw E.nt st.s o.dst (.tup []) } { r:=(match Asf ops o with | some p=>[p.1] | none=>[]),w:=o.dst,f:=[],u:=[] })
def A5d {R:Type} (ops:Array Oper) (o:Oper) (st:St) (k:St→Option R):Option R :=
 match o.guard with
 | none=>k st
 | some (j,want)=>match (ops[j]?).bind (·.dst) with
  | none=>k st
  | some t=>match Fs st.s t with
   | .bool b=>cond (b==want) (k { s:=Ax0 st.s t (.bool want),h:=st.h }) (k { s:=Ax0 st.s t (.bool (!want)),h:=st.h })
   | _=>k st
def Bd2 {R:Type} (E:Env) (ops:Array Oper):List Oper→St→List Foot→(St→List Foot→Option R)→Option R
 | [],st,tr,k=>k st tr
 | o::r,st,tr,k=>A5d ops o st fun st=>Bvc E ops o st fun st f=>Bd2 E ops r st (f::tr) k
def wIn:Option Nat→List Nat→Bool
 | none,_=>false
 | some d,l=>Iv l d
def A7y (a b:Foot):Bool :=
 !wIn a.w b.r&&!wIn b.w a.r&&(match a.w,b.w with | some x,some y=>!Nat.beq x y | _,_=>true)&&Bvb a.u (b.f++b.u)&&Bvb b.u a.f
def An6 (e:Edge):Bool:=match e.ground with | .textOnly _=>false | .gcOnly _=>false | _=>true
def Aik (o:Oper):List Nat:=(o.after.toList.filter An6).map (·.on)
def Brx {α:Type}:List Nat→(List Nat→α)→α
 | [],k=>k []
 | i::r,k=>Brx r fun s=>k (i::s)
theorem Afk {α:Type}:∀ (l:List Nat) (k:List Nat→α),Brx l k=k l
 | [],_=>rfl
 | i::r,k=>by rw[Brx,Afk r]
def F6:List Oper→List (List Nat)→List (List Nat)
 | [],acc=>acc
 | o::r,acc=>Brx (A7x (Aik o++((Aik o).flatMap fun i=>(acc[i]?).getD [])) []) fun a=>F6 r (acc++[a])
def Y3:Nat→List Oper→Bool
 | _,[]=>true
 | i,o::r=>(o.after.toList.all fun e=>!An6 e||Nat.blt e.on i)&&Y3 (i+1) r
def A0d (f:Foot) (anc:List Nat):Nat→List Foot→Bool
 | _,[]=>true
 | i,g::r=>(Iv anc i||A7y g f)&&A0d f anc (i+1) r
def Asg:List Foot→List (List Nat)→List Foot→Bool
 | [],_,_=>true
 | f::r,a::az9,seen=>A0d f a 0 seen&&Asg r az9 (seen++[f])
 | _::_,[],_=>false
def Kp (b:Nat):Nat:=cond (Nat.ble G1 b) (b - G1) b
mutual
def Zl (g:Bt):AV→AV
 | .own b off n=>match It g b with | some _=>.own (Kp b) off n | none=>.undef
 | .optr b off=>match It g b with | some _=>.optr (Kp b) off | none=>.undef
 | .omap b=>match It g b with | some _=>.omap (Kp b) | none=>.undef
 | .agg c=>.agg (Jm g c)
 | .tup c=>.tup (Jm g c)
 | .fn f c=>.fn f (Jm g c)
 | v=>v
def Jm (g:Bt):List AV→List AV
 | []=>[]
 | v::r=>Zl g v::Jm g r
end
def A5e (g:Bt) (K:List Nat):Gg→Gg
 | []=>[]
 | (t,v)::r=>cond (Iv K t) ((t,Zl g v)::A5e g K r) (A5e g K r)
def Bd3 (K:List Nat):Gg→List Nat
 | []=>[]
 | (t,v)::r=>cond (Iv K t) (Gh v++Bd3 K r) (Bd3 K r)
def Zm (g:Bt):List Nat→Al
 | []=>[]
 | b::r=>match It g b with
  | some x=>Fx (Zm g r) (Kp b) { x with cells:=cond x.pure x.cells (Jm g x.cells) }
  | none=>Zm g r
def Ab4 (g:Bt) (ids:List Nat):List Nat:=ids.filter fun b=>match It g b with | some _=>true | none=>false
def Bd4 (g:Bt) (ids:List Nat):List Nat→Bool
 | []=>true
 | b::r=>(Iv ids b||(It g b).isNone)&&Bd4 g ids r
def B2y:List Nat→Bool
 | []=>true
 | b::r=>cond (Nat.ble G1 b) (Nat.blt (Kp b) 100000) true&&B2y r
def clean (K roots:List Nat) (st:St):Option St :=
 let g:=Ao st.h
 let ids:=Ab4 g (Zj g (Bd3 K st.s++roots))
 cond (An4 (ids.map Kp)&&(Bd4 g ids (Bd3 K st.s)&&(Bd4 g ids (Ko g ids)&&B2y ids))) (some { s:=A5e g K st.s,h:=Zm g ids }) none
def Ash {R:Type} (E:Env) (roots:List Nat) (ops:Array Oper) (draw:Bool) (st:St) (k:St→Option R):Option R :=
 Bd2 E ops ops.toList st [] fun st tr =>
  cond (!draw||(Y3 0 ops.toList&&Asg tr.reverse (F6 ops.toList []) [])) ((clean (st.s.map (·.1)) roots st).bind k) none
def Bd5 (b:Nat):Bool:=Nat.ble 100000 b&&Nat.blt b 200000
def Ail (live:List Nat):List (Nat×Nat)→St→Option St
 | [],st=>some st
 | (t,sz)::r,st=>cond (Nat.ble 1000000 sz)
  (match Iv live t,Fs st.s t with
  | true,.nsl=>Ail live r { s:=Ax0 st.s t (.imm [] 0 (sz - 1000000) false false),h:=st.h }
  | true,.own b off n=>(Aug (Ao st.h) (.own b off n)).bind fun q=>Ail live r { s:=Ax0 st.s t q.1,h:=An q.2.1 st.h }
  | _,_=>Ail live r st)
  (match Iv live t,Fs st.s t with
  | true,.nsl=>cond (Ao st.h (nid t+15)).isSome none (Ail live r { s:=Ax0 st.s t (.own (nid t+15) 0 0),h:=Fx st.h (nid t+15) (Ft sz) })
  | _,_=>Ail live r st)
def Afl (free:List Nat) (b:Nat):Bool:=Bd5 b&&!Iv free b
def B62 (free ids:List Nat):List (Nat×Nat):=A4 300000 (ids.filter fun b=>!Afl free b)
def Zn (free ids:List Nat) (b:Nat):Nat:=cond (Afl free b) b (Ik 0 (B62 free ids) b)
def B63 (ρ:Nat→Nat) (K:List Nat):Gg→Gg
 | []=>[]
 | (t,v)::r=>cond (Iv K t) ((t,Atp ρ v)::B63 ρ K r) (B63 ρ K r)
def A0e (E:Env) (live roots:List Nat) (st:St):Option St :=
 (Ail live E.nils st).bind fun st =>
 let g:=Ao st.h
 let ids:=Ab4 g (Zj g (Bd3 live st.s++roots))
 cond (An4 (ids.map (Zn E.free ids))&&(Akz ids (Bd3 live st.s)&&(Akz ids (Ko g ids)&&Nat.ble ids.length 100000))) (some { s:=B63 (Zn E.free ids) live st.s,h:=sub g (Zn E.free ids) ids }) none
inductive Hint where
 | leaf
 | node (live:List Nat) (a b:Hint)
 | join (live:List Nat) (a b:Hint)
def Hint.live:Hint→List Nat
 | .leaf=>[]
 | .node l _ _=>l
 | .join l _ _=>l
def Hint.a:Hint→Hint
 | .leaf=>.leaf
 | .node _ a _=>a
 | .join _ a _=>a
def Hint.b:Hint→Hint
 | .leaf=>.leaf
 | .node _ _ b=>b
 | .join _ _ b=>b
def Hint.isJoin:Hint→Bool
 | .join _ _ _=>true
 | _=>false
noncomputable def Ak {α:Type} (a:α):{ x:α // x=a }:=Classical.choice ⟨⟨a,rfl⟩⟩
noncomputable def B64 {R:Type} (j:Bool) (f:St→Option R):St→Option R:=cond j (Ak f).1 f
theorem Ab5 {R:Type} (j:Bool) (f:St→Option R):B64 j f=f:=by cases j;rfl;exact(Ak f).2
noncomputable def B35 {R:Type} (E:Env) (roots:List Nat) (H:Hint) (f:St→Option R) (st:St):Option R:=cond H.isJoin ((A0e E H.live roots st).bind (B64 true f)) (f st)
def An7 {R:Type} (cn:St→Option St) (body:(St→Option R)→St→Option R):Nat→St→Option R
 | 0,_=>none
 | n+1,st=>body (fun st=>(cn st).bind (An7 cn body n)) st
noncomputable def Fu {R:Type} (E:Env) (roots:List Nat) (N:Nat):Code→Hint→(St→Option R)→(Nat→St→Option R)→(St→Option R)→St→Option R
 | .skip,_,k,_,_,st=>k st
 | .region _ ops draw,_,k,_,_,st=>Ash E roots ops draw st k
 | .seq a b,H,k,x,r,st=>Fu E roots N a H.a (B35 E roots H fun st=>Fu E roots N b H.b k x r st) x r st
 | .cond c a b,H,k,x,r,st=>match ev st.s c with
  | .bool t=>cond t (Fu E roots N a H.a k x r st) (Fu E roots N b H.b k x r st)
  | _=>none
 | .block id c,H,k,x,r,st=>Fu E roots N c H.a k (fun j st=>cond (Nat.beq j id) (k st) (x j st)) r st
 | .loop c,H,_,x,r,st=>(A0e E H.live roots st).bind (B64 true (An7 (A0e E H.live roots) (fun k st=>Fu E roots N c H.a k x r st) N))
 | .exit id,_,_,x,_,st=>x id st
 | .ret,_,_,_,r,st=>r st
 | _,_,_,_,_,_=>none
def Na {R:Type} (E:Env) (st:St):List ResultVar→List AV→(List AV→Option R)→Option R
 | [],acc,k=>k acc.reverse
 | .tmp t::r,acc,k=>Na E st r (Fs st.s t::acc) k
 | .cell a t::r,acc,k=>Bdy E.P (Ao st.h) t (Fs st.s a) fun v=>Na E st r (v::acc) k
def Cah (g:Bt) (i:Nat) (m:Nat×Nat) (v:AV):Option (AV×Ups) :=
 cond (Nat.beq m.1 0) (some (v,[]))
 (cond (Nat.beq m.1 1) (match v with
  | .nsl=>some (.imm [] 0 m.2 false false,[])
  | .imm c n sz _ o=>some (.imm c n sz false o,[])
  | .own b off n=>(Aug g (.own b off n)).bind fun q=>some (q.1,q.2.1)
  | _=>none)
 (cond (Nat.beq m.1 2) (match v with
  | .nsl=>cond (g (nid 90000+i)).isSome none (some (.own (nid 90000+i) 0 0,[(nid 90000+i,some (Ft m.2))]))
  | v=>some (v,[]))
 (match v with
  | .agg c=>(Zh g c).bind fun q=>some (.pagg q.1 q.2.2,q.2.1)
  | .pagg c o=>some (.pagg c o,[])
  | _=>none)))
def Bvd (h:Al):Nat→List (Nat×Nat)→List AV→Option (List AV×Al)
 | _,_,[]=>some ([],h)
 | i,ms,v::r=>(Cah (Ao h) i (ms.headD (0,0)) v).bind fun p=>(Bvd (An p.2 h) (i+1) ms.tail r).bind fun q=>some (p.1::q.1,q.2)
def Cai (l:List AV):AV:=match l with | [v]=>v | l=>.tup l
def Yc {R:Type} (E:Env) (fn:Func) (modes:List (Nat×Nat)) (outs:List Nat) (k:AV→Al→Option R) (st:St):Option R :=
 Na E st fn.results.toList [] fun l =>
 (Bvd st.h 0 modes l).bind fun q =>
 let v:=Cai q.1
 let g:=Ao q.2
 let ids:=Ab4 g (Zj g (Gh v++outs))
 cond (An4 (ids.map (Zn E.free ids))&&(Akz ids (Gh v)&&(Akz ids (Ko g ids)&&Nat.ble ids.length 100000))) (k (Atp (Zn E.free ids) v) (sub g (Zn E.free ids) ids)) none
def Bor:Nat→List AV→Gg
 | _,[]=>[]
 | i,v::r=>(i,v)::Bor (i+1) r
structure Hints where
 H:Hint
 nils:List (Nat×Nat):=[]
 modes:List (Nat×Nat):=[]
 free:List Nat:=[]
 cob:List Nat:=[]
def Bdr:Al→Bool
 | []=>true
 | (b,_)::r=>Bd5 b&&Bdr r
noncomputable def Ak1 {R:Type} (P:Program) (muts:Nat→List Bool) (T:List (Nat×Tw)) (hs:Hints) (N f:Nat) (args:List AV) (h:Al) (k:AV→Al→Option R):Option R :=
 match P.funcs[f]? with
 | none=>none
 | some fn=>match fn.body with
  | none=>none
  | some c =>
   let E:Env:={ P,nt:=fn.ntmps,muts,nils:=hs.nils,free:=hs.free,cob:=hs.cob,tbl:=T }
   let outs:=h.map (·.1)
   let fin:=Yc E fn hs.modes outs k
   cond (Nat.ble args.length fn.ntmps&&Bdr h) (Fu E outs N c hs.H fin (fun _ _=>none) fin { s:=Bor 0 args,h }) none
end Gx

namespace Gx
open Go
mutual
def RepC (J:Nat→Prop) (w:World):AV→Value→Prop
 | .int k n,v=>v=.int k n
 | .bool b,v=>v=.bool b
 | .str s,v=>v=.string ⟨⟨s⟩⟩
 | .nsl,v=>v=.slice none 0 0
 | .imm c len sz tight _,v=>c.length=len*sz∧∃ A cap,v=.slice A len cap∧len≤cap∧(tight=true→cap=len) ∧
   (len=0∨∃ a,A=some a∧J a.block∧RepCs J w c (fun j=>w.cell? (a.add j)) 0)
 | .iptr c _,v=>∃ a,v=.pointer (some a)∧J a.block∧RepCs J w c (fun j=>w.cell? (a.add j)) 0
 | .nilptr,v=>v=.pointer none
 | .nilfn,v=>v=.nilFunc
 | .fn f [],v=>v=.func (.func (f%1000000)) #[] #[]
 | _,_=>False
def RepCs (J:Nat→Prop) (w:World):List AV→(Nat→Option Value)→Nat→Prop
 | [],_,_=>True
 | x::r,rd,i=>(∃ u,rd i=some u∧RepC J w x u)∧RepCs J w r rd (i+1)
end
theorem Cm {J:Nat→Prop} {w:World}:∀ {c:List AV} {rd:Nat→Option Value} {i:Nat},
  RepCs J w c rd i↔∀ j x,c[j]?=some x→∃ u,rd (i+j)=some u∧RepC J w x u:=by
 intro c
 induction c with
 | nil=>intro rd i;simp[RepCs]
 | cons x r ih =>
  intro rd i
  rw[RepCs,ih]
  constructor
  ·rintro⟨h0,h1⟩ j y hj
   cases j with
   | zero=>simp at hj;subst hj;simpa using h0
   | succ j=>have:=h1 j y (by simpa using hj);rwa [show i+1+j=i+(j+1) by omega] at this
  ·intro h
   refine⟨by simpa using h 0 x (by simp),fun j y hj=>?_⟩
   have:=h (j+1) y (by simpa using hj)
   rwa [show i+(j+1)=i+1+j by omega] at this
def B2z (J:Nat→Prop) (w w':World):Prop:=∀ k,J k→w'.heap[k]?=w.heap[k]?
theorem Bos {J:Nat→Prop} {w w':World} (h:B2z J w w') {a:Addr} (ha:J a.block):w'.cell? a=w.cell? a:=by
 unfold World.cell?;rw[h a.block ha]
theorem Sp (a:Addr) (n:Nat):(a.add n).block=a.block:=by unfold Addr.add;split<;>rfl
mutual
theorem RepC.keep {J J':Nat→Prop} {w w':World} (hJ:∀ k,J k→J' k) (hk:B2z J w w'):∀ {x:AV} {v:Value},RepC J w x v→RepC J' w' x v
 | .int ..,_,h=>h
 | .bool _,_,h=>h
 | .str _,_,h=>h
 | .nsl,_,h=>h
 | .imm c _ _ _ _,_,h=>by
  rw[RepC] at h ⊢
  obtain⟨h1,A,cap,h2,h3,h4,h5⟩:=h
  refine⟨h1,A,cap,h2,h3,h4,?_⟩
  rcases h5 with h5 | ⟨a,ha,hj,hc⟩
  ·exact .inl h5
  ·refine .inr ⟨a,ha,hJ _ hj,RepCs.keep hJ hk (c:=c) (fun j=>?_) hc⟩
   exact Bos hk (by rw[Sp];exact hj)
 | .iptr c _,_,h=>by
  rw[RepC] at h ⊢
  obtain⟨a,ha,hj,hc⟩:=h
  exact⟨a,ha,hJ _ hj,RepCs.keep hJ hk (c:=c) (fun j=>Bos hk (by rw[Sp];exact hj)) hc⟩
 | .nilptr,_,h=>h
 | .nilfn,_,h=>h
 | .fn _ [],_,h=>h
 | .fn _ (_::_),_,h=>by simp[RepC] at h
 | .pagg ..,_,h=>by simp[RepC] at h
 | .agg _,_,h=>by simp[RepC] at h
 | .tup _,_,h=>by simp[RepC] at h
 | .own ..,_,h=>by simp[RepC] at h
 | .optr ..,_,h=>by simp[RepC] at h
 | .undef,_,h=>by simp[RepC] at h
 | .omap _,_,h=>by simp[RepC] at h
theorem RepCs.keep {J J':Nat→Prop} {w w':World} (hJ:∀ k,J k→J' k) (hk:B2z J w w'):∀ {c:List AV} {rd rd':Nat→Option Value} {i:Nat},(∀ j,rd' j=rd j)→RepCs J w c rd i→RepCs J' w' c rd' i
 | [],_,_,_,_,_=>trivial
 | x::r,rd,rd',i,he,h=>by
  rw[RepCs] at h ⊢
  obtain⟨⟨u,hu,hx⟩,hr⟩:=h
  exact⟨⟨u,by rw[he];exact hu,RepC.keep hJ hk (x:=x) hx⟩,RepCs.keep hJ hk (c:=r) he hr⟩
end
abbrev Cr:=Nat→Option (Nat×Nat)
def Bj (w:World) (k:Nat):Nat:=match w.heap[k]? with | some (.cells cs _ _)=>cs.size | _=>0
mutual
def Rep (J:Bool→Nat→Prop) (β:Cr) (h:Al) (w:World):AV→Value→Prop
 | .own b off n,v=>∃ x A cap,(Ao h b=some x∧x.mp=false)∧v=.slice A n cap∧n≤cap∧(cap=0∨∃ k o,A=some ⟨k,o+off,none⟩ ∧
   (x.dead=true∨(β b=some (k,o)∧o+off+cap*x.sz≤Bj w k∧off+n*x.sz≤x.cells.length)))
 | .omap b,v=>∃ x k,(Ao h b=some x∧x.mp=true)∧v=.map (some k)∧(x.dead=true∨β b=some (k,0))
 | .optr b off,v=>∃ x k o,(Ao h b=some x∧x.mp=false)∧v=.pointer (some ⟨k,o+off,none⟩)∧(x.dead=true∨β b=some (k,o))
 | .pagg c org,v=>∃ cs,v=.agg ⟨cs⟩∧cs.length=c.length∧RepCs (J org) w c (fun j=>cs[j]?) 0
 | .agg c,v=>∃ cs,v=.agg ⟨cs⟩∧Reps J β h w c cs
 | .tup c,v=>∃ cs,v=.tuple ⟨cs⟩∧Reps J β h w c cs
 | .fn f c,v=>∃ cs:List Value,v=.func (.func (f%1000000)) ⟨cs.take (f/1000000)⟩ ⟨cs.drop (f/1000000)⟩∧Reps J β h w c cs
 | .undef,_=>True
 | .imm c n sz t org,v=>RepC (J org) w (.imm c n sz t org) v
 | .iptr c org,v=>RepC (J org) w (.iptr c org) v
 | .int k n,v=>v=.int k n
 | .bool b,v=>v=.bool b
 | .str s,v=>v=.string ⟨⟨s⟩⟩
 | .nsl,v=>v=.slice none 0 0
 | .nilptr,v=>v=.pointer none
 | .nilfn,v=>v=.nilFunc
def Reps (J:Bool→Nat→Prop) (β:Cr) (h:Al) (w:World):List AV→List Value→Prop
 | [],cs=>cs=[]
 | x::r,cs=>∃ u us,cs=u::us∧Rep J β h w x u∧Reps J β h w r us
end
structure Ext (J:Bool→Nat→Prop) (β:Cr) (h:Al) (w:World) (J':Bool→Nat→Prop) (β':Cr) (h':Al) (w':World):Prop where
 jsub:∀ o k,J o k→J' o k
 keep:∀ o,B2z (J o) w w'
 blk:∀ b x,Ao h b=some x→∃ x',(Ao h' b=some x'∧x'.mp=x.mp)∧(x'.dead=true∨(x.dead=false∧β' b=β b∧x'.sz=x.sz∧(x.mp=false→x'.cells.length=x.cells.length)))
 size:∀ b k o,β b=some (k,o)→Bj w k≤Bj w' k
mutual
theorem Rep.ext {J J':Bool→Nat→Prop} {β β':Cr} {h h':Al} {w w':World} (E:Ext J β h w J' β' h' w'):∀ {x:AV} {v:Value},Rep J β h w x v→Rep J' β' h' w' x v
 | .own b off n,v,hr=>by
  rw[Rep] at hr ⊢
  obtain⟨x,A,cap,⟨hx,hm⟩,h1,h2,hr⟩:=hr
  obtain⟨x',⟨hx',hm'⟩,hd⟩:=E.blk b x hx
  refine⟨x',A,cap,⟨hx',by rw[hm',hm]⟩,h1,h2,?_⟩
  rcases hr with hr | ⟨k,o,h3,hr⟩
  ·exact .inl hr
  ·refine .inr ⟨k,o,h3,?_⟩
   rcases hd with hd | ⟨hd,hβ,hs,hl⟩
   ·exact .inl hd
   ·rcases hr with hr | ⟨h4,h5,h6⟩
    ·simp[hd] at hr
    ·exact .inr ⟨by rw[hβ];exact h4,by rw[hs];exact Nat.le_trans h5 (E.size b k o h4),by rw[hs,hl hm];exact h6⟩
 | .optr b off,v,hr=>by
  rw[Rep] at hr ⊢
  obtain⟨x,k,o,⟨hx,hm⟩,h1,hr⟩:=hr
  obtain⟨x',⟨hx',hm'⟩,hd⟩:=E.blk b x hx
  refine⟨x',k,o,⟨hx',by rw[hm',hm]⟩,h1,?_⟩
  rcases hd with hd | ⟨hd,hβ,hs,hl⟩
  ·exact .inl hd
  ·rcases hr with hr | hr
   ·simp[hd] at hr
   ·exact .inr (by rw[hβ];exact hr)
 | .omap b,v,hr=>by
  rw[Rep] at hr ⊢
  obtain⟨x,k,⟨hx,hm⟩,h1,hr⟩:=hr
  obtain⟨x',⟨hx',hm'⟩,hd⟩:=E.blk b x hx
  refine⟨x',k,⟨hx',by rw[hm',hm]⟩,h1,?_⟩
  rcases hd with hd | ⟨hd,hβ,hs,hl⟩
  ·exact .inl hd
  ·rcases hr with hr | hr
   ·simp[hd] at hr
   ·exact .inr (by rw[hβ];exact hr)
 | .pagg c org,v,hr=>by
  rw[Rep] at hr ⊢
  obtain⟨cs,h1,h2,h3⟩:=hr
  exact⟨cs,h1,h2,RepCs.keep (E.jsub org) (E.keep org) (fun _=>rfl) h3⟩
 | .agg c,v,hr=>by
  rw[Rep] at hr ⊢
  obtain⟨cs,h1,h2⟩:=hr
  exact⟨cs,h1,Reps.ext E (c:=c) h2⟩
 | .tup c,v,hr=>by
  rw[Rep] at hr ⊢
  obtain⟨cs,h1,h2⟩:=hr
  exact⟨cs,h1,Reps.ext E (c:=c) h2⟩
 | .fn f c,v,hr=>by
  rw[Rep] at hr ⊢
  obtain⟨cs,h1,h2⟩:=hr
  exact⟨cs,h1,Reps.ext E (c:=c) h2⟩
 | .undef,_,_=>by rw[Rep];trivial
 | .imm c n sz t org,v,hr=>by rw[Rep] at hr ⊢;exact RepC.keep (E.jsub org) (E.keep org) hr
 | .iptr c org,v,hr=>by rw[Rep] at hr ⊢;exact RepC.keep (E.jsub org) (E.keep org) hr
 | .int ..,_,hr=>hr
 | .bool _,_,hr=>hr
 | .str _,_,hr=>hr
 | .nsl,_,hr=>hr
 | .nilptr,_,hr=>hr
 | .nilfn,_,hr=>hr
theorem Reps.ext {J J':Bool→Nat→Prop} {β β':Cr} {h h':Al} {w w':World} (E:Ext J β h w J' β' h' w'):∀ {c:List AV} {cs:List Value},Reps J β h w c cs→Reps J' β' h' w' c cs
 | [],_,hr=>hr
 | x::r,cs,hr=>by
  rw[Reps] at hr ⊢
  obtain⟨u,us,h1,h2,h3⟩:=hr
  exact⟨u,us,h1,Rep.ext E (x:=x) h2,Reps.ext E (c:=r) h3⟩
end
end Gx

namespace Gx
open Go
def CellsRep (J:Bool→Nat→Prop) (β:Cr) (h:Al) (w:World) (x:Blk) (rd:Nat→Option Value):Prop :=
 (x.pure=true→RepCs (J x.taint) w x.cells rd 0) ∧
 (x.pure=false→∀ j c,x.cells[j]?=some c→∃ u,rd j=some u∧Rep J β h w c u∧u.oneCell'=true)
def FrOk (n:Nat) (fr:Nat×Nat):Prop:=fr.1=fr.2∨n≤fr.1
theorem FrOk.at {n:Nat} {fr:Nat×Nat} (h:FrOk n fr) (j:Nat) (hj:j<n):¬ (fr.1≤j∧j<fr.2):=by rcases h with h | h<;>omega
def Caj (J:Bool→Nat→Prop) (β:Cr) (h:Al) (w:World) (b:Nat) (x:Blk):Prop :=
 (β b=none∧x.cells=[])∨∃ k o cs ty fr,β b=some (k,o)∧w.heap[k]?=some (.cells cs ty fr) ∧
  FrOk cs.size fr∧o+x.cells.length≤cs.size∧CellsRep J β h w x (fun j=>cs[o+j]?) ∧
  (x.sealed=false→∀ g,¬ J g k)∧(x.sealed=true→J x.taint k)
def B8s (c:List AV) (es:Array MapEntry):Prop:=∃ l:List Int,c=l.map (fun n=>.int .i64 n)∧es.toList.map (fun e=>(e.key,e.val))=l.map (fun n=>(.int .i64 n,.bool true))
def MapRep (J:Bool→Nat→Prop) (β:Cr) (w:World) (b:Nat) (x:Blk):Prop :=
 x.pure=true∧x.sealed=false∧∃ k es clk,β b=some (k,0)∧w.heap[k]?=some (.map es clk)∧B8s x.cells es∧∀ g,¬ J g k
structure SimH (J:Bool→Nat→Prop) (β:Cr) (h:Al) (w:World):Prop where
 jlt:∀ o k,J o k→k<w.heap.size
 jft:∀ k,J false k→J true k
 blk:∀ b x,Ao h b=some x→x.dead=false→x.mp=false→Caj J β h w b x
 mblk:∀ b x,Ao h b=some x→x.dead=false→x.mp=true→MapRep J β w b x
 sep:∀ b b' x x' k o o',Ao h b=some x→Ao h b'=some x'→x.dead=false→x'.dead=false→x.sealed=false→β b=some (k,o)→β b'=some (k,o')→b=b'
mutual
theorem Asi {J:Bool→Nat→Prop} {β:Cr} {h:Al} {w:World}:∀ v:Value,Rep J β h w (ofV v) v
 | .int ..=>by simp[ofV,Rep]
 | .bool _=>by simp[ofV,Rep]
 | .string ⟨⟨s⟩⟩=>by simp[ofV,Rep]
 | .slice none 0 0=>by simp[ofV,Rep]
 | .slice none 0 (_+1)=>by simp[ofV,Rep]
 | .slice none (_+1) _=>by simp[ofV,Rep]
 | .slice (some _) _ _=>by simp[ofV,Rep]
 | .pointer none=>by simp[ofV,Rep]
 | .pointer (some _)=>by simp[ofV,Rep]
 | .nilFunc=>by simp[ofV,Rep]
 | .agg ⟨cs⟩=>by rw[ofV,Rep];exact⟨cs,rfl,Asj cs⟩
 | .float ..=>by simp[ofV,Rep]
 | .complex ..=>by simp[ofV,Rep]
 | .map _=>by simp[ofV,Rep]
 | .chan _=>by simp[ofV,Rep]
 | .func ..=>by simp[ofV,Rep]
 | .iface ..=>by simp[ofV,Rep]
 | .nilIface=>by simp[ofV,Rep]
 | .tuple _=>by simp[ofV,Rep]
theorem Asj {J:Bool→Nat→Prop} {β:Cr} {h:Al} {w:World}:∀ cs:List Value,Reps J β h w (N5 cs) cs
 | []=>by simp[N5,Reps]
 | v::r=>by rw[N5,Reps];exact⟨v,r,rfl,Asi v,Asj r⟩
end
structure SimS (J:Bool→Nat→Prop) (β:Cr) (h:Al) (w:World) (s:Gg) (t:Array Value):Prop where
 slot:∀ i v,t[i]?=some v→Rep J β h w (Fs s i) v
 out:∀ i,t.size≤i→Fs s i=.undef
theorem Bg {J:Bool→Nat→Prop} {β:Cr} {h:Al} {w:World} {s:Gg} {a:Act} (H:SimS J β h w s a.tmps) (x:Operand):Rep J β h w (ev s x) (a.eval x):=by
 cases x with
 | tmp t =>
  rw[ev,Act.eval,Array.getD_eq_getD_getElem?]
  cases ht:a.tmps[t]? with
  | some v=>exact H.slot t v ht
  | none =>
   have:a.tmps.size≤t:=by simpa using ht
   rw[H.out t this];simp[Rep]
 | const v=>exact Asi v
 | global g=>simp[ev,Rep]
 | func f =>
  rw[ev]
  cases hf:Nat.blt f 1000000 with
  | false=>simp[Rep]
  | true =>
   have:f<1000000:=by simpa using hf
   simp[Rep,Act.eval,Reps,Nat.mod_eq_of_lt this]
section
variable {R:Type} {r:R} {P:Program} {J:Bool→Nat→Prop} {β:Cr} {h:Al} {w:World}
theorem Bry {t:TypeId} {op:BinOp} {k:IntKind} {a b:Int} {v:AV} (hv:A45 op k a b=some v) :
  ∃ vc,(binOp op t (.int k a) (.int k b)).run P w=.ok vc w∧Rep J β h w v vc:=by
 cases op<;>simp[A45] at hv<;>subst hv<;>simp[binOp,Op.intArith,Op.intBits,Op.intCmp,Rep]
theorem Byx {op:BinOp} {t:TypeId} {x y:AV} {k:AV→Option R} {vx vy:Value} (hh:B3z P t op x y k=some r) (hx:Rep J β h w x vx) (hy:Rep J β h w y vy) (ox oy:Operand) :
  ∃ v vc,k v=some r∧(do eqGuard op t ox oy vx vy;binOp op t vx vy:Sem Value).run P w=.ok vc w∧Rep J β h w v vc:=by
 unfold B3z at hh
 split at hh
 ·rename_i k1 a k2 b
  rw[Rep] at hx hy;subst hx hy
  have hg:(eqGuard op t ox oy (.int k1 a) (.int k2 b)).run P w=.ok () w:=by
   unfold eqGuard;cases op<;>simp
  split at hh
  ·cases hb:decide (b<0)<;>rw[hb] at hh<;>simp at hh hb
   refine⟨_,_,hh,?_,by rw[Rep]⟩
   simp[hg,binOp,Op.shift];intro hc;omega
  ·cases hb:decide (b<0)<;>rw[hb] at hh<;>simp at hh hb
   refine⟨_,_,hh,?_,by rw[Rep]⟩
   simp[hg,binOp,Op.shift];intro hc;omega
  ·cases hk:Qg k1 k2<;>rw[hk] at hh<;>simp at hh
   have hk':k1=k2:=by simpa[Qg] using hk
   subst hk'
   cases hb:(b==0)<;>rw[hb] at hh<;>simp at hh hb
   refine⟨_,_,hh,?_,by rw[Rep]⟩
   simp[hg,binOp,Op.intDiv,hb]
  ·cases hk:Qg k1 k2<;>rw[hk] at hh<;>simp at hh
   have hk':k1=k2:=by simpa[Qg] using hk
   subst hk'
   cases hb:(b==0)<;>rw[hb] at hh<;>simp at hh hb
   refine⟨_,_,hh,?_,by rw[Rep]⟩
   simp[hg,binOp,Op.intDiv,hb]
  ·cases hk:Qg k1 k2<;>rw[hk] at hh<;>simp at hh
   have hk':k1=k2:=by simpa[Qg] using hk
   subst hk'
   cases hi:A45 op k1 a b with
   | none=>rw[hi] at hh;simp at hh
   | some v =>
    rw[hi] at hh
    obtain⟨vc,h1,h2⟩:=Bry (P:=P) (J:=J) (β:=β) (h:=h) (w:=w) (t:=t) hi
    exact⟨v,vc,by simpa using hh,by simp[hg,h1],h2⟩
 ·rename_i a b
  rw[Rep] at hx hy;subst hx hy
  split at hh
  ·cases hb:Asd P t<;>rw[hb] at hh<;>simp at hh
   have ht:P.underlying t=some .bool:=by unfold Asd at hb;split at hb<;>simp_all
   refine⟨_,_,hh,?_,by rw[Rep]⟩
   have he:(Op.equal t (.bool a) (.bool b)).run P w=.ok (a==b) w:=by
    have:∀ d,(Op.equalIn (d+1) t (.bool a) (.bool b)).run P w=.ok (a==b) w:=fun d=>by
     unfold Op.equalIn;simp only[Sem.run_bind,run_underlying ht,Result.andThen_ok,Sem.run_pure]
    exact this 9999
   have hg:∀ op,(eqGuard op t ox oy (.bool a) (.bool b)).run P w=.ok () w:=fun op=>by unfold eqGuard;cases op<;>simp
   simp only[Sem.run_bind,hg,Result.andThen_ok,binOp,he,Sem.run_pure]
  ·cases hb:Asd P t<;>rw[hb] at hh<;>simp at hh
   have ht:P.underlying t=some .bool:=by unfold Asd at hb;split at hb<;>simp_all
   refine⟨_,_,hh,?_,by rw[Rep]⟩
   have he:(Op.equal t (.bool a) (.bool b)).run P w=.ok (a==b) w:=by
    have:∀ d,(Op.equalIn (d+1) t (.bool a) (.bool b)).run P w=.ok (a==b) w:=fun d=>by
     unfold Op.equalIn;simp only[Sem.run_bind,run_underlying ht,Result.andThen_ok,Sem.run_pure]
    exact this 9999
   have hg:∀ op,(eqGuard op t ox oy (.bool a) (.bool b)).run P w=.ok () w:=fun op=>by unfold eqGuard;cases op<;>simp
   simp only[Sem.run_bind,hg,Result.andThen_ok,binOp,he,Sem.run_pure]
  ·simp at hh
 ·rename_i a b
  rw[Rep] at hx hy;subst hx hy
  have ea:(⟨⟨a⟩⟩:ByteArray).toList=a:=by simp[ByteArray.toList_eq]
  have eb:(⟨⟨b⟩⟩:ByteArray).toList=b:=by simp[ByteArray.toList_eq]
  have hg:∀ op,(eqGuard op t ox oy (.string ⟨⟨a⟩⟩) (.string ⟨⟨b⟩⟩)).run P w=.ok () w:=fun op=>by unfold eqGuard;cases op<;>simp
  split at hh
  ·cases hb:Nat.ble (a.length+b.length) 140737488355328<;>rw[hb] at hh<;>simp at hh hb
   refine⟨_,_,hh,?_,by rw[Rep]⟩
   have hl:¬ (((⟨⟨a⟩⟩:ByteArray).size+(⟨⟨b⟩⟩:ByteArray).size:Nat):Int)>IntKind.i64.max:=by
    show ¬ ((a.length+b.length:Nat):Int)>9223372036854775807
    omega
   have ec:(⟨⟨a⟩⟩:ByteArray)++⟨⟨b⟩⟩=⟨⟨a++b⟩⟩:=by
    apply ByteArray.ext;simp[ByteArray.data_append]
   simp only[Sem.run_bind,hg,Result.andThen_ok,binOp,Op.stringOp,if_neg hl,Sem.run_pure,ec]
  all_goals first
   | (refine⟨_,_,hh,?_,by rw[Rep]⟩;simp only[Sem.run_bind,hg,Result.andThen_ok,binOp,Op.stringOp,Sem.run_pure,ea,eb];done)
   | simp at hh
 ·simp at hh
end
end Gx

namespace Gx
open Go
section
variable {R:Type} {r:R} {P:Program} {J:Bool→Nat→Prop} {β:Cr} {h:Al} {w:World}
theorem ub {α:Type} {o:Option α} {f:α→Option R} (hh:o.bind f=some r):∃ x,o=some x∧f x=some r:=by
 cases o with
 | none=>simp at hh
 | some x=>exact⟨x,rfl,by simpa using hh⟩
theorem uc {b:Bool} {x:Option R} (hh:cond b x none=some r):b=true∧x=some r:=by
 cases b<;>simp at hh;exact⟨rfl,hh⟩
theorem uc' {b:Bool} {x:Option R} (hh:cond b none x=some r):b=false∧x=some r:=by
 cases b<;>simp at hh;exact⟨rfl,hh⟩
theorem B36 {op:UnOp} {x v:AV} {vx:Value} (hh:aun op x=some v) (hx:Rep J β h w x vx) :
  ∃ vc,(Op.unary op vx).run P w=.ok vc w∧Rep J β h w v vc:=by
 unfold aun at hh
 split at hh
 ·rename_i k n
  rw[Rep] at hx;subst hx;simp at hh;subst hh
  refine⟨.int k (k.wrap (-n)),by simp[Op.unary,Op.intArith],?_⟩
  rw[Rep]
 ·rename_i k n
  rw[Rep] at hx;subst hx
  have hh':=hh
  rw[A45] at hh'
  simp only[Option.some.injEq] at hh';subst hh'
  refine⟨_,rfl,?_⟩
  rw[Rep];cases k.signed<;>rfl
 ·rename_i b
  rw[Rep] at hx;subst hx;simp at hh;subst hh
  exact⟨.bool (!b),by simp[Op.unary],by rw[Rep]⟩
 ·simp at hh
def A7z (P:Program) (J:Bool→Nat→Prop) (β:Cr) (h:Al) (w:World) (t:TypeId) (rd:Nat→Option Value) (v:AV):Prop :=
 (∃ d,P.underlying t=some d∧d.isRow=false∧∃ u,rd 0=some u∧Rep J β h w v u) ∨
 (∃ d,P.underlying t=some d∧d.isRow=true∧∃ us:List Value,(P.info? t).map (·.size)=some us.length∧(∀ j u,us[j]?=some u→rd j=some u)∧Rep J β h w v (.agg us.toArray))
theorem RepCs.at {J:Nat→Prop} {c:List AV} {rd:Nat→Option Value} (hc:RepCs J w c rd 0) {j:Nat} {x:AV} (hj:c[j]?=some x):∃ u,rd j=some u∧RepC J w x u:=by
 have:=Cm.1 hc j x hj;simpa using this
theorem RepCs.drop {J:Nat→Prop} {c:List AV} {rd:Nat→Option Value} (hc:RepCs J w c rd 0) (n:Nat):RepCs J w (c.drop n) (fun j=>rd (n+j)) 0:=by
 rw[Cm] at hc ⊢
 intro j x hj
 rw[List.getElem?_drop] at hj
 simpa using hc (n+j) x hj
theorem RepCs.take {J:Nat→Prop} {c:List AV} {rd:Nat→Option Value} (hc:RepCs J w c rd 0) (n:Nat):RepCs J w (c.take n) rd 0:=by
 rw[Cm] at hc ⊢
 intro j x hj
 rw[List.getElem?_take] at hj
 split at hj
 ·exact hc j x hj
 ·simp at hj
theorem RepCs.list {J:Nat→Prop} {c:List AV} {rd:Nat→Option Value} (hc:RepCs J w c rd 0) :
  ∃ us:List Value,us.length=c.length∧(∀ j u,us[j]?=some u→rd j=some u)∧RepCs J w c (fun j=>us[j]?) 0:=by
 refine⟨c.zipIdx.map fun p=>(rd p.2).getD undef,by simp,fun j u hj=>?_,?_⟩
 ·rw[List.getElem?_map,List.getElem?_zipIdx] at hj
  cases hx:c[j]? with
  | none=>rw[hx] at hj;simp at hj
  | some x =>
   rw[hx] at hj
   obtain⟨u',hu,_⟩:=hc.at hx
   simp[hu] at hj
   rw[hu,hj]
 ·rw[Cm]
  intro j x hj
  obtain⟨u,hu,hr⟩:=hc.at hj
  refine⟨u,?_,hr⟩
  simp[hj,hu]
theorem A70 {J1 J2:Nat→Prop}:∀ {c:List AV} {rd:Nat→Option Value} {i:Nat},Bb c=true→RepCs J1 w c rd i→RepCs J2 w c rd i
 | [],_,_,_,_=>trivial
 | x::r,rd,i,hp,hc=>by
  rw[RepCs] at hc ⊢
  obtain⟨⟨u,h1,h2⟩,h3⟩:=hc
  have hr:Bb r=true:=by unfold Bb at hp;split at hp<;>simp_all
  refine⟨⟨u,h1,?_⟩,A70 hr h3⟩
  unfold Bb at hp
  split at hp<;>simp_all[RepC]
theorem Aui {t:TypeId} {c:List AV} {org:Bool} {k:Bool→Option R} {rd:Nat→Option Value} {i:Nat} (hh:Ya P t c org k=some r) (hc:RepCs (J org) w c rd i):∃ o,k o=some r∧RepCs (J o) w c rd i:=by
 unfold Ya at hh
 cases hp:B2r P t with
 | true=>rw[hp] at hh;exact⟨org,hh,hc⟩
 | false =>
  rw[hp,cond_false] at hh
  obtain⟨h1,h2⟩:=uc hh
  refine⟨false,h2,?_⟩
  cases org with
  | false=>exact hc
  | true=>exact A70 (by simpa using h1) hc
theorem Va {t:TypeId} {c:List AV} {org:Bool} {k:AV→Option R} {rd:Nat→Option Value} (hh:An0 P t c org k=some r) (hc:RepCs (J org) w c rd 0) :
  ∃ v,k v=some r∧A7z P J β h w t rd v:=by
 unfold An0 at hh
 have agg:∀ {d:TypeDesc},P.underlying t=some d→d.isRow=true→((Cl P t).bind fun n=>cond (Nat.ble n c.length) (Ya P t (c.take n) org fun o=>k (.pagg (c.take n) o)) none)=some r →
   ∃ v,k v=some r∧A7z P J β h w t rd v:=by
  intro d hu hd hh
  obtain⟨n,hn,hh⟩:=ub hh
  obtain⟨hle,hh⟩:=uc hh
  have hle':n≤c.length:=by simpa using hle
  obtain⟨us,h1,h2,h3⟩:=(hc.take n).list
  have hl:us.length=n:=by rw[h1];simp;omega
  obtain⟨o,hh,h4⟩:=Aui hh h3
  refine⟨_,hh,.inr ⟨d,hu,hd,us,?_,h2,?_⟩⟩
  ·rw[hl];exact hn
  ·rw[Rep];exact⟨us,rfl,by rw[h1],h4⟩
 split at hh
 ·rename_i kd hu
  obtain⟨x,hx,hh⟩:=ub hh
  obtain⟨n,hn,hh⟩:=ub hh
  obtain⟨u,h1,h2⟩:=hc.at (by rw[←List.head?_eq_getElem?];exact hx)
  refine⟨_,hh,.inl ⟨_,hu,rfl,u,h1,?_⟩⟩
  unfold A7t at hn
  split at hn
  ·obtain⟨hk,hn'⟩:=uc hn
   simp[Qg] at hk hn';subst hk;subst hn'
   rw[RepC] at h2;rw[Rep];exact h2
  ·simp at hn
 ·rename_i hu
  obtain⟨x,hx,hh⟩:=ub hh
  obtain⟨n,hn,hh⟩:=ub hh
  obtain⟨u,h1,h2⟩:=hc.at (by rw[←List.head?_eq_getElem?];exact hx)
  refine⟨_,hh,.inl ⟨_,hu,rfl,u,h1,?_⟩⟩
  unfold asBool at hn
  split at hn
  ·simp at hn;subst hn
   rw[RepC] at h2;rw[Rep];exact h2
  ·simp at hn
 ·rename_i hu
  obtain⟨x,hx,hh⟩:=ub hh
  obtain⟨n,hn,hh⟩:=ub hh
  obtain⟨u,h1,h2⟩:=hc.at (by rw[←List.head?_eq_getElem?];exact hx)
  refine⟨_,hh,.inl ⟨_,hu,rfl,u,h1,?_⟩⟩
  unfold A7u at hn
  split at hn
  ·simp at hn;subst hn
   rw[RepC] at h2;rw[Rep];exact h2
  ·simp at hn
 ·rename_i e hu
  obtain⟨sz,hsz,hh⟩:=ub hh
  obtain⟨x,hx,hh⟩:=ub hh
  obtain⟨p,hp,hh⟩:=ub hh
  obtain⟨u,h1,h2⟩:=hc.at (by rw[←List.head?_eq_getElem?];exact hx)
  refine⟨_,hh,.inl ⟨_,hu,rfl,u,h1,?_⟩⟩
  unfold B30 at hp
  rw[Rep,RepC]
  split at hp
  ·obtain⟨hk,hp'⟩:=uc hp
   simp at hk hp';subst hk;subst hp'
   rw[RepC] at h2
   obtain⟨h3,A,cap,h4,h5,h6,h7⟩:=h2
   exact⟨h3,A,cap,h4,h5,by simp,h7⟩
  ·simp at hp;subst hp
   rw[RepC] at h2
   exact⟨by simp,none,0,h2,by simp,by simp,.inl rfl⟩
  ·simp at hp
 ·rename_i hu;exact agg hu rfl hh
 ·rename_i hu;exact agg hu rfl hh
 ·simp at hh
theorem Ck:∀ {c:List AV} {cs:List Value},Reps J β h w c cs↔cs.length=c.length∧∀ (j:Nat) (x:AV) (u:Value),c[j]?=some x→cs[j]?=some u→Rep J β h w x u
 | [],cs=>by rw[Reps];simp
 | x::r,cs=>by
  rw[Reps]
  constructor
  ·rintro⟨u,us,rfl,h2,h3⟩
   rw[Ck] at h3
   refine⟨by simp[h3.1],fun j y v hy hv=>?_⟩
   cases j with
   | zero=>simp at hy hv;subst hy hv;exact h2
   | succ j=>exact h3.2 j y v (by simpa using hy) (by simpa using hv)
  ·rintro⟨h1,h2⟩
   cases cs with
   | nil=>simp at h1
   | cons u us =>
    refine⟨u,us,rfl,h2 0 x u (by simp) (by simp),?_⟩
    rw[Ck]
    exact⟨by simpa using h1,fun j y v hy hv=>h2 (j+1) y v (by simpa using hy) (by simpa using hv)⟩
theorem An8 {t:TypeId} {c:List AV} {k:AV→Option R} {rd:Nat→Option Value} (hh:A7v P t c k=some r)
  (hc:∀ j x,c[j]?=some x→∃ u,rd j=some u∧Rep J β h w x u) :
  ∃ v,k v=some r∧A7z P J β h w t rd v:=by
 unfold A7v at hh
 have agg:∀ {d:TypeDesc},P.underlying t=some d→d.isRow=true→((Cl P t).bind fun n=>cond (Nat.ble n c.length) (k (.agg (c.take n))) none)=some r →
   ∃ v,k v=some r∧A7z P J β h w t rd v:=by
  intro d hu hd hh
  obtain⟨n,hn,hh⟩:=ub hh
  obtain⟨hle,hh⟩:=uc hh
  have hle':n≤c.length:=by simpa using hle
  refine⟨_,hh,.inr ⟨d,hu,hd,(c.take n).zipIdx.map fun p=>(rd p.2).getD undef,?_,fun j u hj=>?_,?_⟩⟩
  ·simp;rw[Nat.min_eq_left hle'];exact Option.map_eq_some_iff.1 hn
  ·rw[List.getElem?_map,List.getElem?_zipIdx] at hj
   cases hx:(c.take n)[j]? with
   | none=>rw[hx] at hj;simp at hj
   | some x =>
    rw[hx] at hj
    rw[List.getElem?_take] at hx
    split at hx
    ·obtain⟨u',hu',_⟩:=hc j x hx
     simp[hu'] at hj
     rw[hu',hj]
    ·simp at hx
  ·rw[Rep]
   refine⟨_,rfl,Ck.2 ⟨by simp,fun j x u hx hu=>?_⟩⟩
   simp[hx] at hu
   rw[List.getElem?_take] at hx
   split at hx
   ·obtain⟨u',hu',hr⟩:=hc j x hx
    simp[hu'] at hu;subst hu;exact hr
   ·simp at hx
 split at hh
 ·rename_i hu;exact agg hu rfl hh
 ·rename_i hu;exact agg hu rfl hh
 ·rename_i d _ _ hu
  obtain⟨x,hx,hh⟩:=ub hh
  obtain⟨u,h1,h2⟩:=hc 0 x (by rw[←List.head?_eq_getElem?];exact hx)
  refine⟨x,hh,.inl ⟨d,hu,?_,u,h1,h2⟩⟩
  cases d<;>simp_all
 ·simp at hh
theorem Bot {n:Nat} {k:AV→Option R}:∀ {c:List AV} {i:Nat},Aig n k c i=some r→i≤n∧∃ x,c[n - i]?=some x∧k x=some r
 | [],i,hh=>by simp[Aig] at hh
 | v::c,i,hh=>by
  rw[Aig] at hh
  cases hb:Nat.beq n i with
  | true =>
   rw[hb] at hh
   have:n=i:=Nat.eq_of_beq_eq_true hb
   subst this
   exact⟨Nat.le_refl _,v,by simp,hh⟩
  | false =>
   rw[hb] at hh
   obtain⟨h1,x,h2,h3⟩:=Bot (c:=c) hh
   refine⟨by omega,x,?_,h3⟩
   rw[show n - i=(n - (i+1))+1 by omega];simpa using h2
theorem A0f {t:TypeId} {c:List AV} {off:Nat} {k:AV→Option R} (hh:An1 P t c off k=some r):A7v P t (c.drop off) k=some r:=by
 unfold An1 at hh
 unfold A7v
 split at hh
 ·exact hh
 ·exact hh
 ·rename_i d h1 h2 hu
  obtain⟨_,x,h3,h4⟩:=Bot hh
  have h5:(c.drop off).head?=some x:=by rw[List.head?_eq_getElem?,List.getElem?_drop];simpa using h3
  rw[h5];exact h4
 ·simp at hh
theorem Ask {t:TypeId} {d:TypeDesc} (hu:P.underlying t=some d):(isAgg t).run P w=.ok d.isRow w:=by
 unfold isAgg
 rw[Sem.run_bind,run_underlying hu w]
 cases d<;>simp
theorem Auj {t:TypeId} {a:Addr} {v:AV} (hr:A7z P J β h w t (fun j=>w.cell? (a.add j)) v):∃ vc,(loadVar t a).run P w=.ok vc w∧Rep J β h w v vc:=by
 rcases hr with⟨d,hu,hd,u,h1,h2⟩ | ⟨d,hu,hd,us,h1,h2,h3⟩
 ·refine⟨u,?_,h2⟩
  have h1':w.cell? a=some u:=by simpa[Addr.add] using h1
  simp[loadVar,Ask hu,hd,h1']
 ·refine⟨_,?_,h3⟩
  have hl:=run_loadCells_list (P:=P) w a us h2
  cases hq:P.info? t with
  | none=>simp[hq] at h1
  | some i =>
   have hs:i.size=us.length:=by simpa[hq] using h1
   simp[loadVar,Sem.run_bind,Ask hu,hd,Go.sizeOf,typeInfo,hq,hs,hl]
theorem T2 {t:TypeId} {cs:List Value} {off:Nat} {v:AV} (hr:A7z P J β h w t (fun j=>cs[off+j]?) v):∃ vc,(part t ⟨cs⟩ off).run P w=.ok vc w∧Rep J β h w v vc:=by
 rcases hr with⟨d,hu,hd,u,h1,h2⟩ | ⟨d,hu,hd,us,h1,h2,h3⟩
 ·refine⟨u,?_,h2⟩
  simp at h1
  simp[part,Ask hu,hd,h1]
 ·refine⟨_,?_,h3⟩
  cases hq:P.info? t with
  | none=>simp[hq] at h1
  | some i =>
   have hs:i.size=us.length:=by simpa[hq] using h1
   have:(⟨cs⟩:Array Value).extract off (off+us.length)=us.toArray:=by
    apply Array.ext'
    simp
    apply List.ext_getElem?
    intro j
    rw[List.getElem?_take,List.getElem?_drop]
    split
    ·rename_i hj
     rw[List.getElem?_eq_getElem hj]
     exact h2 j _ (List.getElem?_eq_getElem hj)
    ·rename_i hj
     rw[List.getElem?_eq_none (by omega)]
   simp only[part,Sem.run_bind,Ask hu,hd,Go.sizeOf,typeInfo,run_program,Result.andThen_ok,hq,Sem.run_pure,hs,if_true,this]
end
end Gx

namespace Gx
open Go
section
variable {R:Type} {r:R} {P:Program} {J:Bool→Nat→Prop} {β:Cr} {h:Al} {w:World} {g:Bt}
theorem Vb {k:Nat} {cs:Array Value} {ty:TypeId} {fr:Nat×Nat} (hk:w.heap[k]?=some (.cells cs ty fr)) (i:Nat):w.cell? ⟨k,i,none⟩=cs[i]?:=by
 simp[World.cell?,hk]
def Looks (g:Bt) (h:Al):Prop:=∀ b x,g b=some x→Ao h b=some x
theorem Ky {b:Nat} {x:Blk} (hl:Looks g h) (hv:It g b=some x):Ao h b=some x∧x.dead=false:=by
 unfold It at hv
 obtain⟨y,hy,hv⟩:=ub hv
 obtain⟨hd,hv⟩:=uc' hv
 simp at hv;subst hv
 exact⟨hl b _ hy,hd⟩
theorem Brz {b off:Nat} {x:Blk} {v:Value} (S:SimH J β h w) (hb:Ao h b=some x) (hd:x.dead=false) (hr:Rep J β h w (.optr b off) v) :
  ∃ k o cs ty fr,β b=some (k,o)∧v=.pointer (some ⟨k,o+off,none⟩)∧w.heap[k]?=some (.cells cs ty fr) ∧
  FrOk cs.size fr∧o+x.cells.length≤cs.size∧CellsRep J β h w x (fun j=>cs[o+j]?) ∧
  (x.sealed=false→∀ g,¬ J g k)∧(x.sealed=true→J x.taint k):=by
 rw[Rep] at hr
 obtain⟨y,k,o,⟨hy,hm⟩,hv,hr⟩:=hr
 rw[hb] at hy;simp at hy;subst hy
 rcases hr with hr | hβ
 ·simp[hd] at hr
 ·rcases S.blk b x hb hd hm with⟨hn,_⟩ | ⟨k',o',cs,ty,fr,hβ',h1,h2,h3,h4,h5,h6⟩
  ·rw[hβ] at hn;simp at hn
  ·rw[hβ] at hβ';simp at hβ';obtain⟨rfl,rfl⟩:=hβ'
   exact⟨k,o,cs,ty,fr,hβ,hv,h1,h2,h3,h4,h5,h6⟩
theorem CellsRep.reads {t:TypeId} {x:Blk} {cs:Array Value} {o off:Nat} {k:AV→Option R} (hc:CellsRep J β h w x (fun j=>cs[o+j]?))
  (hh:cond x.pure (An0 P t (x.cells.drop off) x.taint k) (An1 P t x.cells off k)=some r) :
  ∃ v,k v=some r∧A7z P J β h w t (fun j=>cs[o+off+j]?) v:=by
 cases hp:x.pure with
 | true =>
  rw[hp] at hh
  have:=(hc.1 hp).drop off
  obtain⟨v,h1,h2⟩:=Va (β:=β) (h:=h) hh this
  exact⟨v,h1,by simpa[Nat.add_assoc] using h2⟩
 | false =>
  rw[hp] at hh
  obtain⟨v,h1,h2⟩:=An8 (J:=J) (β:=β) (h:=h) (w:=w) (rd:=fun j=>cs[o+(off+j)]?) (A0f hh) (fun j y hj=>by
   rw[List.getElem?_drop] at hj
   obtain⟨u,hu,hr,_⟩:=hc.2 hp _ _ hj
   exact⟨u,hu,hr⟩)
  exact⟨v,h1,by simpa[Nat.add_assoc] using h2⟩
theorem A71 {t:TypeId} {p:AV} {vp:Value} {k:AV→Option R} (S:SimH J β h w) (hl:Looks g h) (hh:Bdy P g t p k=some r) (hp:Rep J β h w p vp) :
  ∃ v vc,k v=some r∧(Instr.loadAt t vp).run P w=.ok vc w∧Rep J β h w v vc:=by
 unfold Bdy at hh
 split at hh
 ·rename_i c org
  rw[Rep,RepC] at hp
  obtain⟨a,rfl,_,hc⟩:=hp
  obtain⟨v,h1,h2⟩:=Va (β:=β) (h:=h) hh hc
  obtain⟨vc,h3,h4⟩:=Auj h2
  exact⟨v,vc,h1,by simp[Instr.loadAt,Instr.sureAddr,h3],h4⟩
 ·rename_i b off
  obtain⟨x,hx,hh⟩:=ub hh
  obtain⟨hb,hd⟩:=Ky hl hx
  obtain⟨kk,o,cs,ty,fr,hβ,rfl,hk,_,_,hc,_⟩:=Brz S hb hd hp
  obtain⟨v,h1,h2⟩:=hc.reads hh
  have h2':A7z P J β h w t (fun j=>w.cell? ((⟨kk,o+off,none⟩:Addr).add j)) v:=by
   simpa only[Addr.add_mid,Vb hk] using h2
  obtain⟨vc,h3,h4⟩:=Auj h2'
  exact⟨v,vc,h1,by simp[Instr.loadAt,Instr.sureAddr,h3],h4⟩
 ·simp at hh
theorem Dg {t:TypeId} {n:Nat} (hs:Cl P t=some n) (w:World):(Go.sizeOf t).run P w=.ok n w:=by
 unfold Cl at hs
 cases hq:P.info? t with
 | none=>simp[hq] at hs
 | some i=>simp[hq] at hs;simp[Go.sizeOf,typeInfo,hq,hs]
theorem Ss {i:Int} {n:Nat} (hi:Aj i n=true):0≤i∧i<(n:Int):=by simpa[Aj] using hi
theorem A0g {J:Nat→Prop} {c:List AV} {a:Addr} (hc:RepCs J w c (fun j=>w.cell? (a.add j)) 0) (n:Nat):RepCs J w (c.drop n) (fun j=>w.cell? ((a.add n).add j)) 0:=by
 have e:∀ j,(a.add n).add j=a.add (n+j):=fun j=>by
  unfold Addr.add
  by_cases h1:n=0<;>by_cases h2:j=0<;>simp[h1,h2,Nat.add_assoc]
 simpa[e] using hc.drop n
theorem B8t {b off n:Nat} {v:Value} (m:Nat) (hr:Rep J β h w (.own b off n) v) (hn:n≠0) :
  ∃ k o cap,v=.slice (some ⟨k,o,none⟩) n cap∧Rep J β h w (.optr b (off+m)) (.pointer (some ⟨k,o+m,none⟩)):=by
 rw[Rep] at hr
 obtain⟨x,A,cap,hx,rfl,h2,hr⟩:=hr
 rcases hr with hr | ⟨k,o,rfl,hr⟩
 ·omega
 ·refine⟨k,o+off,cap,rfl,?_⟩
  rw[Rep];exact⟨x,k,o,hx,by rw[Nat.add_assoc],hr.imp id (·.1)⟩
theorem Auk {t el:TypeId} {kd:IntKind} {i:Int} {len cap sz:Nat} {a:Addr} (hu:P.underlying t=some (.slice el)) (hs:Cl P el=some sz) (hb:Aj i len=true) :
  (Instr.indexAt t (.slice (some a) len cap) (.int kd i)).run P w=.ok (.pointer (some (a.add (i.toNat*sz)))) w:=by
 obtain⟨h0,h1⟩:=Ss hb
 simp[Instr.indexAt,asIntOf,run_underlying hu,h0,h1,Dg hs]
theorem Aul {t el:TypeId} {kd:IntKind} {i:Int} {len sz:Nat} {a:Addr} (hu:P.underlying t=some (.array len el)) (hs:Cl P el=some sz) (hb:Aj i len=true) :
  (Instr.indexAt t (.pointer (some a)) (.int kd i)).run P w=.ok (.pointer (some (a.add (i.toNat*sz)))) w:=by
 obtain⟨h0,h1⟩:=Ss hb
 simp[Instr.indexAt,asIntOf,run_underlying hu,h0,h1,Dg hs,Instr.sureAddr]
theorem A5f {t:TypeId} {x i:AV} {vx vi:Value} {k:AV→Option R} (hh:Sm P t x i k=some r) (hx:Rep J β h w x vx) (hi:Rep J β h w i vi) :
  ∃ v vc,k v=some r∧(Instr.indexAt t vx vi).run P w=.ok vc w∧Rep J β h w v vc:=by
 unfold Sm at hh
 split at hh
 ·rename_i el c len sz tight org kd i hu
  obtain⟨sz',hs,h1⟩:=ub hh
  obtain⟨he,h2⟩:=uc h1
  obtain⟨hb,h3⟩:=uc h2
  have he':sz'=sz:=by simp at he;exact he.symm
  subst he'
  rw[Rep] at hi;subst hi
  rw[Rep,RepC] at hx
  obtain⟨hlen,A,cap,rfl,hcap,_,hA⟩:=hx
  rcases hA with hA | ⟨a,rfl,hj,hc⟩
  ·have:=Ss hb;omega
  refine⟨_,_,h3,Auk hu hs hb,?_⟩
  rw[Rep,RepC]
  exact⟨_,rfl,by rw[Sp];exact hj,A0g hc _⟩
 ·rename_i el b off len kd i hu
  obtain⟨sz,hs,h1⟩:=ub hh
  obtain⟨hb,h3⟩:=uc h1
  rw[Rep] at hi;subst hi
  obtain⟨kk,o,cap,rfl,h4⟩:=B8t (i.toNat*sz) hx (by have:=Ss hb;omega)
  exact⟨_,_,h3,Auk hu hs hb,by rw[Addr.add_mid];exact h4⟩
 ·rename_i len el c org kd i hu
  obtain⟨sz,hs,h1⟩:=ub hh
  obtain⟨hb,h3⟩:=uc h1
  rw[Rep] at hi;subst hi
  rw[Rep,RepC] at hx
  obtain⟨a,rfl,hj,hc⟩:=hx
  refine⟨_,_,h3,Aul hu hs hb,?_⟩
  rw[Rep,RepC]
  exact⟨_,rfl,by rw[Sp];exact hj,A0g hc _⟩
 ·rename_i len el b off kd i hu
  obtain⟨sz,hs,h1⟩:=ub hh
  obtain⟨hb,h3⟩:=uc h1
  rw[Rep] at hi;subst hi
  rw[Rep] at hx
  obtain⟨y,kk,o,hy,rfl,h4⟩:=hx
  refine⟨_,_,h3,Aul hu hs hb,?_⟩
  rw[Rep,Addr.add_mid]
  exact⟨y,kk,o,hy,by rw[Nat.add_assoc],h4⟩
 ·simp at hh
theorem A0h {t:TypeId} {f:Nat} {p:Nat×TypeId} (hf:Bdq P t f=some p):∃ fs fd,P.underlying t=some (.struct fs)∧fs[f]?=some fd∧fd.offset=p.1∧fd.type=p.2:=by
 unfold Bdq at hf
 split at hf
 ·rename_i fs hu
  cases hq:fs[f]? with
  | none=>simp[hq] at hf
  | some fd=>simp[hq] at hf;subst hf;exact⟨fs,fd,hu,hq,rfl,rfl⟩
 ·simp at hf
theorem A5g {t:TypeId} {x:AV} {f:Nat} {vx:Value} {k:AV→Option R} (hh:Sn P t x f k=some r) (hx:Rep J β h w x vx) :
  ∃ v vc,k v=some r∧(Instr.fieldAt t vx f).run P w=.ok vc w∧Rep J β h w v vc:=by
 unfold Sn at hh
 obtain⟨p,hp,h1⟩:=ub hh
 obtain⟨n,hn,h2⟩:=ub h1
 obtain⟨h0,h3⟩:=uc' h2
 obtain⟨fs,fd,hu,hf,ho,ht⟩:=A0h hp
 have hn0:n≠0:=by intro e;subst e;simp at h0
 have run:∀ a:Addr,(Instr.fieldAt t (.pointer (some a)) f).run P w=.ok (.pointer (some (a.add p.1))) w:=fun a=>by
  simp[Instr.fieldAt,run_underlying hu,hf,Instr.sureAddr,fieldPlace,ht,Dg hn,hn0,ho]
 split at h3
 ·rw[Rep,RepC] at hx
  obtain⟨a,rfl,hj,hc⟩:=hx
  refine⟨_,_,h3,run a,?_⟩
  rw[Rep,RepC]
  exact⟨_,rfl,by rw[Sp];exact hj,A0g hc _⟩
 ·rw[Rep] at hx
  obtain⟨y,kk,o,hy,rfl,h4⟩:=hx
  refine⟨_,_,h3,run _,?_⟩
  rw[Rep,Addr.add_mid]
  exact⟨y,kk,o,hy,by rw[Nat.add_assoc],h4⟩
 ·simp at h3
theorem Br0 {t:TypeId} {x:AV} {f:Nat} {vx:Value} {k:AV→Option R} (hh:A46 P t x f k=some r) (hx:Rep J β h w x vx) :
  ∃ v vc,k v=some r∧(Instr.field t vx f).run P w=.ok vc w∧Rep J β h w v vc:=by
 unfold A46 at hh
 obtain⟨p,hp,h1⟩:=ub hh
 obtain⟨fs,fd,hu,hf,ho,ht⟩:=A0h hp
 split at h1
 ·rename_i c org
  rw[Rep] at hx
  obtain⟨cs,rfl,hl,hc⟩:=hx
  obtain⟨v,h2,h3⟩:=Va (β:=β) (h:=h) h1 (hc.drop p.1)
  obtain⟨vc,h4,h5⟩:=T2 h3
  exact⟨v,vc,h2,by simp[Instr.field,run_underlying hu,hf,asAgg,ht,ho,h4],h5⟩
 ·rename_i c
  rw[Rep] at hx
  obtain⟨cs,rfl,hc⟩:=hx
  rw[Ck] at hc
  obtain⟨v,h2,h3⟩:=An8 (J:=J) (β:=β) (h:=h) (w:=w) (rd:=fun j=>cs[p.1+j]?) h1 (fun j y hj=>by
   rw[List.getElem?_drop] at hj
   have:p.1+j<cs.length:=by
    rw[hc.1];exact(List.getElem?_eq_some_iff.1 hj).1
   exact⟨cs[p.1+j],List.getElem?_eq_getElem this,hc.2 _ _ _ hj (List.getElem?_eq_getElem this)⟩)
  obtain⟨vc,h4,h5⟩:=T2 h3
  exact⟨v,vc,h2,by simp[Instr.field,run_underlying hu,hf,asAgg,ht,ho,h4],h5⟩
 ·simp at h1
theorem Br1 {t:TypeId} {x i:AV} {vx vi:Value} {k:AV→Option R} (hh:A47 P t x i k=some r) (hx:Rep J β h w x vx) (hi:Rep J β h w i vi) :
  ∃ v vc,k v=some r∧(Instr.index t vx vi).run P w=.ok vc w∧Rep J β h w v vc:=by
 unfold A47 at hh
 split at hh
 ·rename_i s kd i hu
  obtain⟨hb,h1⟩:=uc hh
  obtain⟨h0,h2⟩:=Ss hb
  rw[Rep] at hi;rw[Rep] at hx;subst hi hx
  have hlt:i.toNat<s.length:=by omega
  refine⟨_,.int .u8 ((s.getD i.toNat 0).toNat:Int),h1,?_,by rw[Rep]⟩
  have hg:(⟨⟨s⟩⟩:ByteArray)[i.toNat]?=some s[i.toNat]:=by
   have:i.toNat<(⟨⟨s⟩⟩:ByteArray).size:=hlt
   rw[getElem?_pos (⟨⟨s⟩⟩:ByteArray) i.toNat this];rfl
  simp only[Instr.index,asIntOf,Sem.run_bind,Sem.run_pure,Result.andThen_ok,run_underlying hu,h0,if_true,hg,List.getD_eq_getElem?_getD,List.getElem?_eq_getElem hlt,Option.getD_some]
 ·rename_i len el c org kd i hu
  obtain⟨sz,hs,h1⟩:=ub hh
  obtain⟨hb,h2⟩:=uc h1
  obtain⟨h0,h3⟩:=Ss hb
  rw[Rep] at hi;rw[Rep] at hx;subst hi
  obtain⟨cs,rfl,hl,hc⟩:=hx
  obtain⟨v,h4,h5⟩:=Va (β:=β) (h:=h) h2 (hc.drop (i.toNat*sz))
  obtain⟨vc,h6,h7⟩:=T2 h5
  exact⟨v,vc,h4,by simp[Instr.index,asIntOf,run_underlying hu,h0,h3,Dg hs,h6],h7⟩
 ·rename_i len el c kd i hu
  obtain⟨sz,hs,h1⟩:=ub hh
  obtain⟨hb,h2⟩:=uc h1
  obtain⟨h0,h3⟩:=Ss hb
  rw[Rep] at hi;rw[Rep] at hx;subst hi
  obtain⟨cs,rfl,hc⟩:=hx
  rw[Ck] at hc
  obtain⟨v,h4,h5⟩:=An8 (J:=J) (β:=β) (h:=h) (w:=w) (rd:=fun j=>cs[i.toNat*sz+j]?) (A0f h2) (fun j y hj=>by
   rw[List.getElem?_drop] at hj
   have:i.toNat*sz+j<cs.length:=by
    rw[hc.1];exact(List.getElem?_eq_some_iff.1 hj).1
   exact⟨cs[i.toNat*sz+j],List.getElem?_eq_getElem this,hc.2 _ _ _ hj (List.getElem?_eq_getElem this)⟩)
  obtain⟨vc,h6,h7⟩:=T2 h5
  exact⟨v,vc,h4,by simp[Instr.index,asIntOf,run_underlying hu,h0,h3,Dg hs,h6],h7⟩
 ·simp at hh
end
end Gx

namespace Gx
open Go
section
variable {R:Type} {r:R} {P:Program} {J:Bool→Nat→Prop} {β:Cr} {h:Al} {w:World} {g:Bt}
def Ab1 (J:Bool→Nat→Prop) (β:Cr) (h:Al) (w:World):Option AV→Option Value→Prop
 | none,none=>True
 | some x,some v=>Rep J β h w x v
 | _,_=>False
theorem An9 {o:Option AV} {vo:Option Value} {d:Nat} {i:Int} (hb:Az7 o d=some i) (ho:Ab1 J β h w o vo) :
  (o=none∧vo=none∧i=d)∨∃ k,vo=some (.int k i):=by
 unfold Az7 at hb
 split at hb
 ·simp at hb;subst hb
  cases vo with
  | none=>exact .inl ⟨rfl,rfl,rfl⟩
  | some v=>simp[Ab1] at ho
 ·rename_i k j
  simp at hb;subst hb
  cases vo with
  | none=>simp[Ab1] at ho
  | some v=>rw[Ab1,Rep] at ho;subst ho;exact .inr ⟨k,rfl⟩
 ·simp at hb
theorem T3 {lo hi mx:Option AV} {vlo vhi vmx:Option Value} {n cap:Nat} {k:Nat→Nat→Option R} {isSlice:Bool} (hh:Yb lo hi mx n k=some r)
  (hlo:Ab1 J β h w lo vlo)
  (hhi:Ab1 J β h w hi vhi)
  (hmx:Ab1 J β h w mx vmx) (hcap:n≤cap) :
  ∃ l hh' m,k l hh'=some r∧l≤hh'∧hh'≤n∧hh'≤m∧m≤cap∧(mx=none→m=cap)∧(∀ kd i,vmx=some (.int kd i)→(m:Int)=i)∧(∀ kd i,vhi=some (.int kd i)→(hh':Int)=i)∧(hi=none→hh'=n) ∧
   (Instr.sliceBounds isSlice n cap vlo vhi vmx).run P w=.ok (l,hh',m) w:=by
 unfold Yb at hh
 obtain⟨l,h1,h2⟩:=ub hh
 obtain⟨hi',h3,h4⟩:=ub h2
 obtain⟨m,h5,h6⟩:=ub h4
 obtain⟨hm,h6⟩:=uc' h6
 obtain⟨hc,h7⟩:=uc h6
 simp at hc hm
 obtain⟨c1,c2,c3,c4⟩:=hc
 have run:∀ (kd:IntKind) (i:Int) (y:Nat) (code:BoundsCode),0≤i→i≤(y:Int)→(Instr.sliceBound (.int kd i) y code).run P w=.ok i.toNat w:=fun kd i y code a b=>by
  simp[Instr.sliceBound,asIntOf,a,b]
 have bl:=An9 (J:=J) (β:=β) (h:=h) (w:=w) h1 hlo
 have bh:=An9 (J:=J) (β:=β) (h:=h) (w:=w) h3 hhi
 have bm:=An9 (J:=J) (β:=β) (h:=h) (w:=w) h5 hmx
 rcases bm with⟨rfl,rfl,rfl⟩ | ⟨km,rfl⟩
 ·refine⟨l.toNat,hi'.toNat,cap,h7,by omega,by omega,by omega,by omega,fun _=>rfl,by simp,?_,?_,?_⟩
  ·intro kd i hv
   rcases bh with⟨_,rfl,_⟩ | ⟨kh,rfl⟩
   ·simp at hv
   ·simp at hv;omega
  ·intro hn
   rcases bh with⟨_,_,rfl⟩ | ⟨kh,rfl⟩
   ·simp
   ·subst hn;simp[Ab1] at hhi
  ·rcases bh with⟨_,rfl,rfl⟩ | ⟨kh,rfl⟩<;>rcases bl with⟨_,rfl,rfl⟩ | ⟨kl,rfl⟩
   ·simp[Instr.sliceBounds]
   ·simp[Instr.sliceBounds,run _ l n _ c1 (by omega)]
   ·simp[Instr.sliceBounds,run _ hi' cap _ (by omega) (by omega)]
   ·simp[Instr.sliceBounds,run _ hi' cap _ (by omega) (by omega),run _ l hi'.toNat _ c1 (by omega)]
 ·rcases bh with⟨rfl,rfl,rfl⟩ | ⟨kh,rfl⟩
  ·have:mx.isSome=true:=by
    cases mx with
    | none=>simp[Ab1] at hmx
    | some _=>rfl
   have:=hm this;simp at this
  ·refine⟨l.toNat,hi'.toNat,m.toNat,h7,by omega,by omega,by omega,by omega,?_,?_,?_,?_,?_⟩
   ·intro hn;subst hn;simp[Ab1] at hmx
   ·intro kd i hv;simp at hv;omega
   ·intro kd i hv;simp at hv;omega
   ·intro hn;subst hn;simp[Ab1] at hhi
   ·rcases bl with⟨_,rfl,rfl⟩ | ⟨kl,rfl⟩
    ·simp[Instr.sliceBounds,run _ m cap _ (by omega) (by omega),run _ hi' m.toNat _ (by omega) (by omega)]
    ·simp[Instr.sliceBounds,run _ m cap _ (by omega) (by omega),run _ hi' m.toNat _ (by omega) (by omega),run _ l hi'.toNat _ c1 (by omega)]
theorem Br2 {t:TypeId} {x:AV} {lo hi mx:Option AV} {vx:Value} {vlo vhi vmx:Option Value} {k:AV→Option R} (hl:Looks g h) (hh:A48 P g t x lo hi mx k=some r)
  (hx:Rep J β h w x vx) (hlo:Ab1 J β h w lo vlo) (hhi:Ab1 J β h w hi vhi) (hmx:Ab1 J β h w mx vmx) :
  ∃ v vc,k v=some r∧(Instr.sliceAt t vx vlo vhi vmx).run P w=.ok vc w∧Rep J β h w v vc:=by
 unfold A48 at hh
 split at hh
 ·rename_i s hu
  obtain⟨hm,h1⟩:=uc' hh
  have hmn:mx=none:=by cases mx<;>simp_all
  subst hmn
  have hv:vmx=none:=by cases vmx<;>simp_all[Ab1]
  subst hv
  rw[Rep] at hx;subst hx
  obtain⟨l,hh',m,h2,h3,h4,_,_,h5,_,_,_,h6⟩:=T3 (P:=P) (isSlice:=false) h1 hlo hhi (vmx:=none) (by simp[Ab1]) (Nat.le_refl _)
  refine⟨_,_,h2,?_,by rw[Rep]⟩
  have hs:(⟨⟨s⟩⟩:ByteArray).size=s.length:=rfl
  have he:(⟨⟨s⟩⟩:ByteArray).extract l hh'=⟨⟨(s.drop l).take (hh' - l)⟩⟩:=by
   apply ByteArray.ext
   rw[ByteArray.data_extract]
   simp
  simp[Instr.sliceAt,Instr.slice,run_underlying hu,hs,h6,he]
 ·rename_i el hu
  rw[Rep] at hx;subst hx
  obtain⟨sz,hs,hh⟩:=ub hh
  obtain⟨l,hh',m,h2,h3,h4,h5,h6,_,_,_,_,h7⟩:=T3 (P:=P) (isSlice:=true) hh hlo hhi hmx (Nat.le_refl _)
  have:l=0:=by omega
  have:hh'=0:=by omega
  have:m=0:=by omega
  subst l;subst hh';subst m
  refine⟨_,.slice none 0 0,h2,?_,by rw[Rep]⟩
  simp[Instr.sliceAt,Instr.slice,run_underlying hu,h7,Dg hs]
 ·rename_i el c n sz tight org hu
  obtain⟨sz',hs,h1⟩:=ub hh
  obtain⟨he,h2⟩:=uc h1
  have he':sz'=sz:=by simp at he;exact he.symm
  subst he'
  rw[Rep,RepC] at hx
  obtain⟨hlen,A,cap,rfl,hcap,ht,hA⟩:=hx
  obtain⟨l,hh',m,h3,h4,h5,h6,h7,h8,h9,h10,h11,h12⟩:=T3 (P:=P) (isSlice:=true) h2 hlo hhi hmx hcap
  refine⟨_,.slice (if m=l then A else A.map (·.add (l*sz'))) (hh' - l) (m - l),h3,?_,?_⟩
  ·simp[Instr.sliceAt,Instr.slice,run_underlying hu,h12,Dg hs]
  ·rw[Rep,RepC]
   refine⟨?_,_,_,rfl,by omega,?_,?_⟩
   ·simp;rw[hlen,←Nat.sub_mul]
    exact Nat.min_eq_left (Nat.mul_le_mul_right _ (by omega))
   ·intro hti
    unfold B2s at hti
    split at hti
    ·have:=ht hti
     have:=h8 rfl
     have:=h11 rfl
     omega
    ·rename_i ka a kb b
     cases vhi with
     | none=>simp[Ab1] at hhi
     | some u1=>cases vmx with
      | none=>simp[Ab1] at hmx
      | some u2 =>
       rw[Ab1,Rep] at hhi hmx;subst hhi hmx
       have e1:=h10 _ _ rfl
       have e2:=h9 _ _ rfl
       simp at hti
       omega
    ·simp at hti
   ·by_cases hz:hh' - l=0
    ·exact .inl hz
    ·right
     rcases hA with hA | ⟨a,rfl,hj,hc⟩
     ·omega
     ·refine⟨a.add (l*sz'),by rw[if_neg (by omega)];rfl,by rw[Sp];exact hj,(A0g hc _).take _⟩
 ·rename_i el b off n hu
  obtain⟨sz,hs,h1⟩:=ub hh
  obtain⟨y,hy,h2⟩:=ub h1
  obtain⟨he,h3⟩:=uc h2
  obtain⟨hb,hd⟩:=Ky hl hy
  have he':sz=y.sz:=by simpa using he
  rw[Rep] at hx
  obtain⟨x,A,cap,⟨hx1,hmp⟩,rfl,hcap,hr⟩:=hx
  rw[hb] at hx1;simp at hx1;subst hx1
  obtain⟨l,hh',m,h4,h5,h6,h7,h8,_,_,_,_,h9⟩:=T3 (P:=P) (isSlice:=true) h3 hlo hhi hmx hcap
  refine⟨_,.slice (if m=l then A else A.map (·.add (l*sz))) (hh' - l) (m - l),h4,?_,?_⟩
  ·simp[Instr.sliceAt,Instr.slice,run_underlying hu,h9,Dg hs]
  ·rw[Rep]
   refine⟨y,_,_,⟨hb,hmp⟩,rfl,by omega,?_⟩
   by_cases hz:m - l=0
   ·exact .inl hz
   ·right
    rcases hr with hr | ⟨kk,o,rfl,hr⟩
    ·omega
    ·refine⟨kk,o,by rw[if_neg (by omega)];simp[Addr.add_mid,Nat.add_assoc],?_⟩
     rcases hr with hr | ⟨r1,r2,r3⟩
     ·simp[hd] at hr
     ·refine .inr ⟨r1,?_,?_⟩
      ·have:l*sz+(m - l)*y.sz≤cap*y.sz:=by
        rw[he',←Nat.add_mul];exact Nat.mul_le_mul_right _ (by omega)
       omega
      ·have:l*sz+(hh' - l)*y.sz≤n*y.sz:=by
        rw[he',←Nat.add_mul];exact Nat.mul_le_mul_right _ (by omega)
       omega
 ·simp at hh
theorem Byy {t:TypeId} {x v:AV} {vx:Value} {ty:TypeId} (hh:Cag P t x=some v) (hx:Rep J β h w x vx) :
  ∃ vc,(Builtin.len_ #[t] ty #[vx]).run P w=.ok vc w∧Rep J β h w v vc:=by
 unfold Cag at hh
 split at hh
 ·rename_i hu
  simp at hh;subst hh;rw[Rep] at hx;subst hx
  exact⟨.int .i64 0,by simp[Builtin.len_,run_underlying hu,goInt],by rw[Rep]⟩
 ·rename_i n _ _ _ hu
  simp at hh;subst hh;rw[Rep,RepC] at hx
  obtain⟨_,A,cap,rfl,_⟩:=hx
  exact⟨.int .i64 n,by simp[Builtin.len_,run_underlying hu,goInt],by rw[Rep]⟩
 ·rename_i n hu
  simp at hh;subst hh;rw[Rep] at hx
  obtain⟨_,A,cap,_,rfl,_⟩:=hx
  exact⟨.int .i64 n,by simp[Builtin.len_,run_underlying hu,goInt],by rw[Rep]⟩
 ·rename_i s hu
  simp at hh;subst hh;rw[Rep] at hx;subst hx
  refine⟨.int .i64 s.length,?_,by rw[Rep]⟩
  have hs:(⟨⟨s⟩⟩:ByteArray).size=s.length:=rfl
  simp[Builtin.len_,run_underlying hu,goInt,hs]
 ·rename_i n _ hu
  simp at hh;subst hh
  exact⟨.int .i64 n,by simp[Builtin.len_,run_underlying hu,goInt],by rw[Rep]⟩
 ·simp at hh
theorem A0i {J:Nat→Prop}:∀ {x:AV} {u:Value},RepC J w x u→u.oneCell'=true
 | .int ..,_,hr=>by rw[RepC] at hr;subst hr;rfl
 | .bool _,_,hr=>by rw[RepC] at hr;subst hr;rfl
 | .str _,_,hr=>by rw[RepC] at hr;subst hr;rfl
 | .nsl,_,hr=>by rw[RepC] at hr;subst hr;rfl
 | .imm ..,_,hr=>by rw[RepC] at hr;obtain⟨_,A,cap,rfl,_⟩:=hr;rfl
 | .iptr ..,_,hr=>by rw[RepC] at hr;obtain⟨a,rfl,_⟩:=hr;rfl
 | .nilptr,_,hr=>by rw[RepC] at hr;subst hr;rfl
 | .nilfn,_,hr=>by rw[RepC] at hr;subst hr;rfl
 | .fn _ [],_,hr=>by rw[RepC] at hr;subst hr;rfl
 | .fn _ (_::_),_,hr=>by simp[RepC] at hr
 | .pagg ..,_,hr=>by simp[RepC] at hr
 | .agg _,_,hr=>by simp[RepC] at hr
 | .tup _,_,hr=>by simp[RepC] at hr
 | .own ..,_,hr=>by simp[RepC] at hr
 | .optr ..,_,hr=>by simp[RepC] at hr
 | .undef,_,hr=>by simp[RepC] at hr
 | .omap _,_,hr=>by simp[RepC] at hr
theorem RepCs.one {J:Nat→Prop} {c:List AV} {us:List Value} (hc:RepCs J w c (fun j=>us[j]?) 0) (hl:us.length=c.length):∀ u ∈ us,u.oneCell'=true:=by
 intro u hu
 obtain⟨j,hj,rfl⟩:=List.getElem_of_mem hu
 have hj':j<c.length:=by omega
 obtain⟨u',hu',hr⟩:=hc.at (List.getElem?_eq_getElem hj')
 simp[List.getElem?_eq_getElem hj] at hu'
 rw[hu'];exact A0i hr
structure Yield (P:Program) (w:World) (sz:Nat) (vx:Value) (n:Nat) (us:List Value):Prop where
 len:∀ w':World,(Builtin.lenOf vx).run P w'=.ok n w'
 cells:∀ (w':World) (m:Nat),(∀ a,w'.cell? a=w.cell? a)→m≤n→(Builtin.firstCells sz m vx).run P w'=.ok (us.take (m*sz)).toArray w'
 length:us.length=n*sz
theorem A72 {sz:Nat} {x:AV} {vx:Value} {q:List AV×Nat×Bool} (S:SimH J β h w) (hl:Looks g h) (hh:Boj g sz x=some q) (hx:Rep J β h w x vx) :
  ∃ us:List Value,Yield P w sz vx q.2.1 us∧q.1.length=us.length∧RepCs (J q.2.2) w q.1 (fun j=>us[j]?) 0:=by
 have ofSlice:∀ (a:Addr) (n cap:Nat) (us:List Value),us.length=n*sz→(∀ j u,us[j]?=some u→w.cell? (a.add j)=some u)→Yield P w sz (.slice (some a) n cap) n us:=fun a n cap us hlen hu =>
  ⟨fun _=>rfl,fun w' m he hm=>by
   have hle:m*sz≤n*sz:=Nat.mul_le_mul_right _ hm
   refine run_firstCells_some (P:=P) w' sz m a n cap (us.take (m*sz)) (by simp;omega) (fun j v hv=>?_)
   rw[he]
   rw[List.getElem?_take] at hv
   split at hv
   ·exact hu j v hv
   ·simp at hv,hlen⟩
 have ofEmpty:∀ (A:Option Addr) (cap:Nat),Yield P w sz (.slice A 0 cap) 0 []:=fun A cap =>
  ⟨fun _=>rfl,fun w' m he hm=>by
   have:m=0:=by omega
   subst this
   cases A with
   | none=>simp[run_firstCells_none]
   | some a=>have:=run_firstCells_some (P:=P) w' sz 0 a 0 cap [] (by simp) (fun j v hv=>by simp at hv);simpa using this,by simp⟩
 unfold Boj at hh
 split at hh
 ·simp at hh;subst hh;rw[Rep] at hx;subst hx
  exact⟨[],ofEmpty _ _,rfl,by simp[RepCs]⟩
 ·rename_i c n sz' tight org
  obtain⟨he,h1⟩:=uc hh
  have he':sz'=sz:=by simp at he;exact he.symm
  subst he'
  simp at h1;subst h1
  rw[Rep,RepC] at hx
  obtain⟨hlen,A,cap,rfl,hcap,ht,hA⟩:=hx
  rcases hA with rfl | ⟨a,rfl,hj,hc⟩
  ·have:c=[]:=by simpa using hlen
   subst this
   exact⟨[],ofEmpty _ _,rfl,by simp[RepCs]⟩
  ·obtain⟨us,h2,h3,h4⟩:=hc.list
   exact⟨us,ofSlice a n cap us (by rw[h2,hlen]) h3,h2.symm,h4⟩
 ·rename_i b off n
  obtain⟨y,hy,h1⟩:=ub hh
  obtain⟨he,h2⟩:=uc h1
  obtain⟨hb,hd⟩:=Ky hl hy
  simp at he h2
  obtain⟨hp,he⟩:=he
  subst h2;subst he
  rw[Rep] at hx
  obtain⟨x,A,cap,⟨hx1,hmp⟩,rfl,hcap,hr⟩:=hx
  rw[hb] at hx1;simp at hx1;subst hx1
  rcases hr with hr | ⟨kk,o,rfl,hr⟩
  ·have:n=0:=by omega
   subst this
   exact⟨[],ofEmpty _ _,by simp,by simp[RepCs]⟩
  ·rcases hr with hr | ⟨r1,r2,r3⟩
   ·simp[hd] at hr
   ·rcases S.blk b y hb hd hmp with⟨hn,_⟩ | ⟨k',o',cs,ty,fr,hβ',g1,g2,g3,g4,g5,g6⟩
    ·rw[r1] at hn;simp at hn
    ·rw[r1] at hβ';simp at hβ';obtain⟨rfl,rfl⟩:=hβ'
     obtain⟨us,h2,h3,h4⟩:=(((g4.1 hp).drop off).take (n*y.sz)).list
     have hlen:us.length=n*y.sz:=by rw[h2];simp;omega
     refine⟨us,ofSlice _ n cap us hlen (fun j u hj=>?_),h2.symm,h4⟩
     have:=h3 j u hj
     rw[Addr.add_mid,Vb g1,Nat.add_assoc];exact this
 ·rename_i s
  obtain⟨he,h1⟩:=uc hh
  simp at he h1
  subst he;subst h1
  rw[Rep] at hx;subst hx
  refine⟨s.map fun b=>.int .u8 (b.toNat:Int),⟨fun _=>rfl,fun w' m _ hm=>?_,by simp⟩,by simp,?_⟩
  ·simp[Builtin.firstCells]
  ·rw[Cm]
   intro j x hj
   simp at hj
   obtain⟨b,hb,rfl⟩:=hj
   exact⟨_,by simp[hb];rfl,by rw[RepC]⟩
 ·simp at hh
theorem Aim {el:TypeId} {sz:Nat} {x:AV} {vx:Value} {k:List AV×Nat×Bool→Option R} (S:SimH J β h w) (hl:Looks g h) (hh:Ax1 P el g sz x k=some r) (hx:Rep J β h w x vx) :
  ∃ (q:List AV×Nat×Bool) (us:List Value),k q=some r∧Yield P w sz vx q.2.1 us∧q.1.length=us.length∧RepCs (J q.2.2) w q.1 (fun j=>us[j]?) 0:=by
 unfold Ax1 at hh
 obtain⟨q,hq,h1⟩:=ub hh
 obtain⟨us,Y,hul,hur⟩:=A72 (P:=P) S hl hq hx
 obtain⟨o,h2,h3⟩:=Aui h1 hur
 exact⟨_,us,h2,Y,hul,h3⟩
end
end Gx

namespace Gx
open Go
theorem Atq {a b:Nat} (h:a≠b):Nat.beq a b=false:=by
 cases hb:Nat.beq a b with
 | false=>rfl
 | true=>exact absurd (Nat.eq_of_beq_eq_true hb) h
theorem Wz {a b:Nat} (h:Nat.beq a b=false):a≠b:=fun e=>by subst e;rw[Nat.beq_refl] at h;cases h
theorem Ag:∀ (h:Al) (b:Nat) (y:Blk) (c:Nat),Ao (Fx h b y) c=if c=b then some y else Ao h c
 | [],b,y,c=>by
  by_cases e:c=b
  ·subst e;simp[Fx,Ao]
  ·have:Nat.beq b c=false:=Atq (fun e'=>e e'.symm)
   simp[Fx,Ao,e,this]
 | (i,x)::r,b,y,c=>by
  rw[Fx]
  cases h1:Nat.beq i b with
  | true =>
   have h1':i=b:=by simpa using h1
   subst h1'
   by_cases e:c=i
   ·subst e;simp[Ao]
   ·have:Nat.beq i c=false:=Atq (fun e'=>e e'.symm)
    simp[Ao,e,this]
  | false =>
   have h1':i≠b:=Wz h1
   cases h2:Nat.blt b i with
   | true =>
    by_cases e:c=b
    ·subst e;simp[Ao]
    ·have:Nat.beq b c=false:=Atq (fun e'=>e e'.symm)
     simp[Ao,e,this]
   | false =>
    simp only[cond_false]
    rw[Ao]
    cases h3:Nat.beq i c with
    | true =>
     have h3':i=c:=by simpa using h3
     subst h3'
     simp[Ao,h1']
    | false=>simp[Ao,h3,Ag r b y c]
theorem Nb:∀ (h:Gg) (b:Nat) (y:AV) (c:Nat),Fs (Ax0 h b y) c=if c=b then y else Fs h c
 | [],b,y,c=>by
  by_cases e:c=b
  ·subst e;simp[Ax0,Fs]
  ·have:Nat.beq b c=false:=Atq (fun e'=>e e'.symm)
   simp[Ax0,Fs,e,this]
 | (i,x)::r,b,y,c=>by
  rw[Ax0]
  cases h1:Nat.beq i b with
  | true =>
   have h1':i=b:=by simpa using h1
   subst h1'
   by_cases e:c=i
   ·subst e;simp[Fs]
   ·have:Nat.beq i c=false:=Atq (fun e'=>e e'.symm)
    simp[Fs,e,this]
  | false =>
   have h1':i≠b:=Wz h1
   cases h2:Nat.blt b i with
   | true =>
    by_cases e:c=b
    ·subst e;simp[Fs]
    ·have:Nat.beq b c=false:=Atq (fun e'=>e e'.symm)
     simp[Fs,e,this]
   | false =>
    simp only[cond_false]
    rw[Fs]
    cases h3:Nat.beq i c with
    | true =>
     have h3':i=c:=by simpa using h3
     subst h3'
     simp[Fs,h1']
    | false=>simp[Fs,h3,Nb r b y c]
def Mut (β:Cr) (h:Al) (k:Nat):Prop:=∃ b x o,Ao h b=some x∧x.dead=false∧x.sealed=false∧β b=some (k,o)
structure Step (J:Bool→Nat→Prop) (β:Cr) (h:Al) (w:World) (J':Bool→Nat→Prop) (β':Cr) (h':Al) (w':World):Prop where
 ext:Ext J β h w J' β' h' w'
 sim:SimH J' β' h' w'
 os:w'.os=w.os
 tape:w'.tape=w.tape
 output:w'.output=w.output
 size:w.heap.size≤w'.heap.size
 frame:∀ k,k<w.heap.size→¬ Mut β h k→w'.heap[k]?=w.heap[k]?
 wr:∀ k,Mut β' h' k→k<w.heap.size→Mut β h k
 jup:∀ o k,J' o k→J o k∨Mut β h k∨w.heap.size≤k
section
variable {J J' J'':Bool→Nat→Prop} {β β' β'':Cr} {h h' h'':Al} {w w' w'':World}
theorem Ext.refl:Ext J β h w J β h w:=⟨fun _ _ hj=>hj,fun _ _ _=>rfl,fun b x hb=>⟨x,⟨hb,rfl⟩,by cases hd:x.dead<;>simp⟩,fun _ _ _ _=>Nat.le_refl _⟩
theorem Ext.trans (A:Ext J β h w J' β' h' w') (B:Ext J' β' h' w' J'' β'' h'' w'') (hs:∀ b k o,β b=some (k,o)→Bj w k≤Bj w'' k):Ext J β h w J'' β'' h'' w'' where
 jsub o k hj:=B.jsub o k (A.jsub o k hj)
 keep o k hj:=(B.keep o k (A.jsub o k hj)).trans (A.keep o k hj)
 blk b x hb:=by
  obtain⟨x',⟨h1,m1⟩,h2⟩:=A.blk b x hb
  obtain⟨x'',⟨h3,m3⟩,h4⟩:=B.blk b x' h1
  refine⟨x'',⟨h3,m3.trans m1⟩,?_⟩
  rcases h4 with h4 | ⟨h4,h5,h6,h7⟩
  ·exact .inl h4
  ·rcases h2 with h2 | ⟨g1,g2,g3,g4⟩
   ·simp[h4] at h2
   ·exact .inr ⟨g1,h5.trans g2,h6.trans g3,fun hm=>(h7 (m1.trans hm)).trans (g4 hm)⟩
 size:=hs
theorem Step.refl (S:SimH J β h w):Step J β h w J β h w:=⟨Ext.refl,S,rfl,rfl,rfl,Nat.le_refl _,fun _ _ _=>rfl,fun _ hm _=>hm,fun _ _ hj=>.inl hj⟩
theorem Step.trans (A:Step J β h w J' β' h' w') (B:Step J' β' h' w' J'' β'' h'' w'') (hs:∀ b k o,β b=some (k,o)→Bj w k≤Bj w'' k):Step J β h w J'' β'' h'' w'' where
 ext:=A.ext.trans B.ext hs
 sim:=B.sim
 os:=B.os.trans A.os
 tape:=B.tape.trans A.tape
 output:=B.output.trans A.output
 size:=Nat.le_trans A.size B.size
 frame k hk hm:=(B.frame k (Nat.lt_of_lt_of_le hk A.size) (fun hm'=>hm (A.wr k hm' hk))).trans (A.frame k hk hm)
 wr k hm hk:=A.wr k (B.wr k hm (Nat.lt_of_lt_of_le hk A.size)) hk
 jup o k hj:=by
  rcases B.jup o k hj with h1 | h1 | h1
  ·exact A.jup o k h1
  ·by_cases hk:k<w.heap.size
   ·exact .inr (.inl (A.wr k h1 hk))
   ·exact .inr (.inr (by omega))
  ·exact .inr (.inr (Nat.le_trans A.size h1))
theorem CellsRep.ext (E:Ext J β h w J' β' h' w') {x:Blk} {rd:Nat→Option Value} (hc:CellsRep J β h w x rd):CellsRep J' β' h' w' x rd :=
 ⟨fun hp=>RepCs.keep (E.jsub _) (E.keep _) (fun _=>rfl) (hc.1 hp),fun hp j c hj=>by
  obtain⟨u,h1,h2,h3⟩:=hc.2 hp j c hj
  exact⟨u,h1,Rep.ext E h2,h3⟩⟩
theorem Gi {k:Nat} {cs:Array Value} {ty:TypeId} {fr:Nat×Nat} (hk:w.heap[k]?=some (.cells cs ty fr)):Bj w k=cs.size:=by simp[Bj,hk]
theorem Asl {k:Nat} {o:Obj} (hk:w.heap[k]?=some o):k<w.heap.size:=by
 rcases Nat.lt_or_ge k w.heap.size with hlt | hge
 ·exact hlt
 ·rw[Array.getElem?_eq_none hge] at hk;cases hk
theorem MapRep.keep {b:Nat} {x:Blk} (M:MapRep J β w b x) (hβ:β' b=β b) (hw:∀ k o,β b=some (k,o)→w'.heap[k]?=w.heap[k]?) (hj:∀ g k o,β b=some (k,o)→J' g k→J g k):MapRep J' β' w' b x:=by
 obtain⟨h1,h2,k,es,clk,h3,h4,h5,h6⟩:=M
 exact⟨h1,h2,k,es,clk,by rw[hβ];exact h3,by rw[hw k 0 h3];exact h4,h5,fun g hg=>h6 g (hj g k 0 h3 hg)⟩
theorem Step.drew (S:SimH J β h w):Step J β h w J β h w.drew where
 ext:=⟨fun _ _ hj=>hj,fun _ _ _=>rfl,fun b x hb=>⟨x,⟨hb,rfl⟩,by cases hd:x.dead<;>simp⟩,fun _ _ _ _=>Nat.le_refl _⟩
 sim:=by
  have E:Ext J β h w J β h w.drew:=⟨fun _ _ hj=>hj,fun _ _ _=>rfl,fun b x hb=>⟨x,⟨hb,rfl⟩,by cases hd:x.dead<;>simp⟩,fun _ _ _ _=>Nat.le_refl _⟩
  refine⟨S.jlt,S.jft,fun b x hb hd hm=>?_,fun b x hb hd hm=>(S.mblk b x hb hd hm).keep rfl (fun _ _ _=>rfl) (fun _ _ _ _ hj=>hj),S.sep⟩
  rcases S.blk b x hb hd hm with h1 | ⟨k,o,cs,ty,fr,h1,h2,h3,h4,h5,h6⟩
  ·exact .inl h1
  ·exact .inr ⟨k,o,cs,ty,fr,h1,h2,h3,h4,h5.ext E,h6⟩
 os:=rfl
 tape:=rfl
 output:=rfl
 size:=Nat.le_refl _
 frame _ _ _:=rfl
 wr _ hm _:=hm
 jup _ _ hj:=.inl hj
theorem Dl (w:World) (o:Obj) {k:Nat} (hk:k<w.heap.size):(w.alloc o).heap[k]?=w.heap[k]?:=by
 show(w.heap.push o)[k]?=_
 rw[Array.getElem?_push,if_neg (by omega)]
theorem Wm (S:SimH J β h w) {b:Nat} {x:Blk} {k o:Nat} (hb:Ao h b=some x) (hd:x.dead=false) (hβ:β b=some (k,o)):k<w.heap.size:=by
 cases hm:x.mp with
 | false =>
  rcases S.blk b x hb hd hm with⟨hn,_⟩ | ⟨k',o',cs,ty,fr,h1,h2,_⟩
  ·rw[hβ] at hn;simp at hn
  ·rw[hβ] at h1;simp at h1;obtain⟨rfl,rfl⟩:=h1;exact Asl h2
 | true =>
  obtain⟨_,_,k',es,clk,h1,h2,_⟩:=S.mblk b x hb hd hm
  rw[hβ] at h1;simp at h1;obtain⟨rfl,_⟩:=h1;exact Asl h2
theorem Step.new (S:SimH J β h w) {d:Nat} {x:Blk} {cs:Array Value} {ty:TypeId} {fr:Nat×Nat} (hn:Ao h d=none) (hxd:x.dead=false) (hxs:x.sealed=false)
  (hfr:FrOk cs.size fr) (hlen:x.cells.length≤cs.size) (hc:CellsRep J β h w x (fun j=>cs[j]?)) (hxm:x.mp=false:=by rfl) :
  Step J β h w J (fun b=>if b=d then some (w.heap.size,0) else β b) (Fx h d x) (w.alloc (.cells cs ty fr)):=by
 have ne:∀ {b y},Ao h b=some y→b≠d:=fun hb e=>by subst e;rw[hn] at hb;cases hb
 have E:Ext J β h w J (fun b=>if b=d then some (w.heap.size,0) else β b) (Fx h d x) (w.alloc (.cells cs ty fr)):=by
  refine⟨fun _ _ hj=>hj,fun o k hj=>Dl w _ (S.jlt o k hj),fun b y hb=>⟨y,⟨by rw[Ag,if_neg (ne hb)];exact hb,rfl⟩,?_⟩,fun b k o hβ=>?_⟩
  ·cases hd:y.dead
   ·exact .inr ⟨rfl,by simp[ne hb],rfl,fun _=>rfl⟩
   ·exact .inl rfl
  ·by_cases hk:k<w.heap.size
   ·simp[Bj,Dl w _ hk]
   ·simp[Bj,Array.getElem?_eq_none (Nat.le_of_not_lt hk)]
 have hnew:(w.alloc (.cells cs ty fr)).heap[w.heap.size]?=some (.cells cs ty fr):=by
  show(w.heap.push _)[_]?=_;simp
 have hsz:(w.alloc (.cells cs ty fr)).heap.size=w.heap.size+1:=by show(w.heap.push _).size=_;simp
 refine⟨E,⟨fun o k hj=>by have:=S.jlt o k hj;omega,S.jft,fun b y hb hd hm=>?_,fun b y hb hd hm=>by
   rw[Ag] at hb
   by_cases e:b=d
   ·rw[if_pos e] at hb;simp at hb;subst hb;simp[hxm] at hm
   ·rw[if_neg e] at hb
    exact(S.mblk b y hb hd hm).keep (by simp[e]) (fun k o hβ=>Dl w _ (Wm S hb hd hβ)) (fun _ _ _ _ hj=>hj),?_⟩,rfl,rfl,rfl,by omega,fun k hk _=>Dl w _ hk,?_,fun _ _ hj=>.inl hj⟩
 ·rw[Ag] at hb
  by_cases e:b=d
  ·subst e;simp at hb;subst hb
   exact .inr ⟨w.heap.size,0,cs,ty,fr,by simp,hnew,hfr,by omega,by simpa using hc.ext E,fun _ g hj=>by have:=S.jlt g _ hj;omega,fun hs=>by simp[hxs] at hs⟩
  ·rw[if_neg e] at hb
   rcases S.blk b y hb hd hm with h1 | ⟨k,o,cs',ty',fr',h1,h2,h3,h4,h5,h6⟩
   ·exact .inl ⟨by simp[e,h1.1],h1.2⟩
   ·exact .inr ⟨k,o,cs',ty',fr',by simp[e,h1],by rw[Dl w _ (Asl h2)];exact h2,h3,h4,h5.ext E,h6⟩
 ·intro b b' y y' k o o' hb hb' hd hd' hs hβ hβ'
  rw[Ag] at hb hb'
  by_cases e:b=d<;>by_cases e':b'=d
  ·rw[e,e']
  ·rw[if_neg e'] at hb'
   simp[e] at hβ;simp[e'] at hβ'
   have:=Wm S hb' hd' hβ';omega
  ·rw[if_neg e] at hb
   simp[e'] at hβ';simp[e] at hβ
   have:=Wm S hb hd hβ;omega
  ·rw[if_neg e] at hb;rw[if_neg e'] at hb'
   simp[e] at hβ;simp[e'] at hβ'
   exact S.sep b b' y y' k o o' hb hb' hd hd' hs hβ hβ'
 ·rintro k ⟨b,y,o,hb,hd,hs,hβ⟩ hk
  rw[Ag] at hb
  by_cases e:b=d
  ·simp[e] at hβ;omega
  ·rw[if_neg e] at hb;simp[e] at hβ
   exact⟨b,y,o,hb,hd,hs,hβ⟩
theorem Step.newNone (S:SimH J β h w) {d:Nat} {x:Blk} (hn:Ao h d=none) (hc:x.cells=[]) (hxm:x.mp=false:=by rfl) :
  Step J β h w J (fun b=>if b=d then none else β b) (Fx h d x) w:=by
 have ne:∀ {b y},Ao h b=some y→b≠d:=fun hb e=>by subst e;rw[hn] at hb;cases hb
 have E:Ext J β h w J (fun b=>if b=d then none else β b) (Fx h d x) w:=by
  refine⟨fun _ _ hj=>hj,fun o k hj=>rfl,fun b y hb=>⟨y,⟨by rw[Ag,if_neg (ne hb)];exact hb,rfl⟩,?_⟩,fun b k o hβ=>Nat.le_refl _⟩
  cases hd:y.dead
  ·exact .inr ⟨rfl,by simp[ne hb],rfl,fun _=>rfl⟩
  ·exact .inl rfl
 refine⟨E,⟨S.jlt,S.jft,fun b y hb hd hm=>?_,fun b y hb hd hm=>by
   rw[Ag] at hb
   by_cases e:b=d
   ·rw[if_pos e] at hb;simp at hb;subst hb;simp[hxm] at hm
   ·rw[if_neg e] at hb
    exact(S.mblk b y hb hd hm).keep (by simp[e]) (fun k o hβ=>rfl) (fun _ _ _ _ hj=>hj),?_⟩,rfl,rfl,rfl,Nat.le_refl _,fun k hk _=>rfl,?_,fun _ _ hj=>.inl hj⟩
 ·rw[Ag] at hb
  by_cases e:b=d
  ·subst e;simp at hb;subst hb
   exact .inl ⟨by simp,hc⟩
  ·rw[if_neg e] at hb
   rcases S.blk b y hb hd hm with h1 | ⟨k,o,cs',ty',fr',h1,h2,h3,h4,h5,h6⟩
   ·exact .inl ⟨by simp[e,h1.1],h1.2⟩
   ·exact .inr ⟨k,o,cs',ty',fr',by simp[e,h1],h2,h3,h4,h5.ext E,h6⟩
 ·intro b b' y y' k o o' hb hb' hd hd' hs hβ hβ'
  rw[Ag] at hb hb'
  by_cases e:b=d
  ·simp[e] at hβ
  ·by_cases e':b'=d
   ·simp[e'] at hβ'
   ·rw[if_neg e] at hb;rw[if_neg e'] at hb'
    simp[e] at hβ;simp[e'] at hβ'
    exact S.sep b b' y y' k o o' hb hb' hd hd' hs hβ hβ'
 ·rintro k ⟨b,y,o,hb,hd,hs,hβ⟩ hk
  rw[Ag] at hb
  by_cases e:b=d
  ·simp[e] at hβ
  ·rw[if_neg e] at hb;simp[e] at hβ
   exact⟨b,y,o,hb,hd,hs,hβ⟩
theorem Step.newMap (S:SimH J β h w) {d:Nat} {x:Blk} (hn:Ao h d=none) (hxd:x.dead=false) (hxs:x.sealed=false) (hxp:x.pure=true) (hxc:x.cells=[]) (hxm:x.mp=true) :
  Step J β h w J (fun b=>if b=d then some (w.heap.size,0) else β b) (Fx h d x) (w.alloc (.map #[] 0)):=by
 have ne:∀ {b y},Ao h b=some y→b≠d:=fun hb e=>by subst e;rw[hn] at hb;cases hb
 have E:Ext J β h w J (fun b=>if b=d then some (w.heap.size,0) else β b) (Fx h d x) (w.alloc (.map #[] 0)):=by
  refine⟨fun _ _ hj=>hj,fun o k hj=>Dl w _ (S.jlt o k hj),fun b y hb=>⟨y,⟨by rw[Ag,if_neg (ne hb)];exact hb,rfl⟩,?_⟩,fun b k o hβ=>?_⟩
  ·cases hd:y.dead
   ·exact .inr ⟨rfl,by simp[ne hb],rfl,fun _=>rfl⟩
   ·exact .inl rfl
  ·by_cases hk:k<w.heap.size
   ·simp[Bj,Dl w _ hk]
   ·simp[Bj,Array.getElem?_eq_none (Nat.le_of_not_lt hk)]
 have hnew:(w.alloc (.map #[] 0)).heap[w.heap.size]?=some (.map #[] 0):=by
  show(w.heap.push _)[_]?=_;simp
 have hsz:(w.alloc (.map #[] 0)).heap.size=w.heap.size+1:=by show(w.heap.push _).size=_;simp
 refine⟨E,⟨fun o k hj=>by have:=S.jlt o k hj;omega,S.jft,fun b y hb hd hm=>?_,fun b y hb hd hm=>?_,?_⟩,rfl,rfl,rfl,by omega,fun k hk _=>Dl w _ hk,?_,fun _ _ hj=>.inl hj⟩
 ·rw[Ag] at hb
  by_cases e:b=d
  ·rw[if_pos e] at hb;simp at hb;subst hb;simp[hxm] at hm
  ·rw[if_neg e] at hb
   rcases S.blk b y hb hd hm with h1 | ⟨k,o,cs',ty',fr',h1,h2,h3,h4,h5,h6⟩
   ·exact .inl ⟨by simp[e,h1.1],h1.2⟩
   ·exact .inr ⟨k,o,cs',ty',fr',by simp[e,h1],by rw[Dl w _ (Asl h2)];exact h2,h3,h4,h5.ext E,h6⟩
 ·rw[Ag] at hb
  by_cases e:b=d
  ·rw[if_pos e] at hb;simp at hb;subst hb
   exact⟨hxp,hxs,w.heap.size,#[],0,by simp[e],hnew,⟨[],by simp[hxc],by simp⟩,fun g hj=>by have:=S.jlt g _ hj;omega⟩
  ·rw[if_neg e] at hb
   exact(S.mblk b y hb hd hm).keep (by simp[e]) (fun k o hβ=>Dl w _ (Wm S hb hd hβ)) (fun _ _ _ _ hj=>hj)
 ·intro b b' y y' k o o' hb hb' hd hd' hs hβ hβ'
  rw[Ag] at hb hb'
  by_cases e:b=d<;>by_cases e':b'=d
  ·rw[e,e']
  ·rw[if_neg e'] at hb'
   simp[e] at hβ;simp[e'] at hβ'
   have:=Wm S hb' hd' hβ';omega
  ·rw[if_neg e] at hb
   simp[e'] at hβ';simp[e] at hβ
   have:=Wm S hb hd hβ;omega
  ·rw[if_neg e] at hb;rw[if_neg e'] at hb'
   simp[e] at hβ;simp[e'] at hβ'
   exact S.sep b b' y y' k o o' hb hb' hd hd' hs hβ hβ'
 ·rintro k ⟨b,y,o,hb,hd,hs,hβ⟩ hk
  rw[Ag] at hb
  by_cases e:b=d
  ·simp[e] at hβ;omega
  ·rw[if_neg e] at hb;simp[e] at hβ
   exact⟨b,y,o,hb,hd,hs,hβ⟩
theorem Step.kill (S:SimH J β h w) {d:Nat} {x y:Blk} (hx:Ao h d=some x) (hy:y.dead=true) (hym:y.mp=x.mp:=by rfl):Step J β h w J β (Fx h d y) w:=by
 have E:Ext J β h w J β (Fx h d y) w:=by
  refine⟨fun _ _ hj=>hj,fun o k hj=>rfl,fun b z hb=>?_,fun b k o hβ=>Nat.le_refl _⟩
  by_cases e:b=d
  ·subst e;rw[hx] at hb;simp at hb;subst hb;exact⟨y,⟨by rw[Ag,if_pos rfl],hym⟩,.inl hy⟩
  ·refine⟨z,⟨by rw[Ag,if_neg e];exact hb,rfl⟩,?_⟩
   cases hd:z.dead
   ·exact .inr ⟨rfl,rfl,rfl,fun _=>rfl⟩
   ·exact .inl rfl
 refine⟨E,⟨S.jlt,S.jft,fun b z hb hd hm=>?_,fun b z hb hd hm=>by
   rw[Ag] at hb
   by_cases e:b=d
   ·rw[if_pos e] at hb;simp at hb;subst hb;simp[hy] at hd
   ·rw[if_neg e] at hb
    exact(S.mblk b z hb hd hm).keep rfl (fun k o hβ=>rfl) (fun _ _ _ _ hj=>hj),?_⟩,rfl,rfl,rfl,Nat.le_refl _,fun k hk _=>rfl,?_,fun _ _ hj=>.inl hj⟩
 ·rw[Ag] at hb
  by_cases e:b=d
  ·rw[if_pos e] at hb;simp at hb;subst hb;simp[hy] at hd
  ·rw[if_neg e] at hb
   rcases S.blk b z hb hd hm with h1 | ⟨k,o,cs',ty',fr',h1,h2,h3,h4,h5,h6⟩
   ·exact .inl h1
   ·exact .inr ⟨k,o,cs',ty',fr',h1,h2,h3,h4,h5.ext E,h6⟩
 ·intro b b' z z' k o o' hb hb' hd hd' hs hβ hβ'
  rw[Ag] at hb hb'
  by_cases e:b=d
  ·rw[if_pos e] at hb;simp at hb;subst hb;simp[hy] at hd
  ·by_cases e':b'=d
   ·rw[if_pos e'] at hb';simp at hb';subst hb';simp[hy] at hd'
   ·rw[if_neg e] at hb;rw[if_neg e'] at hb'
    exact S.sep b b' z z' k o o' hb hb' hd hd' hs hβ hβ'
 ·rintro k ⟨b,z,o,hb,hd,hs,hβ⟩ hk
  rw[Ag] at hb
  by_cases e:b=d
  ·rw[if_pos e] at hb;simp at hb;subst hb;simp[hy] at hd
  ·rw[if_neg e] at hb
   exact⟨b,z,o,hb,hd,hs,hβ⟩
end
end Gx

namespace Gx
open Go
section
variable {J J' J'':Bool→Nat→Prop} {β β' β'':Cr} {h h' h'':Al} {w w' w'':World}
theorem Step.shutB (S:SimH J β h w) {d:Nat} {x:Blk} (hx:Ao h d=some x) (hd:x.dead=false) (hxm:x.mp=false) :
  Step J β h w (fun o k=>J o k∨∃ o',β d=some (k,o')∧(x.taint=true→o=true)) β (Fx h d { x with sealed:=true }) w:=by
 have E:Ext J β h w (fun o k=>J o k∨∃ o',β d=some (k,o')∧(x.taint=true→o=true)) β (Fx h d { x with sealed:=true }) w:=by
  refine⟨fun _ _ hj=>.inl hj,fun o k hj=>rfl,fun b z hb=>?_,fun b k o hβ=>Nat.le_refl _⟩
  by_cases e:b=d
  ·subst e;rw[hx] at hb;simp at hb;subst hb
   exact⟨{ x with sealed:=true },⟨by rw[Ag,if_pos rfl],rfl⟩,.inr ⟨hd,rfl,rfl,fun _=>rfl⟩⟩
  ·refine⟨z,⟨by rw[Ag,if_neg e];exact hb,rfl⟩,?_⟩
   cases hd:z.dead
   ·exact .inr ⟨rfl,rfl,rfl,fun _=>rfl⟩
   ·exact .inl rfl
 refine⟨E,⟨?_,?_,fun b z hb hdz hm=>?_,fun b z hb hdz hm=>by
   rw[Ag] at hb
   by_cases e:b=d
   ·rw[if_pos e] at hb;simp at hb;subst hb;simp[hxm] at hm
   ·rw[if_neg e] at hb
    have M:=S.mblk b z hb hdz hm
    refine M.keep rfl (fun k o hβ=>rfl) (fun g k o hβ hj=>?_)
    rcases hj with hj | ⟨o',hβ',_⟩
    ·exact hj
    ·exact absurd (S.sep b d z x k o o' hb hx hdz hd M.2.1 hβ hβ') e,?_⟩,rfl,rfl,rfl,Nat.le_refl _,fun k hk _=>rfl,?_,?_⟩
 ·rintro o k (hj | ⟨o',hβ,_⟩)
  ·exact S.jlt o k hj
  ·exact Wm S hx hd hβ
 ·rintro k (hj | ⟨o',hβ,ht⟩)
  ·exact .inl (S.jft k hj)
  ·exact .inr ⟨o',hβ,fun _=>rfl⟩
 ·rw[Ag] at hb
  by_cases e:b=d
  ·rw[if_pos e] at hb;simp at hb;subst hb;subst e
   rcases S.blk b x hx hd hxm with h1 | ⟨k,o,cs',ty',fr',h1,h2,h3,h4,h5,h6,h7⟩
   ·exact .inl h1
   ·exact .inr ⟨k,o,cs',ty',fr',h1,h2,h3,h4,h5.ext E,fun hs=>by simp at hs,fun _=>.inr ⟨o,h1,id⟩⟩
  ·rw[if_neg e] at hb
   rcases S.blk b z hb hdz hm with h1 | ⟨k,o,cs',ty',fr',h1,h2,h3,h4,h5,h6,h7⟩
   ·exact .inl h1
   ·refine .inr ⟨k,o,cs',ty',fr',h1,h2,h3,h4,h5.ext E,fun hs g hj=>?_,fun hs=>.inl (h7 hs)⟩
    rcases hj with hj | ⟨o',hβ,_⟩
    ·exact h6 hs g hj
    ·exact e (S.sep b d z x k o o' hb hx hdz hd hs h1 hβ)
 ·intro b b' z z' k o o' hb hb' hd1 hd2 hs hβ hβ'
  have get:∀ {c y},Ao (Fx h d { x with sealed:=true }) c=some y→y.dead=false→∃ y',Ao h c=some y'∧y'.dead=false∧(y.sealed=false→y'.sealed=false):=by
   intro c y hc hyd
   rw[Ag] at hc
   by_cases e:c=d
   ·subst e;exact⟨x,hx,hd,fun hs=>by simp at hc;subst hc;simp at hs⟩
   ·rw[if_neg e] at hc;exact⟨y,hc,hyd,id⟩
  obtain⟨y1,g1,g2,g3⟩:=get hb hd1
  obtain⟨y2,g4,g5,g6⟩:=get hb' hd2
  exact S.sep b b' y1 y2 k o o' g1 g4 g2 g5 (g3 hs) hβ hβ'
 ·rintro k ⟨b,z,o,hb,hdz,hs,hβ⟩ hk
  rw[Ag] at hb
  by_cases e:b=d
  ·rw[if_pos e] at hb;simp at hb;subst hb;simp at hs
  ·rw[if_neg e] at hb
   exact⟨b,z,o,hb,hdz,hs,hβ⟩
 ·rintro o k (hj | ⟨o',hβ,ht⟩)
  ·exact .inl hj
  ·cases hs:x.sealed with
   | false=>exact .inr (.inl ⟨d,x,o',hx,hd,hs,hβ⟩)
   | true =>
    left
    rcases S.blk d x hx hd hxm with⟨h1,_⟩ | ⟨k',o1,cs',ty',fr',h1,h2,h3,h4,h5,h6,h7⟩
    ·rw[hβ] at h1;simp at h1
    ·rw[hβ] at h1;simp at h1;obtain⟨rfl,rfl⟩:=h1
     have:=h7 hs
     cases htt:x.taint with
     | true=>rw[htt] at this;rw[ht htt];exact this
     | false =>
      rw[htt] at this
      cases o
      ·exact this
      ·exact S.jft _ this
structure OnlyBlk (w w':World) (k:Nat) (cs cs':Array Value) (ty:TypeId) (fr:Nat×Nat):Prop where
 old:w.heap[k]?=some (.cells cs ty fr)
 new:w'.heap[k]?=some (.cells cs' ty fr)
 sz:cs'.size=cs.size
 other:∀ j,j≠k→w'.heap[j]?=w.heap[j]?
 size:w'.heap.size=w.heap.size
 os:w'.os=w.os
 tape:w'.tape=w.tape
 output:w'.output=w.output
theorem OnlyBlk.setCell {k i:Nat} {cs:Array Value} {ty:TypeId} {fr:Nat×Nat} (hk:w.heap[k]?=some (.cells cs ty fr)) (u:Value) :
  OnlyBlk w (w.setCell ⟨k,i,none⟩ u) k cs (cs.setIfInBounds i u) ty fr:=by
 refine⟨hk,?_,by simp,fun j hj=>?_,by simp[World.setCell],rfl,rfl,rfl⟩
 ·simp[World.setCell,Array.getElem?_modify,hk]
 ·simp only[World.setCell,Array.getElem?_modify];rw[if_neg (fun e=>hj e.symm)]
theorem OnlyBlk.setCells {k:Nat} {ty:TypeId} {fr:Nat×Nat}:∀ (us:List Value) (i:Nat) (w:World) (cs:Array Value),w.heap[k]?=some (.cells cs ty fr) →
  ∃ cs',OnlyBlk w (w.setCells k i us) k cs cs' ty fr∧∀ j,cs'[j]?=if i≤j∧j<i+us.length∧j<cs.size then us[j - i]? else cs[j]?
 | [],i,w,cs,hk=>⟨cs,⟨hk,hk,rfl,fun _ _=>rfl,rfl,rfl,rfl,rfl⟩,fun j=>by rw[if_neg (by simp;omega)]⟩
 | u::us,i,w,cs,hk=>by
  have A:=OnlyBlk.setCell (i:=i) hk u
  obtain⟨cs',B,hB⟩:=OnlyBlk.setCells us (i+1) (w.setCell ⟨k,i,none⟩ u) _ A.new
  refine⟨cs',⟨hk,B.new,B.sz.trans A.sz,fun j hj=>(B.other j hj).trans (A.other j hj),B.size.trans A.size,B.os.trans A.os,B.tape.trans A.tape,B.output.trans A.output⟩,fun j=>?_⟩
  rw[hB j]
  simp only[Array.size_setIfInBounds,List.length_cons]
  by_cases hj:j=i
  ·subst hj
   rw[if_neg (by omega)]
   by_cases hs:j<cs.size
   ·rw[if_pos (by omega)];simp[hs]
   ·rw[if_neg (by omega)];simp[hs]
  ·by_cases h1:i+1≤j∧j<i+1+us.length∧j<cs.size
   ·rw[if_pos h1,if_pos (by omega),show j - i=(j - (i+1))+1 by omega];simp
   ·rw[if_neg h1,if_neg (by omega),Array.getElem?_setIfInBounds_ne (by omega)]
theorem Step.set (S:SimH J β h w) {d k o:Nat} {x x':Blk} {cs cs':Array Value} {ty:TypeId} {fr:Nat×Nat} (hx:Ao h d=some x) (hd:x.dead=false) (hs:x.sealed=false) (hβ:β d=some (k,o))
  (O:OnlyBlk w w' k cs cs' ty fr) (hd':x'.dead=false) (hs':x'.sealed=false) (hz:x'.sz=x.sz) (hl:x'.cells.length=x.cells.length) (hc:CellsRep J β h w x' (fun j=>cs'[o+j]?)) (hxm:x.mp=false) (hxm':x'.mp=x.mp:=by rfl) :
  Step J β h w J β (Fx h d x') w':=by
 obtain⟨k',o',cs0,ty0,fr0,hβ',h2,h3,h4,h5,h6,h7⟩:∃ k' o' cs0 ty0 fr0,β d=some (k',o')∧w.heap[k']?=some (.cells cs0 ty0 fr0) ∧
   FrOk cs0.size fr0∧o'+x.cells.length≤cs0.size∧CellsRep J β h w x (fun j=>cs0[o'+j]?)∧(x.sealed=false→∀ g,¬ J g k')∧(x.sealed=true→J x.taint k'):=by
  rcases S.blk d x hx hd hxm with⟨h1,_⟩ | h1
  ·rw[hβ] at h1;simp at h1
  ·exact h1
 rw[hβ] at hβ';simp at hβ';obtain⟨rfl,rfl⟩:=hβ'
 rw[O.old] at h2;simp at h2;obtain⟨rfl,rfl,rfl⟩:=h2
 have nj:∀ g j,J g j→j≠k:=fun g j hj e=>by subst e;exact h6 hs g hj
 have E:Ext J β h w J β (Fx h d x') w':=by
  refine⟨fun _ _ hj=>hj,fun o j hj=>O.other j (nj o j hj),fun b z hb=>?_,fun b j oo hb=>?_⟩
  ·by_cases e:b=d
   ·subst e;rw[hx] at hb;simp at hb;subst hb
    exact⟨_,⟨by rw[Ag,if_pos rfl],hxm'⟩,.inr ⟨hd,rfl,hz,fun _=>hl⟩⟩
   ·refine⟨z,⟨by rw[Ag,if_neg e];exact hb,rfl⟩,?_⟩
    cases hd:z.dead
    ·exact .inr ⟨rfl,rfl,rfl,fun _=>rfl⟩
    ·exact .inl rfl
  ·by_cases e:j=k
   ·subst e;rw[Gi O.old,Gi O.new,O.sz];exact Nat.le_refl _
   ·simp[Bj,O.other j e]
 refine⟨E,⟨fun g j hj=>by rw[O.size];exact S.jlt g j hj,S.jft,fun b z hb hdz hm=>?_,fun b z hb hdz hm=>by
   rw[Ag] at hb
   by_cases e:b=d
   ·rw[if_pos e] at hb;simp at hb;subst hb;simp[hxm',hxm] at hm
   ·rw[if_neg e] at hb
    exact(S.mblk b z hb hdz hm).keep rfl (fun k2 o2 hβ2=>O.other k2 (fun e2=>by subst e2;exact e (S.sep d b x z k2 o o2 hx hb hd hdz hs hβ hβ2).symm)) (fun _ _ _ _ hj=>hj),?_⟩,O.os,O.tape,O.output,by rw[O.size];exact Nat.le_refl _,fun j hj hm=>?_,?_,fun _ _ hj=>.inl hj⟩
 ·rw[Ag] at hb
  by_cases e:b=d
  ·rw[if_pos e] at hb;simp at hb;subst hb;subst e
   refine .inr ⟨k,o,cs',ty,fr,hβ,O.new,?_,by rw[hl,O.sz];exact h4,hc.ext E,fun _=>h6 hs,fun hh=>by simp[hs'] at hh⟩
   rw[O.sz];exact h3
  ·rw[if_neg e] at hb
   rcases S.blk b z hb hdz hm with g1 | ⟨k2,o2,cs2,ty2,fr2,g1,g2,g3,g4,g5,g6,g7⟩
   ·exact .inl g1
   ·have hne:k2≠k:=fun e2=>by
     subst e2;exact e (S.sep d b x z k2 o o2 hx hb hd hdz hs hβ g1).symm
    exact .inr ⟨k2,o2,cs2,ty2,fr2,g1,by rw[O.other k2 hne];exact g2,g3,g4,g5.ext E,g6,g7⟩
 ·intro b b' z z' kk oo oo' hb hb' hd1 hd2 hs1 hβ1 hβ2
  have get:∀ {c y},Ao (Fx h d x') c=some y→y.dead=false→∃ y',Ao h c=some y'∧y'.dead=false∧(y.sealed=false→y'.sealed=false):=by
   intro c y hc hyd
   rw[Ag] at hc
   by_cases e:c=d
   ·subst e;exact⟨x,hx,hd,fun _=>hs⟩
   ·rw[if_neg e] at hc;exact⟨y,hc,hyd,id⟩
  obtain⟨y1,g1,g2,g3⟩:=get hb hd1
  obtain⟨y2,g4,g5,g6⟩:=get hb' hd2
  exact S.sep b b' y1 y2 kk oo oo' g1 g4 g2 g5 (g3 hs1) hβ1 hβ2
 ·exact O.other j (fun e=>hm (by subst e;exact⟨d,x,o,hx,hd,hs,hβ⟩))
 ·rintro j ⟨b,z,oo,hb,hdz,hsz,hβz⟩ hj
  rw[Ag] at hb
  by_cases e:b=d
  ·subst e;exact⟨b,x,oo,hx,hd,hs,hβz⟩
  ·rw[if_neg e] at hb
   exact⟨b,z,oo,hb,hdz,hsz,hβz⟩
theorem Step.setMap (S:SimH J β h w) {d k:Nat} {x x':Blk} {es es':Array MapEntry} {clk clk':Nat} (hx:Ao h d=some x) (hd:x.dead=false) (hm:x.mp=true) (hβ:β d=some (k,0))
  (old:w.heap[k]?=some (.map es clk)) (new:w'.heap[k]?=some (.map es' clk')) (other:∀ j,j≠k→w'.heap[j]?=w.heap[j]?) (size:w'.heap.size=w.heap.size) (os:w'.os=w.os) (tape:w'.tape=w.tape) (output:w'.output=w.output)
  (hc:B8s x'.cells es') (hx'd:x'.dead=false) (hx's:x'.sealed=false) (hx'p:x'.pure=true) (hx'z:x'.sz=x.sz) (hx'm:x'.mp=true):Step J β h w J β (Fx h d x') w':=by
 have M:=S.mblk d x hx hd hm
 have nJ:∀ g,¬ J g k:=by
  obtain⟨_,_,k',_,_,h1,_,_,h2⟩:=M
  rw[hβ] at h1;simp at h1;subst h1;exact h2
 have nj:∀ g j,J g j→j≠k:=fun g j hj e=>by subst e;exact nJ g hj
 have E:Ext J β h w J β (Fx h d x') w':=by
  refine⟨fun _ _ hj=>hj,fun o j hj=>other j (nj o j hj),fun b z hb=>?_,fun b j oo hb=>?_⟩
  ·by_cases e:b=d
   ·subst e;rw[hx] at hb;simp at hb;subst hb
    exact⟨_,⟨by rw[Ag,if_pos rfl],by rw[hx'm,hm]⟩,.inr ⟨hd,rfl,hx'z,fun h=>by simp[hm] at h⟩⟩
   ·refine⟨z,⟨by rw[Ag,if_neg e];exact hb,rfl⟩,?_⟩
    cases hd:z.dead
    ·exact .inr ⟨rfl,rfl,rfl,fun _=>rfl⟩
    ·exact .inl rfl
  ·by_cases e:j=k
   ·subst e;simp[Bj,old,new]
   ·simp[Bj,other j e]
 refine⟨E,⟨fun g j hj=>by rw[size];exact S.jlt g j hj,S.jft,fun b z hb hdz hmz=>?_,fun b z hb hdz hmz=>?_,?_⟩,os,tape,output,by rw[size];exact Nat.le_refl _,fun j hj hm=>?_,?_,fun _ _ hj=>.inl hj⟩
 ·rw[Ag] at hb
  by_cases e:b=d
  ·rw[if_pos e] at hb;simp at hb;subst hb;simp[hx'm] at hmz
  ·rw[if_neg e] at hb
   rcases S.blk b z hb hdz hmz with g1 | ⟨k2,o2,cs2,ty2,fr2,g1,g2,g3,g4,g5,g6,g7⟩
   ·exact .inl g1
   ·have hne:k2≠k:=fun e2=>by
     subst e2;rw[old] at g2;cases g2
    exact .inr ⟨k2,o2,cs2,ty2,fr2,g1,by rw[other k2 hne];exact g2,g3,g4,g5.ext E,g6,g7⟩
 ·rw[Ag] at hb
  by_cases e:b=d
  ·rw[if_pos e] at hb;simp at hb;subst hb;subst e
   exact⟨hx'p,hx's,k,es',clk',hβ,new,hc,nJ⟩
  ·rw[if_neg e] at hb
   exact(S.mblk b z hb hdz hmz).keep rfl (fun k2 o2 hβ2=>other k2 (fun e2=>by subst e2;exact e (S.sep d b x z k2 0 o2 hx hb hd hdz M.2.1 hβ hβ2).symm)) (fun _ _ _ _ hj=>hj)
 ·intro b b' z z' kk oo oo' hb hb' hd1 hd2 hs1 hβ1 hβ2
  have get:∀ {c y},Ao (Fx h d x') c=some y→y.dead=false→∃ y',Ao h c=some y'∧y'.dead=false∧(y.sealed=false→y'.sealed=false):=by
   intro c y hc hyd
   rw[Ag] at hc
   by_cases e:c=d
   ·subst e;exact⟨x,hx,hd,fun _=>M.2.1⟩
   ·rw[if_neg e] at hc;exact⟨y,hc,hyd,id⟩
  obtain⟨y1,g1,g2,g3⟩:=get hb hd1
  obtain⟨y2,g4,g5,g6⟩:=get hb' hd2
  exact S.sep b b' y1 y2 kk oo oo' g1 g4 g2 g5 (g3 hs1) hβ1 hβ2
 ·exact other j (fun e=>hm (by subst e;exact⟨d,x,0,hx,hd,M.2.1,hβ⟩))
 ·rintro j ⟨b,z,oo,hb,hdz,hsz,hβz⟩ hj
  rw[Ag] at hb
  by_cases e:b=d
  ·subst e;exact⟨b,x,oo,hx,hd,M.2.1,hβz⟩
  ·rw[if_neg e] at hb
   exact⟨b,z,oo,hb,hdz,hsz,hβz⟩
theorem Step.mark (S:SimH J β h w) {d k o:Nat} {x:Blk} {cs:Array Value} {ty:TypeId} {fr fr':Nat×Nat} (hx:Ao h d=some x) (hd:x.dead=false) (hs:x.sealed=false) (hβ:β d=some (k,o))
  (old:w.heap[k]?=some (.cells cs ty fr)) (new:w'.heap[k]?=some (.cells cs ty fr')) (hf:FrOk cs.size fr') (other:∀ j,j≠k→w'.heap[j]?=w.heap[j]?) (size:w'.heap.size=w.heap.size) (os:w'.os=w.os) (tape:w'.tape=w.tape) (output:w'.output=w.output) (hxm:x.mp=false) :
  Step J β h w J β h w':=by
 have nj:∀ g j,J g j→j≠k:=fun g j hj e=>by
  subst e
  rcases S.blk d x hx hd hxm with⟨h1,_⟩ | ⟨k',o',cs0,ty0,fr0,hβ',h2,h3,h4,h5,h6,h7⟩
  ·rw[hβ] at h1;simp at h1
  ·rw[hβ] at hβ';simp at hβ';obtain⟨rfl,rfl⟩:=hβ'
   exact h6 hs g hj
 have E:Ext J β h w J β h w':=by
  refine⟨fun _ _ hj=>hj,fun o j hj=>other j (nj o j hj),fun b z hb=>⟨z,⟨hb,rfl⟩,?_⟩,fun b j oo hb=>?_⟩
  ·cases hd:z.dead
   ·exact .inr ⟨rfl,rfl,rfl,fun _=>rfl⟩
   ·exact .inl rfl
  ·by_cases e:j=k
   ·subst e;rw[Gi old,Gi new];exact Nat.le_refl _
   ·simp[Bj,other j e]
 refine⟨E,⟨fun g j hj=>by rw[size];exact S.jlt g j hj,S.jft,fun b z hb hdz hm=>?_,fun b z hb hdz hm=>by
   refine(S.mblk b z hb hdz hm).keep rfl (fun k2 o2 hβ2=>other k2 (fun e2=>?_)) (fun _ _ _ _ hj=>hj)
   subst e2
   have:=(S.sep d b x z k2 o o2 hx hb hd hdz hs hβ hβ2)
   subst this
   rw[hx] at hb;simp at hb;subst hb;simp[hxm] at hm,S.sep⟩,os,tape,output,by rw[size];exact Nat.le_refl _,fun j hj hm=>?_,fun _ hm _=>hm,fun _ _ hj=>.inl hj⟩
 ·rcases S.blk b z hb hdz hm with g1 | ⟨k2,o2,cs2,ty2,fr2,g1,g2,g3,g4,g5,g6,g7⟩
  ·exact .inl g1
  ·by_cases e:k2=k
   ·subst e
    rw[old] at g2;simp at g2;obtain⟨rfl,rfl,rfl⟩:=g2
    exact .inr ⟨k2,o2,cs,ty,fr',g1,new,hf,g4,g5.ext E,g6,g7⟩
   ·exact .inr ⟨k2,o2,cs2,ty2,fr2,g1,by rw[other k2 e];exact g2,g3,g4,g5.ext E,g6,g7⟩
 ·exact other j (fun e=>hm (by subst e;exact⟨d,x,o,hx,hd,hs,hβ⟩))
theorem Step.move (S:SimH J β h w) {d d' k o o':Nat} {x x' y:Blk} {cs cs':Array Value} {ty:TypeId} {fr:Nat×Nat} (hx:Ao h d=some x) (hd:x.dead=false) (hs:x.sealed=false) (hβ:β d=some (k,o))
  (hn:Ao h d'=none) (hy:y.dead=true)
  (O:OnlyBlk w w' k cs cs' ty fr) (hd':x'.dead=false) (hs':x'.sealed=false) (hl:o'+x'.cells.length≤cs.size) (hc:CellsRep J β h w x' (fun j=>cs'[o'+j]?)) (hxm:x.mp=false) (hym:y.mp=x.mp:=by rfl) (hxm':x'.mp=false:=by rfl) :
  Step J β h w J (fun b=>if b=d' then some (k,o') else β b) (Fx (Fx h d y) d' x') w':=by
 obtain⟨k',o1,cs0,ty0,fr0,hβ',h2,h3,h4,h5,h6,h7⟩:∃ k' o' cs0 ty0 fr0,β d=some (k',o')∧w.heap[k']?=some (.cells cs0 ty0 fr0) ∧
   FrOk cs0.size fr0∧o'+x.cells.length≤cs0.size∧CellsRep J β h w x (fun j=>cs0[o'+j]?)∧(x.sealed=false→∀ g,¬ J g k')∧(x.sealed=true→J x.taint k'):=by
  rcases S.blk d x hx hd hxm with⟨h1,_⟩ | h1
  ·rw[hβ] at h1;simp at h1
  ·exact h1
 rw[hβ] at hβ';simp at hβ';obtain⟨rfl,rfl⟩:=hβ'
 rw[O.old] at h2;simp at h2;obtain⟨rfl,rfl,rfl⟩:=h2
 have nj:∀ g j,J g j→j≠k:=fun g j hj e=>by subst e;exact h6 hs g hj
 have ndd:d≠d':=fun e=>by subst e;rw[hn] at hx;cases hx
 have ne:∀ {b z},Ao h b=some z→b≠d':=fun hb e=>by subst e;rw[hn] at hb;cases hb
 have get:∀ b,Ao (Fx (Fx h d y) d' x') b=if b=d' then some x' else if b=d then some y else Ao h b:=fun b=>by rw[Ag,Ag]
 have E:Ext J β h w J (fun b=>if b=d' then some (k,o') else β b) (Fx (Fx h d y) d' x') w':=by
  refine⟨fun _ _ hj=>hj,fun o j hj=>O.other j (nj o j hj),fun b z hb=>?_,fun b j oo hb=>?_⟩
  ·by_cases e:b=d
   ·have hb0:=hb;subst e;rw[hx] at hb;simp at hb;subst hb;exact⟨y,⟨by rw[get,if_neg (ne hb0),if_pos rfl],hym⟩,.inl hy⟩
   ·refine⟨z,⟨by rw[get,if_neg (ne hb),if_neg e];exact hb,rfl⟩,?_⟩
    cases hd:z.dead
    ·exact .inr ⟨rfl,by simp[ne hb],rfl,fun _=>rfl⟩
    ·exact .inl rfl
  ·by_cases e:j=k
   ·subst e;rw[Gi O.old,Gi O.new,O.sz];exact Nat.le_refl _
   ·simp[Bj,O.other j e]
 have live:∀ {b z},Ao (Fx (Fx h d y) d' x') b=some z→z.dead=false→(b=d'∧z=x')∨(b≠d'∧b≠d∧Ao h b=some z):=by
  intro b z hb hz
  rw[get] at hb
  by_cases e:b=d'
  ·rw[if_pos e] at hb;simp at hb;exact .inl ⟨e,hb.symm⟩
  ·rw[if_neg e] at hb
   by_cases e2:b=d
   ·rw[if_pos e2] at hb;simp at hb;subst hb;simp[hy] at hz
   ·rw[if_neg e2] at hb;exact .inr ⟨e,e2,hb⟩
 refine⟨E,⟨fun g j hj=>by rw[O.size];exact S.jlt g j hj,S.jft,fun b z hb hdz hm=>?_,fun b z hb hdz hm=>by
   rcases live hb hdz with⟨rfl,rfl⟩ | ⟨e1,e2,hb⟩
   ·simp[hxm'] at hm
   ·exact(S.mblk b z hb hdz hm).keep (by simp[e1]) (fun k2 o2 hβ2=>O.other k2 (fun e=>by subst e;exact e2 (S.sep d b x z k2 o o2 hx hb hd hdz hs hβ hβ2).symm)) (fun _ _ _ _ hj=>hj),?_⟩,O.os,O.tape,O.output,by rw[O.size];exact Nat.le_refl _,fun j hj hm=>?_,?_,fun _ _ hj=>.inl hj⟩
 ·rcases live hb hdz with⟨rfl,rfl⟩ | ⟨e1,e2,hb⟩
  ·refine .inr ⟨k,o',cs',ty,fr,by simp,O.new,?_,by rw[O.sz];exact hl,hc.ext E,fun _=>h6 hs,fun hh=>by simp[hs'] at hh⟩
   rw[O.sz];exact h3
  ·rcases S.blk b z hb hdz hm with g1 | ⟨k2,o2,cs2,ty2,fr2,g1,g2,g3,g4,g5,g6,g7⟩
   ·exact .inl ⟨by simp[e1,g1.1],g1.2⟩
   ·have hne:k2≠k:=fun e=>by
     subst e;exact e2 (S.sep d b x z k2 o o2 hx hb hd hdz hs hβ g1).symm
    exact .inr ⟨k2,o2,cs2,ty2,fr2,by simp[e1,g1],by rw[O.other k2 hne];exact g2,g3,g4,g5.ext E,g6,g7⟩
 ·intro b b' z z' kk oo oo' hb hb' hd1 hd2 hs1 hβ1 hβ2
  rcases live hb hd1 with⟨e0,_⟩ | ⟨e1,e2,hbb⟩<;>rcases live hb' hd2 with⟨e0',_⟩ | ⟨e3,e4,hbb'⟩
  ·rw[e0,e0']
  ·simp[e0] at hβ1;simp[e3] at hβ2
   obtain⟨rfl,rfl⟩:=hβ1
   exact absurd (S.sep d b' x z' k o oo' hx hbb' hd hd2 hs hβ hβ2).symm e4
  ·simp[e0'] at hβ2;simp[e1] at hβ1
   obtain⟨rfl,rfl⟩:=hβ2
   exact absurd (S.sep d b x z k o oo hx hbb hd hd1 hs hβ hβ1).symm e2
  ·simp[e1] at hβ1;simp[e3] at hβ2
   exact S.sep b b' z z' kk oo oo' hbb hbb' hd1 hd2 hs1 hβ1 hβ2
 ·exact O.other j (fun e=>hm (by subst e;exact⟨d,x,o,hx,hd,hs,hβ⟩))
 ·rintro j ⟨b,z,oo,hb,hdz,hsz,hβz⟩ hj
  rcases live hb hdz with⟨rfl,rfl⟩ | ⟨e1,e2,hb⟩
  ·simp at hβz;obtain⟨rfl,rfl⟩:=hβz
   exact⟨d,x,o,hx,hd,hs,hβ⟩
  ·simp[e1] at hβz;exact⟨b,z,oo,hb,hdz,hsz,hβz⟩
end
end Gx

namespace Gx
open Go
theorem Cc:∀ (a b:Ups) (h:Al),An (a++b) h=An b (An a h)
 | [],_,_=>rfl
 | (_,some _)::r,b,h=>by simp only[List.cons_append,An];exact Cc r b _
 | (_,none)::r,b,h=>by simp only[List.cons_append,An];exact Cc r b _
def LooksS (g:Bt) (h:Al):Prop:=∀ b x,g b=some x→∃ y,Ao h b=some y∧{ y with sealed:=true }={ x with sealed:=true }
theorem Looks.s {g:Bt} {h:Al} (hl:Looks g h):LooksS g h:=fun b x hb=>⟨x,hl b x hb,rfl⟩
section
variable {R:Type} {r:R} {P:Program} {J J':Bool→Nat→Prop} {β:Cr} {h:Al} {w:World} {g:Bt}
theorem LooksS.shutB (hl:LooksS g h) {b:Nat} {x:Blk} (hb:g b=some x):LooksS g (Fx h b { x with sealed:=true }):=by
 intro c y hc
 rw[Ag]
 by_cases e:c=b
 ·subst e;rw[hb] at hc;simp at hc;subst hc
  exact⟨{ x with sealed:=true },by simp,rfl⟩
 ·rw[if_neg e];exact hl c y hc
theorem B20 (S:SimH J β h w) {b off n:Nat} {y:Blk} {v:Value} (hb:Ao h b=some y) (hd:y.dead=false) (hp:y.pure=true) (hr:Rep J β h w (.own b off n) v)
  (hJ:∀ k o,β b=some (k,o)→J' y.taint k) (hsub:∀ o k,J o k→J' o k) (t o:Bool):RepC (J' y.taint) w (.imm ((y.cells.drop off).take (n*y.sz)) n y.sz t o) v↔(t=true→∃ A cap,v=.slice A n cap∧cap=n):=by
 rw[Rep] at hr
 obtain⟨x,A,cap,⟨hx1,hmp⟩,rfl,hcap,hr⟩:=hr
 rw[hb] at hx1;simp at hx1;subst hx1
 rw[RepC]
 constructor
 ·rintro⟨_,A',cap',hv,_,ht,_⟩ h1
  exact⟨A',cap',hv,ht h1⟩
 ·intro ht
  have ht':t=true→cap=n:=fun h1=>by
   obtain⟨A',cap',hv,hc⟩:=ht h1
   simp at hv;omega
  rcases hr with hr | ⟨kk,oo,rfl,hr⟩
  ·have:n=0:=by omega
   subst this
   exact⟨by simp,A,cap,rfl,hcap,ht',.inl rfl⟩
  ·rcases hr with hr | ⟨r1,r2,r3⟩
   ·simp[hd] at hr
   ·rcases S.blk b y hb hd hmp with⟨hn,_⟩ | ⟨k',o',cs,ty,fr,hβ',g1,g2,g3,g4,g5,g6⟩
    ·rw[r1] at hn;simp at hn
    ·rw[r1] at hβ';simp at hβ';obtain⟨rfl,rfl⟩:=hβ'
     refine⟨by simp;omega,_,cap,rfl,hcap,ht',.inr ⟨_,rfl,hJ _ _ r1,?_⟩⟩
     have:=((g4.1 hp).drop off).take (n*y.sz)
     refine RepCs.keep (fun k hk=>hsub _ k hk) (fun _ _=>rfl) (fun j=>?_) this
     rw[Addr.add_mid,Vb g1,Nat.add_assoc]
theorem B65 {b off n:Nat} {y:Blk} {v:Value} (hb:Ao h b=some y) (hr:Rep J β h w (.own b off n) v):y.mp=false:=by
 rw[Rep] at hr
 obtain⟨x,A,cap,⟨hx1,hmp⟩,_⟩:=hr
 rw[hb] at hx1;simp at hx1;subst hx1;exact hmp
theorem B8u {b off:Nat} {y:Blk} {v:Value} (hb:Ao h b=some y) (hr:Rep J β h w (.optr b off) v):y.mp=false:=by
 rw[Rep] at hr
 obtain⟨x,k,o,⟨hx1,hmp⟩,_⟩:=hr
 rw[hb] at hx1;simp at hx1;subst hx1;exact hmp
theorem Aoa {v v':AV} {ups:Ups} {org:Bool} {vc:Value} (S:SimH J β h w) (hl:LooksS g h) (hh:Aug g v=some (v',ups,org)) (hv:Rep J β h w v vc) :
    ∃ J',Step J β h w J' β (An ups h) w∧RepC (J' org) w v' vc∧LooksS g (An ups h):=by
  unfold Aug at hh
  split at hh
  · rename_i b off n
    obtain⟨x,hx,h1⟩:=ub hh
    obtain⟨hp,h2⟩:=uc h1
    simp at h2
    obtain⟨rfl,rfl,rfl⟩:=h2
    unfold It at hx
    obtain⟨x0,hx0,hx⟩:=ub hx
    obtain⟨hd,hx⟩:=uc' hx
    simp at hx;subst hx
    obtain⟨y,hy,hxy⟩:=hl b _ hx0
    have e1:y.cells=x0.cells:=by have:=congrArg Blk.cells hxy;simpa using this
    have e2:y.sz=x0.sz:=by have:=congrArg Blk.sz hxy;simpa using this
    have e3:y.taint=x0.taint:=by have:=congrArg Blk.taint hxy;simpa using this
    have e4:y.dead=x0.dead:=by have:=congrArg Blk.dead hxy;simpa using this
    have e5:y.pure=x0.pure:=by have:=congrArg Blk.pure hxy;simpa using this
    have A:=Step.shutB S hy (by rw[e4];exact hd) (B65 hy hv)
    refine⟨_,by simp only[An];rw[←hxy];exact A,?_,by simp only[An];exact hl.shutB hx0⟩
    have:=(B20 (J':=fun o k=>J o k∨∃ o',β b=some (k,o')∧(y.taint=true→o=true)) S hy (by rw[e4];exact hd) (by rw[e5];exact hp) hv (fun k o hβ=>.inr ⟨o,hβ,id⟩) (fun o k hj=>.inl hj) false x0.taint).2 (by simp)
    rw[e1,e2,e3] at this
    rw[e3]
    exact this
  all_goals first
    | (simp at hh;done)
    | (simp at hh; obtain ⟨rfl, rfl, rfl⟩ := hh
       refine⟨J,Step.refl S,?_,hl⟩
       first
         | (rw[Rep] at hv;exact hv)
         | skip)
  · cases v
    case imm=>rename_i hi _ _;exact absurd rfl (hi _ _ _ _ _)
    case iptr=>rename_i hi _;exact absurd rfl (hi _ _)
    case pagg=>rename_i hi;exact absurd rfl (hi _ _)
    all_goals first | (rw[Rep] at hv;rw[RepC];exact hv) | simp_all
theorem Qh:∀ {c c':List AV} {ups:Ups} {org:Bool} {cs:List Value} {J:Bool→Nat→Prop} {h:Al},SimH J β h w→LooksS g h→Zh g c=some (c',ups,org)→Reps J β h w c cs →
  ∃ J',Step J β h w J' β (An ups h) w∧RepCs (J' org) w c' (fun j=>cs[j]?) 0∧c'.length=cs.length∧LooksS g (An ups h)
 | [],c',ups,org,cs,J,h,S,hl,hh,hv=>by
  simp[Zh] at hh;obtain⟨rfl,rfl,rfl⟩:=hh
  rw[Reps] at hv;subst hv
  exact⟨J,Step.refl S,by simp[RepCs],rfl,hl⟩
 | v::r,c',ups,org,cs,J,h,S,hl,hh,hv=>by
  rw[Zh] at hh
  obtain⟨⟨v1,u1,o1⟩,hp,h1⟩:=ub hh
  obtain⟨⟨r2,u2,o2⟩,hq,h2⟩:=ub h1
  simp at h2
  obtain⟨rfl,rfl,rfl⟩:=h2
  rw[Reps] at hv
  obtain⟨u,us,rfl,hv1,hv2⟩:=hv
  obtain⟨J1,A,hA,hl1⟩:=Aoa S hl hp hv1
  obtain⟨J2,B,hB,hlen,hl2⟩:=Qh A.sim hl1 hq (Reps.ext A.ext hv2)
  refine⟨J2,by rw[Cc];exact A.trans B (fun _ _ _ _=>Nat.le_refl _),?_,by simp[hlen],by rw[Cc];exact hl2⟩
  have mono:∀ {a b:Bool} (k:Nat),J2 a k→J2 (a||b) k:=fun {a b} k hk=>by
   cases a
   ·cases b
    ·exact hk
    ·exact B.sim.jft k hk
   ·exact hk
  have mono':∀ {a b:Bool} (k:Nat),J2 b k→J2 (a||b) k:=fun {a b} k hk=>by rw[Bool.or_comm];exact mono k hk
  rw[RepCs]
  refine⟨⟨u,by simp,?_⟩,?_⟩
  ·exact RepC.keep (J:=J1 o1) (fun k hk=>mono k (B.ext.jsub _ k hk)) (fun _ _=>rfl) hA
  ·have:=RepCs.keep (J':=J2 (o1||o2)) (w':=w) (fun k hk=>mono' k hk) (fun _ _=>rfl) (rd':=fun j=>us[j]?) (fun _=>rfl) hB
   rw[Cm] at this ⊢
   intro j x hj
   have h3:=this j x hj
   simp only[Nat.zero_add] at h3
   rw[show 1+j=j+1 by omega]
   simpa using h3
theorem Ak2 {v:AV} {c':List AV} {ups:Ups} {org:Bool} {vc:Value} (S:SimH J β h w) (hl:LooksS g h) (hh:Y2 g v=some (c',ups,org)) (hv:Rep J β h w v vc) :
  ∃ J',Step J β h w J' β (An ups h) w∧RepCs (J' org) w c' (fun j=>vc.cells.toList[j]?) 0∧c'.length=vc.cells.toList.length∧LooksS g (An ups h):=by
 unfold Y2 at hh
 split at hh
 ·rename_i c org'
  simp at hh;obtain⟨rfl,rfl,rfl⟩:=hh
  rw[Rep] at hv
  obtain⟨cs,rfl,h1,h2⟩:=hv
  exact⟨J,Step.refl S,h2,by simp[Value.cells,h1],hl⟩
 ·rename_i c
  rw[Rep] at hv
  obtain⟨cs,rfl,h2⟩:=hv
  exact Qh S hl hh h2
 ·rename_i v h1 h2
  obtain⟨J',A,hA,hlen,hl'⟩:=Qh (cs:=[vc]) S hl hh (by rw[Reps];exact⟨vc,[],rfl,hv,by rw[Reps]⟩)
  have h3:vc.oneCell'=true:=by
   have hl1:c'.length=1:=hlen
   cases hc:c' with
   | nil=>simp[hc] at hl1
   | cons x r =>
    obtain⟨u,hu,hr⟩:=hA.at (j:=0) (x:=x) (by simp[hc])
    simp at hu;subst hu
    exact A0i hr
  have h4:vc.cells=#[vc]:=by cases vc<;>simp_all[Value.cells,Value.oneCell']
  rw[h4]
  exact⟨J',A,hA,hlen,hl'⟩
end
end Gx

namespace Gx
open Go
theorem Cs:∀ (ups:Ups) (h:Al) (b:Nat),A9 ups b=false→Ao (An ups h) b=Ao h b
 | [],_,_,_=>rfl
 | (i,some x)::r,h,b,hi=>by
  rw[A9] at hi
  cases hb:Nat.beq i b with
  | true=>rw[hb] at hi;simp at hi
  | false =>
   rw[hb] at hi
   rw[An,Cs r _ b hi,Ag,if_neg (fun e=>Wz hb e.symm)]
 | (i,none)::r,h,b,hi=>by
  rw[A9] at hi
  cases hb:Nat.beq i b with
  | true=>rw[hb] at hi;simp at hi
  | false =>
   rw[hb] at hi
   rw[An,Cs r _ b hi]
   split
   ·rw[Ag,if_neg (fun e=>Wz hb e.symm)]
   ·rfl
theorem Ax4 {c vs:List AV} {off:Nat} (hle:off+vs.length≤c.length) (j:Nat):(Dk c off vs)[j]?=if off≤j∧j<off+vs.length then vs[j - off]? else c[j]?:=by
 unfold Dk
 rw[List.append_assoc,List.getElem?_append]
 simp only[List.length_take,Nat.min_eq_left (show off≤c.length by omega)]
 by_cases h1:j<off
 ·rw[if_pos h1,if_neg (by omega),List.getElem?_take,if_pos h1]
 ·rw[if_neg h1,List.getElem?_append]
  by_cases h2:j - off<vs.length
  ·rw[if_pos h2,if_pos (by omega)]
  ·rw[if_neg h2,if_neg (by omega),List.getElem?_drop];congr 1;omega
theorem Aep {c vs:List AV} {off:Nat} (hle:off+vs.length≤c.length):(Dk c off vs).length=c.length:=by
 unfold Dk;simp;omega
theorem Ain {c vs:List AV} {off:Nat} (hle:off+vs.length≤c.length) (j:Nat):(setCells c off vs)[j]?=if off≤j∧j<off+vs.length then vs[j - off]? else c[j]?:=by
 unfold setCells
 split
 ·rename_i y
  simp at hle
  rw[List.getElem?_set]
  by_cases e:off=j
  ·subst e;simp;omega
  ·rw[if_neg e,if_neg (by simp;omega)]
 ·exact Ax4 hle j
theorem Ot {c vs:List AV} {off:Nat} (hle:off+vs.length≤c.length):(setCells c off vs).length=c.length:=by
 unfold setCells
 split
 ·simp
 ·exact Aep hle
section
variable {R:Type} {r:R} {P:Program} {J J':Bool→Nat→Prop} {β:Cr} {h:Al} {w w':World} {g:Bt}
theorem Qi {v:AV} {vc:Value} (hs:Afg g v=true) (hv:Rep J β h w v vc):vc.oneCell'=true:=by
 cases v<;>simp[Afg] at hs
 case own=>rw[Rep] at hv;obtain⟨x,A,cap,_,rfl,_⟩:=hv;rfl
 case optr=>rw[Rep] at hv;obtain⟨x,k,o,_,rfl,_⟩:=hv;rfl
 case fn=>rw[Rep] at hv;obtain⟨cs,rfl,_⟩:=hv;rfl
 case imm=>rw[Rep,RepC] at hv;obtain⟨_,A,cap,rfl,_⟩:=hv;rfl
 case iptr=>rw[Rep,RepC] at hv;obtain⟨a,rfl,_⟩:=hv;rfl
 all_goals (rw[Rep] at hv;subst hv;rfl)
theorem Aio:∀ {c:List AV},Ph g c=true→∀ (j:Nat) (x:AV),c[j]?=some x→Afg g x=true
 | [],_,j,x,hj=>by simp at hj
 | v::r,hs,j,x,hj=>by
  rw[Ph] at hs;simp at hs
  cases j with
  | zero=>simp at hj;subst hj;exact hs.1
  | succ j=>exact Aio hs.2 j x (by simpa using hj)
theorem Byz {k:Nat} {cs cs':Array Value} {ty:TypeId} {fr:Nat×Nat} (O:OnlyBlk w w' k cs cs' ty fr):∀ j,Bj w j≤Bj w' j:=fun j=>by
 by_cases e:j=k
 ·subst e;rw[Gi O.old,Gi O.new,O.sz];exact Nat.le_refl _
 ·simp[Bj,O.other j e]
theorem Aob {t:TypeId} {k o:Nat} {vc:Value} {cs:Array Value} {ty:TypeId} {fr:Nat×Nat} (hk:w.heap[k]?=some (.cells cs ty fr)) (hf:FrOk cs.size fr)
  (hs:Cl P t=some vc.cells.toList.length) (hle:o+vc.cells.toList.length≤cs.size) (h1:∀ u ∈ vc.cells.toList,u.oneCell'=true) :
  (Instr.storeAt t (.pointer (some ⟨k,o,none⟩)) vc).run P w=.ok () (w.setCells k o vc.cells.toList):=by
 have hst:=run_storeCells_cells (P:=P) k o vc.cells.toList 0 w (fun j hj=>by
   rw[Nat.add_zero,Vb hk];simp;omega)
  (fun j hj=>by
   rw[Nat.add_zero];simp only[World.frozen?,hk]
   have:=hf.at (o+j) (by omega)
   cases fr;simp at this ⊢;omega) h1
 simp only[Nat.add_zero] at hst
 have hsz:=Dg hs w
 simp only[Array.length_toList] at hsz
 simp[Instr.storeAt,Instr.sureAddr,storeVar,hsz,hst]
theorem Br3 {t:TypeId} {p v:AV} {vp vv:Value} {k:AV→Ups→Option R} (S:SimH J β h w) (hl:Looks g h) (hh:A49 P g t p v k=some r) (hp:Rep J β h w p vp) (hv:Rep J β h w v vv) :
  ∃ val ups,k val ups=some r∧∃ J' β' w',(Instr.storeAt t vp vv).run P w=.ok () w'∧Step J β h w J' β' (An ups h) w'∧val=.undef:=by
 unfold A49 at hh
 split at hh
 ·rename_i b off
  obtain⟨x,hx,h1⟩:=ub hh
  obtain⟨n,hn,h2⟩:=ub h1
  obtain⟨hs,h3⟩:=uc' h2
  obtain⟨hb,hd⟩:=Ky hl hx
  have hmpx:=B8u hb hp
  cases hpu:x.pure with
  | true =>
   rw[hpu] at h3
   obtain⟨⟨c',u1,org⟩,hq,h4⟩:=ub h3
   obtain⟨hc,h5⟩:=uc h4
   simp at hc
   obtain⟨hc1,hc2,hc3⟩:=hc
   obtain⟨J1,A,hA,hlen,_⟩:=Ak2 S hl.s hq hv
   have hb1:Ao (An u1 h) b=some x:=by rw[Cs _ _ _ hc3];exact hb
   obtain⟨kk,o,cs,ty,fr,hβ,rfl,hk,hf,hle,hcr,_,_⟩:=Brz A.sim hb1 hd (Rep.ext A.ext hp)
   obtain⟨cs',O,hO⟩:=OnlyBlk.setCells (k:=kk) vv.cells.toList (o+off) w cs hk
   have hlen':off+c'.length≤x.cells.length:=by omega
   have hone:=RepCs.one hA hlen.symm
   have B:=Step.set (x':={ x with pure:=true,cells:=setCells x.cells off c',taint:=x.taint||org }) A.sim hb1 hd hs hβ O hd hs rfl (Ot hlen') (by
    refine⟨fun _=>?_,fun hh=>by simp at hh⟩
    have hold:=hcr.1 hpu
    rw[Cm]
    intro j y hj
    simp only[Ain hlen'] at hj
    simp only[Nat.zero_add]
    have mono:∀ {a b:Bool} (k:Nat),J1 a k→J1 (a||b) k:=fun {a b} k hk=>by
     cases a
     ·cases b
      ·exact hk
      ·exact A.sim.jft k hk
     ·exact hk
    split at hj
    ·rename_i hj'
     obtain⟨u,hu,hr⟩:=hA.at hj
     refine⟨u,?_,RepC.keep (J:=J1 org) (fun k hk=>by rw[Bool.or_comm];exact mono k hk) (fun _ _=>rfl) hr⟩
     rw[hO,if_pos (by omega),←hu];congr 1;omega
    ·rename_i hj'
     obtain⟨u,hu,hr⟩:=hold.at hj
     refine⟨u,?_,RepC.keep (J:=J1 x.taint) (fun k hk=>mono k hk) (fun _ _=>rfl) hr⟩
     rw[hO,if_neg (by omega)];exact hu)
   refine⟨_,_,h5,J1,β,_,Aob hk hf (by rw[←hlen,hc1];exact hn) (by omega) hone,?_,rfl⟩
   rw[Cc]
   exact A.trans (B hmpx) (fun _ k _ _=>Byz O k)
  | false =>
   rw[hpu] at h3
   obtain⟨kk,o,cs,ty,fr,hβ,rfl,hk,hf,hle,hcr,_,_⟩:=Brz S hb hd hp
   have go:∀ (c:List AV) (cells':List AV),(∀ (j:Nat) (y:AV),c[j]?=some y→∃ u,vv.cells.toList[j]?=some u∧Rep J β h w y u∧u.oneCell'=true)→c.length=vv.cells.toList.length→c.length=n→off+c.length≤x.cells.length →
     cells'.length=x.cells.length→(∀ j:Nat,cells'[j]?=if off≤j∧j<off+c.length then c[j - off]? else x.cells[j]?) →
     ∃ J' β' w',(Instr.storeAt t (.pointer (some ⟨kk,o+off,none⟩)) vv).run P w=.ok () w'∧Step J β h w J' β' (An [(b,some { x with pure:=false,cells:=cells' })] h) w':=by
    intro c cells' hc hlen hcn hoff hcl hget'
    obtain⟨cs',O,hO⟩:=OnlyBlk.setCells (k:=kk) vv.cells.toList (o+off) w cs hk
    have B:=Step.set (x':={ x with pure:=false,cells:=cells' }) S hb hd hs hβ O hd hs rfl hcl (by
     refine⟨fun hh=>by simp at hh,fun _ j y hj=>?_⟩
     simp only[hget'] at hj
     split at hj
     ·rename_i hj'
      obtain⟨u,hu,hr,ho⟩:=hc _ _ hj
      refine⟨u,?_,hr,ho⟩
      show cs'[o+j]?=some u
      rw[hO,if_pos (by omega),←hu];congr 1;omega
     ·rename_i hj'
      obtain⟨u,hu,hr⟩:=hcr.2 hpu j y hj
      refine⟨u,?_,hr⟩
      show cs'[o+j]?=some u
      rw[hO,if_neg (by omega)];exact hu)
    refine⟨J,β,_,Aob hk hf (by rw[hn,←hcn,hlen]) (by omega) (fun u hu=>?_),B hmpx⟩
    obtain⟨j,hj,rfl⟩:=List.getElem_of_mem hu
    obtain⟨u',hu',_,ho⟩:=hc j c[j] (List.getElem?_eq_getElem (by omega))
    rw[List.getElem?_eq_getElem hj] at hu';simp only[Option.some.injEq] at hu';rw[hu'];exact ho
   simp only[cond_false] at h3
   split at h3
   ·rename_i c
    obtain⟨hc,h5⟩:=uc h3
    simp at hc
    obtain⟨hc1,hc2,hc3⟩:=hc
    rw[Rep] at hv
    obtain⟨us,rfl,hus⟩:=hv
    rw[Ck] at hus
    obtain⟨J',β',w',g1,g2⟩:=go c (Dk x.cells off c) (fun j y hj=>by
      have hlt:j<us.length:=by rw[hus.1];exact(List.getElem?_eq_some_iff.1 hj).1
      refine⟨us[j],by simp[Value.cells,List.getElem?_eq_getElem hlt],hus.2 j y _ hj (List.getElem?_eq_getElem hlt),Qi (Aio hc1 j y hj) (hus.2 j y _ hj (List.getElem?_eq_getElem hlt))⟩)
     (by simp[Value.cells,hus.1]) hc2 (by omega) (Aep (by omega)) (Ax4 (by omega))
    exact⟨_,_,h5,J',β',w',g1,g2,rfl⟩
   ·rename_i c org
    obtain⟨hc,h5⟩:=uc h3
    simp at hc
    obtain⟨rfl,hc2,hc3⟩:=hc
    rw[Rep] at hv
    obtain⟨us,rfl,hus,hrc⟩:=hv
    obtain⟨cs',O,hO⟩:=OnlyBlk.setCells (k:=kk) us (o+0) w cs hk
    have B:=Step.set (x':={ x with pure:=true,taint:=org,cells:=c }) S hb hd hs hβ O hd hs rfl (by simp;omega) (by
     refine⟨fun _=>?_,fun hh=>by simp at hh⟩
     rw[Cm]
     intro j y hj
     obtain⟨u,hu,hr⟩:=hrc.at hj
     have hlt:j<us.length:=by rw[hus];exact(List.getElem?_eq_some_iff.1 hj).1
     refine⟨u,?_,hr⟩
     show cs'[o+(0+j)]?=some u
     rw[hO,if_pos (by omega),←hu];congr 1;omega)
    exact⟨_,_,h5,J,β,_,Aob (vc:=.agg ⟨us⟩) hk hf (by simp[Value.cells];rw[hus,hc2];exact hn) (by simp[Value.cells];omega) (by simpa[Value.cells] using RepCs.one hrc hus),B hmpx,rfl⟩
   ·rename_i hna
    obtain⟨hc,h5⟩:=uc h3
    simp at hc
    obtain⟨hc1,hc2,hc3⟩:=hc
    have ho:=Qi hc1 hv
    have hcells:vv.cells=#[vv]:=by cases vv<;>simp_all[Value.cells,Value.oneCell']
    obtain⟨J',β',w',g1,g2⟩:=go [v] (x.cells.set off v) (fun j y hj=>by
      cases j with
      | zero=>simp at hj;subst hj;exact⟨vv,by simp[hcells],hv,ho⟩
      | succ j=>simp at hj) (by simp[hcells]) (by simp;omega) (by simp;omega) (by simp) (fun j=>by
      have:=Ain (c:=x.cells) (vs:=[v]) (off:=off) (by simp;omega) j
      simpa[setCells] using this)
    exact⟨_,_,h5,J',β',w',g1,g2,rfl⟩
 ·simp at hh
end
end Gx

namespace Gx
open Go
section
variable {R:Type} {r:R} {P:Program} {J J':Bool→Nat→Prop} {β:Cr} {h:Al} {w w':World} {g:Bt}
theorem Bou {v v':AV} {ups:Ups} {org:Bool} (hh:Aug g v=some (v',ups,org)) (b:Nat) (hb:A9 ups b=true):∃ x,g b=some x:=by
 unfold Aug at hh
 split at hh
 ·rename_i b' off n
  obtain⟨x,hx,h1⟩:=ub hh
  obtain⟨hp,h2⟩:=uc h1
  simp at h2
  obtain⟨rfl,rfl,rfl⟩:=h2
  unfold It at hx
  obtain⟨x0,hx0,hx⟩:=ub hx
  have:b'=b:=by
   cases e:Nat.beq b' b with
   | true=>exact Nat.eq_of_beq_eq_true e
   | false=>simp[A9,e] at hb
  subst this;exact⟨x0,hx0⟩
 all_goals first
  | (simp at hh;done)
  | (simp at hh;obtain⟨rfl,rfl,rfl⟩:=hh;simp[A9] at hb)
theorem Nc:∀ (a b:Ups) (c:Nat),A9 (a++b) c=(A9 a c||A9 b c)
 | [],_,_=>by simp[A9]
 | (i,_)::r,b,c=>by
  rw[List.cons_append,A9,A9,Nc r b c]
  cases Nat.beq i c<;>simp
theorem Zo:∀ {c c':List AV} {ups:Ups} {org:Bool},Zh g c=some (c',ups,org)→∀ b,A9 ups b=true→∃ x,g b=some x
 | [],c',ups,org,hh,b,hb=>by simp[Zh] at hh;obtain⟨rfl,rfl,rfl⟩:=hh;simp[A9] at hb
 | v::r,c',ups,org,hh,b,hb=>by
  rw[Zh] at hh
  obtain⟨⟨v1,u1,o1⟩,hp,h1⟩:=ub hh
  obtain⟨⟨r2,u2,o2⟩,hq,h2⟩:=ub h1
  simp at h2
  obtain⟨rfl,rfl,rfl⟩:=h2
  rw[Nc] at hb
  cases h3:A9 u1 b with
  | true=>exact Bou hp b h3
  | false=>rw[h3] at hb;exact Zo hq b (by simpa using hb)
theorem Bmi {v:AV} {c':List AV} {ups:Ups} {org:Bool} (hh:Y2 g v=some (c',ups,org)) (b:Nat) (hb:A9 ups b=true):∃ x,g b=some x:=by
 unfold Y2 at hh
 split at hh
 ·simp at hh;obtain⟨rfl,rfl,rfl⟩:=hh;simp[A9] at hb
 ·exact Zo hh b hb
 ·exact Zo hh b hb
theorem B21 {ups:Ups} {d:Nat} (hl:Looks g h) (hu:∀ b,A9 ups b=true→∃ x,g b=some x) (hn:Ao h (nid d)=none):Ao (An ups h) (nid d)=none:=by
 rw[Cs]
 ·exact hn
 ·cases hb:A9 ups (nid d) with
  | false=>rfl
  | true =>
   obtain⟨x,hx⟩:=hu _ hb
   rw[hl _ _ hx] at hn;cases hn
def OpDone (J:Bool→Nat→Prop) (β:Cr) (h:Al) (w:World) (ups:Ups) (val:AV) (vc:Value) (w':World):Prop :=
 ∃ J' β',Step J β h w J' β' (An ups h) w'∧Rep J' β' (An ups h) w' val vc
def UpsFree (d:Nat) (h:Al) (ups:Ups):Prop:=∀ b,A9 ups b=true→Ak0 d b=true→Ao h b=none
theorem UpsFree.nid {d:Nat} {h:Al} {ups:Ups} (hf:UpsFree d h ups) (hi:A9 ups (nid d)=true):Ao h (nid d)=none:=hf _ hi (by
 have h1:Nat.ble (Gx.nid d) (Gx.nid d)=true:=by simp
 have h2:Nat.blt (Gx.nid d) (Gx.nid d+16)=true:=by simp
 rw[Ak0,h1,h2];rfl)
theorem A0j {d:Nat} {x:Blk} {cs:Array Value} {ty:TypeId} (S:SimH J β h w) (hn:Ao h (nid d)=none) (hd:x.dead=false) (hs:x.sealed=false) (hlen:x.cells.length≤cs.size) (hc:CellsRep J β h w x (fun j=>cs[j]?)) (hxm:x.mp=false:=by rfl) :
  OpDone J β h w [(nid d,some x)] (.optr (nid d) 0) (.pointer (some ⟨w.heap.size,0,none⟩)) (w.alloc (.cells cs ty)):=by
 have A:=Step.new (ty:=ty) (fr:=(0,0)) S hn hd hs (.inl rfl) hlen hc hxm
 refine⟨_,_,A,?_⟩
 rw[Rep]
 exact⟨x,w.heap.size,0,⟨by simp[An,Ag],hxm⟩,rfl,.inr (by simp)⟩
theorem OpDone.after {ups ups':Ups} {val:AV} {vc:Value} {J1:Bool→Nat→Prop} {β1:Cr} {w1:World} (A:Step J β h w J1 β1 (An ups h) w1) (B:OpDone J1 β1 (An ups h) w1 ups' val vc w')
  (hs:∀ k,Bj w k≤Bj w' k):OpDone J β h w (ups++ups') val vc w':=by
 obtain⟨J2,β2,B1,B2⟩:=B
 exact⟨J2,β2,by rw[Cc];exact A.trans B1 (fun _ k _ _=>hs k),by rw[Cc];exact B2⟩
theorem Sw (w:World) (o:Obj):∀ k,Bj w k≤Bj (w.alloc o) k:=fun k=>by
 by_cases hk:k<w.heap.size
 ·simp[Bj,Dl w _ hk]
 ·simp[Bj,Array.getElem?_eq_none (Nat.le_of_not_lt hk)]
theorem Asm {t:TypeId} {vc:Value}:(Instr.box t vc).run P w=.ok (.pointer (some ⟨w.heap.size,0,none⟩)) (w.alloc (.cells vc.cells t)):=by
 simp[Instr.box,newVar,newRow]
theorem A73 {c:List AV} {org:Bool} {cs:List Value} (hc:RepCs (J org) w c (fun j=>cs[j]?) 0):∀ {L:List (Nat×TypeId)} {acc:List AV} {k:List AV→Option R},A0a P c org L acc k=some r →
  (∀ (j:Nat) x,acc[j]?=some x→∃ u,cs[j]?=some u∧Rep J β h w x u)→∃ l:List AV,k l=some r∧∀ (j:Nat) x,l[j]?=some x→∃ u,cs[j]?=some u∧Rep J β h w x u
 | [],acc,k,hh,ha=>⟨acc,hh,ha⟩
 | (off,t)::L,acc,k,hh,ha=>by
  rw[A0a] at hh
  obtain⟨h0,h1⟩:=uc hh
  simp at h0
  obtain⟨v,h2,h3⟩:=Va (β:=β) (h:=h) h1 (hc.drop off)
  refine A73 hc h2 (fun j x hj=>?_)
  rw[List.getElem?_append] at hj
  split at hj
  ·exact ha j x hj
  ·have hj0:j=acc.length:=by
    have:=(List.getElem?_eq_some_iff.1 hj).1
    simp at this;omega
   subst hj0
   simp at hj;subst hj
   rcases h3 with⟨d,hu,hd,u,h4,h5⟩ | ⟨d,hu,hd,_⟩
   ·refine⟨u,?_,h5⟩
    rw[h0.1] at h4;simpa using h4
   ·exfalso
    have h6:=h0.2
    unfold B61 at h6
    rw[hu] at h6
    split at h6<;>simp_all[TypeDesc.isRow]
theorem Br4 {co:Bool} {t:TypeId} {v:AV} {vv:Value} {k:AV→Option R} (hh:A5b P co t v k=some r) (hv:Rep J β h w v vv):∃ v',k v'=some r∧Rep J β h w v' vv:=by
 unfold A5b at hh
 split at hh
 ·rename_i c org
  rw[Rep] at hv
  obtain⟨cs,rfl,h1,h2⟩:=hv
  obtain⟨l,h3,h4⟩:=A73 (β:=β) (h:=h) h2 hh (fun j x hj=>by simp at hj)
  obtain⟨h5,h6⟩:=uc h3
  simp at h5
  refine⟨_,h6,?_⟩
  rw[Rep]
  refine⟨cs,rfl,Ck.2 ⟨by omega,fun j x u hx hu=>?_⟩⟩
  obtain⟨u',hu',hr⟩:=h4 j x hx
  rw[hu] at hu';simp at hu';subst hu';exact hr
 ·exact⟨_,hh,hv⟩
theorem Bd6 {d:Nat} {t:TypeId} {v:AV} {vv:Value} {k:AV→Ups→Option R} (S:SimH J β h w) (hl:Looks g h) (hh:Bu9 P g d t v k=some r) (hv:Rep J β h w v vv) :
  ∃ val ups,k val ups=some r∧(UpsFree d h ups→∃ vc w',(Instr.box t vv).run P w=.ok vc w'∧OpDone J β h w ups val vc w'):=by
 unfold Bu9 at hh
 split at hh
 ·rename_i c org
  refine⟨_,_,hh,fun hn=>⟨_,_,Asm,?_⟩⟩
  replace hn:=hn.nid (by simp[Nv,A9])
  rw[Rep] at hv
  obtain⟨cs,rfl,h1,h2⟩:=hv
  exact A0j S hn rfl rfl (by simp[Value.cells,h1]) ⟨fun _=>by simpa[Value.cells] using h2,fun hp=>by simp at hp⟩
 ·rename_i c
  cases hp:B2r P t with
  | true =>
   rw[hp] at hh
   obtain⟨hst,hh⟩:=uc hh
   refine⟨_,_,hh,fun hn=>⟨_,_,Asm,?_⟩⟩
   replace hn:=hn.nid (by simp[Nv,A9])
   rw[Rep] at hv
   obtain⟨cs,rfl,h2⟩:=hv
   rw[Ck] at h2
   refine A0j S hn rfl rfl (by simp[Value.cells,h2.1]) ⟨fun hp=>by simp at hp,fun _ j y hj=>?_⟩
   have hlt:j<cs.length:=by rw[h2.1];exact(List.getElem?_eq_some_iff.1 hj).1
   exact⟨cs[j],by simp[Value.cells,hlt],h2.2 j y _ hj (List.getElem?_eq_getElem hlt),Qi (Aio hst j y hj) (h2.2 j y _ hj (List.getElem?_eq_getElem hlt))⟩
  | false =>
   rw[hp] at hh
   obtain⟨⟨c',u1,o1⟩,hq,h1⟩:=ub hh
   refine⟨_,_,h1,fun hn=>⟨_,_,Asm,?_⟩⟩
   replace hn:=hn.nid (by simp[Nc,Nv,A9])
   rw[Rep] at hv
   obtain⟨cs,rfl,h2⟩:=hv
   obtain⟨J1,A,hA,hlen,_⟩:=Qh S hl.s hq h2
   refine OpDone.after A (A0j A.sim (B21 hl (Zo hq) hn) rfl rfl (by simp[Value.cells,hlen]) ⟨fun _=>?_,fun hp=>by simp at hp⟩) (Sw _ _)
   simpa[Value.cells] using hA
 ·rename_i v h1 h2
  obtain⟨hst,hh⟩:=uc hh
  refine⟨_,_,hh,fun hn=>⟨_,_,Asm,?_⟩⟩
  replace hn:=hn.nid (by simp[Nv,A9])
  have ho:=Qi hst hv
  have hcells:vv.cells=#[vv]:=by cases vv<;>simp_all[Value.cells,Value.oneCell']
  refine A0j S hn rfl rfl (by simp[hcells]) ⟨fun hp=>by simp at hp,fun _ j y hj=>?_⟩
  cases j with
  | zero=>simp at hj;subst hj;exact⟨vv,by simp[hcells],hv,ho⟩
  | succ j=>simp at hj
end
end Gx

namespace Gx
open Go
theorem Br5 (z:List AV):∀ (l j:Nat),j<l*z.length→(Iu l z)[j]?=z[j%z.length]?:=by
 have flat:∀ (l j:Nat),j<l*z.length→((List.replicate l z).flatten)[j]?=z[j%z.length]?:=by
  intro l
  induction l with
  | zero=>intro j hj;simp at hj
  | succ l ih =>
   intro j hj
   rw[List.replicate_succ,List.flatten_cons,List.getElem?_append]
   by_cases hlt:j<z.length
   ·rw[if_pos hlt,Nat.mod_eq_of_lt hlt]
   ·rw[if_neg hlt,ih _ (by rw[Nat.succ_mul] at hj;omega)]
    rw[Nat.mod_eq_sub_mod (a:=j) (by omega)]
 intro l j hj
 unfold Iu
 split
 ·rename_i v
  simp at hj
  simp[hj,Nat.mod_one]
 ·exact flat l j hj
theorem Hg (l:Nat) (z:List AV):(Iu l z).length=l*z.length:=by
 unfold Iu
 split
 ·simp
 ·simp
section
variable {R:Type} {r:R} {P:Program} {J J':Bool→Nat→Prop} {β:Cr} {h:Al} {w w':World} {g:Bt}
theorem Ax5 {J:Nat→Prop}:∀ {cs:List Value},Bb (N5 cs)=true→∀ (j:Nat) (u:Value),cs[j]?=some u→∃ x,(N5 cs)[j]?=some x∧RepC J w x u
 | [],_,j,u,hj=>by simp at hj
 | v::r,hp,j,u,hj=>by
  have key:∃ x,ofV v=x∧Bb (N5 r)=true∧RepC J w x v:=by
   rw[N5] at hp
   have hr:=Asi (J:=fun _=>J) (β:=fun _=>none) (h:=[]) (w:=w) v
   cases hx:ofV v<;>rw[hx] at hp hr<;>simp[Bb] at hp<;>refine⟨_,rfl,hp,?_⟩<;>(rw[Rep] at hr;rw[RepC];exact hr)
  obtain⟨x,hx,hp',hr⟩:=key
  cases j with
  | zero=>simp at hj;subst hj;exact⟨x,by simp[N5,hx],hr⟩
  | succ j =>
   obtain⟨y,h1,h2⟩:=Ax5 (J:=J) (cs:=r) hp' j u (by simpa using hj)
   exact⟨y,by simpa[N5] using h1,h2⟩
theorem Ab6:∀ cs:List Value,(N5 cs).length=cs.length
 | []=>rfl
 | v::r=>by simp[N5,Ab6 r]
theorem Zp {t:TypeId} {z:List AV} (hz:A7s P t=some z):∃ i v,P.info? t=some i∧i.zero=some v∧z=N5 v.cells.toList∧Bb z=true∧v.cells.size=i.size∧z.length=i.size:=by
 unfold A7s at hz
 obtain⟨i,hi,h1⟩:=ub hz
 obtain⟨v,hv,h2⟩:=ub h1
 obtain⟨hc,h3⟩:=uc h2
 simp at h3 hc
 subst h3
 exact⟨i,v,hi,hv,rfl,hc.1,by simpa using hc.2,by rw[Ab6];simpa using hc.2⟩
theorem Ax6 {J:Nat→Prop} {v:Value} (hp:Bb (N5 v.cells.toList)=true) (l n:Nat) (hl:l*v.cells.size≤n) :
  RepCs J w (Iu l (N5 v.cells.toList)) (fun j=>(madeCells v.cells n)[j]?) 0:=by
 rw[Cm]
 intro j x hj
 have hlen:(N5 v.cells.toList).length=v.cells.size:=by rw[Ab6];simp
 have hlt:j<l*(N5 v.cells.toList).length:=by
  have:=(List.getElem?_eq_some_iff.1 hj).1
  rwa [Hg] at this
 rw[Br5 _ _ _ hlt] at hj
 rw[hlen] at hj hlt
 have hpos:0<v.cells.size:=by
  rcases Nat.eq_zero_or_pos v.cells.size with h0 | h0
  ·rw[h0] at hlt;simp at hlt
  ·exact h0
 have hm:j%v.cells.size<v.cells.size:=Nat.mod_lt _ hpos
 obtain⟨y,h1,h2⟩:=Ax5 (w:=w) (J:=J) hp (j%v.cells.size) v.cells[j%v.cells.size] (by simp[hm])
 rw[hj] at h1;simp at h1;subst h1
 refine⟨_,?_,h2⟩
 have:j<n:=by omega
 simp[madeCells,this,getElem!_pos,hm]
theorem A0k {d n cap sz:Nat} {x:Blk} {cs:Array Value} {ty:TypeId} {fr:Nat×Nat} (S:SimH J β h w) (hn:Ao h (nid d)=none) (hd:x.dead=false) (hs:x.sealed=false) (hz:x.sz=sz)
  (hfr:FrOk cs.size fr) (hlen:x.cells.length=n*sz) (hcap:cap*sz≤cs.size) (hnc:n≤cap) (hc:CellsRep J β h w x (fun j=>cs[j]?)) (hxm:x.mp=false:=by rfl) :
  OpDone J β h w [(nid d,some x)] (.own (nid d) 0 n) (.slice (some ⟨w.heap.size,0,none⟩) n cap) (w.alloc (.cells cs ty fr)):=by
 have hle:n*sz≤cap*sz:=Nat.mul_le_mul_right _ hnc
 have A:=Step.new (ty:=ty) (fr:=fr) S hn hd hs hfr (by omega) hc hxm
 refine⟨_,_,A,?_⟩
 rw[Rep]
 refine⟨x,_,cap,⟨by simp[An,Ag],hxm⟩,rfl,hnc,.inr ⟨w.heap.size,0,rfl,.inr ⟨by simp,?_,by rw[hz,hlen];omega⟩⟩⟩
 have hnew:(w.alloc (.cells cs ty fr)).heap[w.heap.size]?=some (.cells cs ty fr):=by show(w.heap.push _)[_]?=_;simp
 rw[Gi hnew,hz];omega
theorem Bve {d:Nat} {t:TypeId} {l c:AV} {vl vc:Value} {k:AV→Ups→Option R} (S:SimH J β h w) (hh:Bol P d t l c k=some r) (hl:Rep J β h w l vl) (hc:Rep J β h w c vc) :
  ∃ val ups,k val ups=some r∧(UpsFree d h ups→∃ u w',(Instr.makeSlice t vl vc).run P w=.ok u w'∧OpDone J β h w ups val u w'):=by
 unfold Bol at hh
 split at hh
 ·rename_i el l c hu
  obtain⟨sz,hs,h1⟩:=ub hh
  obtain⟨by_,hb,h2⟩:=ub h1
  obtain⟨z,hz,h3⟩:=ub h2
  obtain⟨hq,h4⟩:=uc h3
  simp at hq
  obtain⟨q1,q2,q3,q4⟩:=hq
  rw[Rep] at hl hc;subst hl hc
  obtain⟨i,v,hi,hv,rfl,hp,e1,e2⟩:=Zp hz
  have hs':i.size=sz:=by simp[Cl,hi] at hs;exact hs
  have hb':i.bytes=by_:=by simp[Brn,hi] at hb;exact hb
  have hfr:A9 (Nv d true false sz (Iu l.toNat (N5 v.cells.toList))) (nid d)=true:=by simp[Nv,A9]
  refine⟨_,_,h4,fun hn=>⟨_,_,run_make w t el i v hu hi hv _ _ l c q1 q2 (by rw[hb',Int.mul_comm];omega) (by omega),?_⟩⟩
  refine A0k (sz:=sz) S (hn.nid hfr) rfl rfl rfl (.inl rfl) ?_ (by rw[size_madeCells,hs'];exact Nat.le_refl _) (by omega) ⟨fun _=>?_,fun hp=>by simp at hp⟩
  ·show(Iu l.toNat (N5 v.cells.toList)).length=_
   rw[Hg,e2,hs']
  ·exact Ax6 hp _ _ (by rw[e1];exact Nat.mul_le_mul_right _ (by omega))
 ·simp at hh
theorem Yield.src {sz n:Nat} {tx:TypeId} {vx:Value} {us:List Value} (Y:Yield P w sz vx n us) (ht:Brt P tx=true) (ho:∀ u ∈ us,u.oneCell'=true):Src P sz tx vx n us w:=by
 refine⟨?_,Y.len,?_,?_,Y.length,ho⟩
 ·unfold Brt at ht
  split at ht
  ·rename_i e hu;exact .inl ⟨e,hu⟩
  ·rename_i hu;exact .inr hu
  ·simp at ht
 ·have:=Y.cells w n (fun _=>rfl) (Nat.le_refl _)
  rwa [←Y.length,List.take_length] at this
 ·have:=Y.cells w.drew n (fun _=>rfl) (Nat.le_refl _)
  rwa [←Y.length,List.take_length] at this
theorem Br6 {J:Nat→Prop} {a b:List AV} {us vs:List Value} (ha:RepCs J w a (fun j=>us[j]?) 0) (hb:RepCs J w b (fun j=>vs[j]?) 0) (hl:a.length=us.length) (tail:List Value) :
  RepCs J w (a++b) (fun j=>(us++vs++tail)[j]?) 0:=by
 rw[Cm]
 intro j x hj
 rw[List.getElem?_append] at hj
 simp only[Nat.zero_add]
 by_cases h1:j<a.length
 ·rw[if_pos h1] at hj
  obtain⟨u,hu,hr⟩:=ha.at hj
  refine⟨u,?_,hr⟩
  rw[List.append_assoc,List.getElem?_append,if_pos (by omega)];exact hu
 ·rw[if_neg h1] at hj
  obtain⟨u,hu,hr⟩:=hb.at hj
  refine⟨u,?_,hr⟩
  have hlt:j - a.length<vs.length:=(List.getElem?_eq_some_iff.1 hu).1
  rw[List.append_assoc,List.getElem?_append,if_neg (by omega),List.getElem?_append,if_pos (by omega),←hl];exact hu
theorem Aip (w:World) (k:Nat):Bj w.drew k=Bj w k:=rfl
theorem Bd7 {d sz n1 n2 cap0:Nat} {t tx ty el:TypeId} {i:TypeInfo} {z vx:Value} {A:Option Addr} {olds news:List Value} {c1 c2:List AV} {o:Bool} (S:SimH J β h w) (hn:Ao h (nid d)=none)
  (hu:P.underlying t=some (.slice el)) (hi:P.info? el=some i) (hz:i.zero=some z) (hsz:i.size=sz) (hzs:z.cells.size=sz)
  (hold:∀ w':World,(∀ a,w'.cell? a=w.cell? a)→(Builtin.firstCells sz n1 (.slice A n1 cap0)).run P w'=.ok olds.toArray w') (hol:olds.length=n1*sz)
  (Y:Yield P w sz vx n2 news) (ht:Brt P tx=true) (ho:∀ u ∈ news,u.oneCell'=true)
  (h1:RepCs (J o) w c1 (fun j=>olds[j]?) 0) (h1l:c1.length=olds.length) (h2:RepCs (J o) w c2 (fun j=>news[j]?) 0) (h2l:c2.length=news.length)
  (hg:cap0<n1+n2) (hb1:n1+n2≤140737488355328) (hb2:(n1+n2)*i.bytes≤140737488355328) :
  ∃ u w',(Builtin.append_ #[t,tx] ty #[.slice A n1 cap0,vx]).run P w=.ok u w' ∧
   OpDone J β h w [(nid d,some { dead:=false,sealed:=false,pure:=true,taint:=o,sz:=sz,cells:=c1++c2 })] (.own (nid d) 0 (n1+n2)) u w'∧(∀ k,Bj w k≤Bj w' k):=by
 subst hsz
 have run:=run_append_grow_src (P:=P) w t tx ty el i z hu hi hz A n1 cap0 olds (hold w.drew (fun _=>rfl)) vx n2 news (Y.src ht ho) hg (by omega) (growslice_fits hg hb2)
 have hcap:n1+n2≤grownCap w (n1+n2) cap0 el:=by
  unfold grownCap;simp[Question.cut]
 refine⟨_,_,run,?_,?_⟩
 ·obtain⟨J',β',B1,B2⟩:=A0k (d:=d) (n:=n1+n2) (cap:=grownCap w (n1+n2) cap0 el) (sz:=i.size) (ty:=el) (fr:=(0,0)) (x:={ dead:=false,sealed:=false,pure:=true,taint:=o,sz:=i.size,cells:=c1++c2 })
   (cs:=(olds++news).toArray++Builtin.zeroCells z.cells (grownCap w (n1+n2) cap0 el - (n1+n2))) (Step.drew S).sim hn rfl rfl rfl (.inl rfl)
   (by simp[h1l,h2l,hol,Y.length,Nat.add_mul]) (by
    simp[Builtin.zeroCells,hol,Y.length,hzs]
    rw[←Nat.add_mul,←Nat.add_mul];exact Nat.mul_le_mul_right _ (by omega)) hcap
   ⟨fun _=>by
    have:=Br6 h1 h2 h1l (Builtin.zeroCells z.cells (grownCap w (n1+n2) cap0 el - (n1+n2))).toList
    show RepCs (J o) w.drew (c1++c2) _ 0
    refine RepCs.keep (J:=J o) (w:=w) (w':=w.drew) (fun _ hj=>hj) (fun _ _=>rfl) (fun j=>?_) this
    rw[←Array.getElem?_toList]
    simp,fun hp=>by simp at hp⟩
  exact⟨J',β',(Step.drew S).trans B1 (fun _ k _ _=>by rw[←Aip];exact Sw _ _ k),B2⟩
 ·intro k;rw[←Aip];exact Sw _ _ k
theorem Asn {J:Bool→Nat→Prop} (hj:∀ k,J false k→J true k) (a b:Bool) (k:Nat) (hk:J a k):J (a||b) k:=by
 cases a
 ·cases b
  ·exact hk
  ·exact hj k hk
 ·exact hk
theorem Bd8 {J:Bool→Nat→Prop} (hj:∀ k,J false k→J true k) (a b:Bool) (k:Nat) (hk:J b k):J (a||b) k:=by rw[Bool.or_comm];exact Asn hj b a k hk
theorem Bvf {d sz:Nat} {x:Blk} {A:Option Addr} (S:SimH J β h w) (hn:Ao h (nid d)=none) (hc:x.cells=[]) (hxm:x.mp=false:=by rfl) :
  OpDone J β h w [(nid d,some x)] (.own (nid d) 0 0) (.slice A 0 0) w:=by
 refine⟨_,_,Step.newNone S hn hc hxm,?_⟩
 rw[Rep]
 exact⟨x,A,0,⟨by simp[An,Ag],hxm⟩,rfl,Nat.le_refl _,.inl rfl⟩
theorem Bmj {d:Nat} {t tx ty:TypeId} {s x:AV} {vs vx:Value} {k:AV→Ups→Option R} (S:SimH J β h w) (hl:Looks g h) (hh:Ase P g d t tx s x k=some r) (hs:Rep J β h w s vs) (hx:Rep J β h w x vx) :
  ∃ val ups,k val ups=some r∧(UpsFree d h ups→∃ u w',(Builtin.append_ #[t,tx] ty #[vs,vx]).run P w=.ok u w'∧OpDone J β h w ups val u w'):=by
 unfold Ase at hh
 split at hh
 ·rename_i el hu
  obtain⟨ht,h0⟩:=uc hh
  obtain⟨sz,hsz,h1⟩:=ub h0
  obtain⟨by_,hby,h2⟩:=ub h1
  obtain⟨zz,hz,h3⟩:=ub h2
  obtain⟨old,hold,h4⟩:=ub h3
  obtain⟨new,us,h5,Y,hul,hur⟩:=Aim (P:=P) S hl h4 hx
  obtain⟨hq,h6⟩:=uc h5
  simp at hq
  obtain⟨q1,q2⟩:=hq
  obtain⟨i,z,hi,hiz,rfl,hp,e1,e2⟩:=Zp hz
  have hs':i.size=sz:=by simp[Cl,hi] at hsz;exact hsz
  have hb':i.bytes=by_:=by simp[Brn,hi] at hby;exact hby
  have hone:=RepCs.one hur hul.symm
  have hur':RepCs (J (old.2.2.1||new.2.2)) w new.1 (fun j=>us[j]?) 0:=RepCs.keep (J:=J new.2.2) (w:=w) (Bd8 S.jft _ _) (fun _ _=>rfl) (fun _=>rfl) hur
  refine⟨_,_,h6,fun hn=>?_⟩
  replace hn:=hn.nid (by simp[Nc,Nv,A9])
  have empty:∀ (A:Option Addr),vs=.slice A 0 0→old.1=[]→old.2.1=0→old.2.2.2=[] →
    ∃ u w',(Builtin.append_ #[t,tx] ty #[vs,vx]).run P w=.ok u w'∧OpDone J β h w (old.2.2.2++Nv d true (old.2.2.1||new.2.2) sz (old.1++new.1)) (.own (nid d) 0 (old.2.1+new.2.1)) u w':=by
   intro A hA o1 o2 o3
   subst hA
   rw[o1,o2,o3]
   rcases Nat.eq_zero_or_pos new.2.1 with h0 | h0
   ·have hus:us=[]:=by have:=Y.length;rw[h0] at this;simpa using this
    subst hus
    have hsrc:=Y.src ht hone
    rw[h0] at hsrc
    refine⟨_,_,run_append_nothing (P:=P) w t tx ty el i hu hi A 0 0 (Nat.le_refl _) vx (by rw[hs'];exact hsrc),?_⟩
    rw[h0]
    have hnc:new.1=[]:=by simpa using hul
    exact Bvf (sz:=sz) S hn (by simp[hnc])
   ·obtain⟨u,w',g1,g2,_⟩:=Bd7 (ty:=ty) (c1:=[]) (olds:=[]) (n1:=0) (cap0:=0) (A:=A) S hn hu hi hiz hs' (by rw[e1,hs']) (fun w' _=>by
      cases A with
      | none=>exact run_firstCells_none (P:=P) w' sz 0 0 0
      | some a=>exact run_firstCells_some (P:=P) w' sz 0 a 0 0 [] (by simp) (fun j v hv=>by simp at hv)) (by simp) Y ht hone (by simp[RepCs]) rfl hur' hul (by omega) (by rw[o2] at q1;omega) (by rw[o2,←hb'] at q2;exact q2)
    exact⟨u,w',g1,g2⟩
  unfold B2u at hold
  split at hold
  ·simp at hold;subst hold
   rw[Rep] at hs
   exact empty none hs rfl rfl rfl
  ·rename_i c n sz' org
   obtain⟨hz0,h7⟩:=uc hold
   simp at hz0 h7;subst hz0;subst h7
   rw[Rep,RepC] at hs
   obtain⟨_,A,cap,hv,_,hcap,_⟩:=hs
   have:=hcap rfl;subst this
   exact empty A hv rfl rfl rfl
  ·rename_i b off n
   obtain⟨y,hy,h7⟩:=ub hold
   obtain⟨hc,h8⟩:=uc h7
   simp at hc h8
   obtain⟨c1,c2,c3⟩:=hc
   subst h8;subst c3
   obtain⟨hb,hd⟩:=Ky hl hy
   simp only at *
   rw[Rep] at hs
   obtain⟨y',A,cap,⟨hy1,hmp⟩,rfl,hcap,hr⟩:=hs
   rw[hb] at hy1;simp at hy1;subst hy1
   have kill:=Step.kill (y:={ y with dead:=true,pure:=true,cells:=[] }) S hb rfl
   have hkn:Ao (Fx h b { y with dead:=true,pure:=true,cells:=[] }) (nid d)=none:=by
    rw[Ag,if_neg (fun e=>by rw[←e,hn] at hb;cases hb)];exact hn
   have hap:An [(b,none)] h=Fx h b { y with dead:=true,pure:=true,cells:=[] }:=by simp[An,hb]
   by_cases hc0:cap=0
   ·have hn0:n=0:=by omega
    subst hc0;subst hn0
    have S':=kill.sim
    rcases Nat.eq_zero_or_pos new.2.1 with h0 | h0
    ·have hus:us=[]:=by have:=Y.length;rw[h0] at this;simpa using this
     subst hus
     have hsrc:=Y.src ht hone
     rw[h0] at hsrc
     refine⟨_,_,run_append_nothing (P:=P) w t tx ty el i hu hi A 0 0 (Nat.le_refl _) vx (by rw[hs'];exact hsrc),?_⟩
     rw[h0]
     have hnc:new.1=[]:=by simpa using hul
     refine OpDone.after (ups:=[(b,none)]) (by rw[hap];exact kill) ?_ (fun _=>Nat.le_refl _)
     rw[hap]
     exact Bvf (sz:=y.sz) S' hkn (by simp[hnc])
    ·obtain⟨u,w',g1,g2,g3⟩:=Bd7 (ty:=ty) (c1:=[]) (olds:=[]) (n1:=0) (cap0:=0) (A:=A) S' hkn hu hi hiz hs' (by rw[e1,hs']) (fun w' _=>by
       cases A with
       | none=>exact run_firstCells_none (P:=P) w' y.sz 0 0 0
       | some a=>exact run_firstCells_some (P:=P) w' y.sz 0 a 0 0 [] (by simp) (fun j v hv=>by simp at hv)) (by simp) Y ht hone (by simp[RepCs]) rfl hur' hul (by omega) (by omega) (by rw[←hb'] at q2;exact q2)
     refine⟨u,w',g1,OpDone.after (ups:=[(b,none)]) (by rw[hap];exact kill) ?_ g3⟩
     rw[hap];simpa[Nv] using g2
   ·rcases hr with hr | ⟨kk,o,rfl,hr⟩
    ·exact absurd hr hc0
    ·rcases hr with hr | ⟨r1,r2,r3⟩
     ·simp[hd] at hr
     ·rcases S.blk b y hb hd hmp with⟨hn',_⟩ | ⟨k',o',cs,ty',fr,hβ',g1,g2,g3,g4,g5,g6⟩
      ·rw[r1] at hn';simp at hn'
      ·rw[r1] at hβ';simp at hβ';obtain⟨rfl,rfl⟩:=hβ'
       have hbs:=Gi g1
       have hpure:=((g4.1 c1).drop off).take (n*y.sz)
       have hpl:((y.cells.drop off).take (n*y.sz)).length=n*y.sz:=by simp;omega
       by_cases hroom:n+new.2.1≤cap
       ·
        have hle:(n+new.2.1)*y.sz≤cap*y.sz:=Nat.mul_le_mul_right _ hroom
        rw[Nat.add_mul] at hle
        have run:=run_append_room_src (P:=P) w t tx ty el i hu hi kk (o+off) n cap vx new.2.1 us (by rw[hs'];exact Y.src ht hone) hroom (fun j hj=>by
          rw[hs',Vb g1];have:=Y.length;simp;omega) (fun j hj=>by
          rw[hs'];simp only[World.frozen?,g1]
          have h9:=Y.length
          have:=g2.at (o+off+n*y.sz+j) (by omega)
          cases fr;simp at this ⊢;omega)
        rw[hs'] at run
        obtain⟨cs',O,hO⟩:=OnlyBlk.setCells (k:=kk) us (o+off+n*y.sz) w cs g1
        have h9:=Y.length
        have B:=Step.move (y:={ y with dead:=true,pure:=true,cells:=[] }) (o':=o+off) (x':={ dead:=false,sealed:=false,pure:=true,taint:=y.taint||new.2.2,sz:=y.sz,cells:=(y.cells.drop off).take (n*y.sz)++new.1 }) S hb hd c2 r1 hn rfl O rfl rfl
         (by rw[List.length_append,hpl,hul];omega) ⟨fun _=>by
          show RepCs (J (y.taint||new.2.2)) w ((y.cells.drop off).take (n*y.sz)++new.1) _ 0
          rw[Cm]
          intro j q hj
          rw[List.getElem?_append,hpl] at hj
          simp only[Nat.zero_add]
          by_cases hjn:j<n*y.sz
          ·rw[if_pos hjn] at hj
           obtain⟨v,hv,hvr⟩:=hpure.at hj
           refine⟨v,?_,RepC.keep (J:=J y.taint) (w:=w) (Asn S.jft _ _) (fun _ _=>rfl) hvr⟩
           rw[hO,if_neg (by omega),Nat.add_assoc];exact hv
          ·rw[if_neg hjn] at hj
           obtain⟨v,hv,hvr⟩:=hur'.at hj
           refine⟨v,?_,hvr⟩
           have:j - n*y.sz<us.length:=(List.getElem?_eq_some_iff.1 hv).1
           rw[hO,if_pos (by omega),←hv];congr 1;omega,fun hp=>by simp at hp⟩ hmp
        refine⟨_,_,run,J,(fun b=>if b=nid d then some (kk,o+off) else β b),?_,?_⟩
        ·rw[Cc,hap];exact B
        ·rw[Cc,hap,Rep]
         refine⟨_,_,cap,⟨by simp[Nv,An,Ag];rfl,rfl⟩,rfl,hroom,.inr ⟨kk,o+off,rfl,.inr ⟨by simp,?_,?_⟩⟩⟩
         ·rw[Gi O.new,O.sz];simp;omega
         ·simp only[List.length_append,hpl,hul,h9,Nat.zero_add];rw[Nat.add_mul];exact Nat.le_refl _
       ·
        obtain⟨olds,l1,l2,l3⟩:=hpure.list
        obtain⟨u,w',g1',g2',g3'⟩:=Bd7 (ty:=ty) (c1:=(y.cells.drop off).take (n*y.sz)) (olds:=olds) (n1:=n) (cap0:=cap) (A:=some ⟨kk,o+off,none⟩) kill.sim hkn hu hi hiz hs' (by rw[e1,hs']) (fun w' he =>
          run_firstCells_some (P:=P) w' y.sz n _ n cap olds (by rw[l1,hpl]) (fun j v hv=>by
           rw[he,Addr.add_mid,Vb g1,Nat.add_assoc];exact l2 j v hv)) (by rw[l1,hpl]) Y ht hone
          (RepCs.keep (J:=J y.taint) (w:=w) (Asn S.jft _ _) (fun _ _=>rfl) (fun _=>rfl) l3) l1.symm hur' hul (by omega) (by omega) (by rw[←hb'] at q2;exact q2)
        refine⟨u,w',g1',OpDone.after (ups:=[(b,none)]) (by rw[hap];exact kill) ?_ g3'⟩
        rw[hap];exact g2'
  ·simp at hold
 ·simp at hh
end
end Gx

namespace Gx
open Go
section
variable {R:Type} {r:R} {P:Program} {J J':Bool→Nat→Prop} {β:Cr} {h:Al} {w w':World} {g:Bt}
theorem Step.retaint (S:SimH J β h w) {d:Nat} {x:Blk} (hx:Ao h d=some x) (hd:x.dead=false) (hs:x.sealed=false) (hp:x.pure=true) (hxm:x.mp=false) (o:Bool) :
  Step J β h w J β (Fx h d { x with taint:=x.taint||o }) w:=by
 have E:Ext J β h w J β (Fx h d { x with taint:=x.taint||o }) w:=by
  refine⟨fun _ _ hj=>hj,fun o k hj=>rfl,fun b z hb=>?_,fun b k o hβ=>Nat.le_refl _⟩
  by_cases e:b=d
  ·subst e;rw[hx] at hb;simp at hb;subst hb
   exact⟨{ x with taint:=x.taint||o },⟨by rw[Ag,if_pos rfl],rfl⟩,.inr ⟨hd,rfl,rfl,fun _=>rfl⟩⟩
  ·refine⟨z,⟨by rw[Ag,if_neg e];exact hb,rfl⟩,?_⟩
   cases hd:z.dead
   ·exact .inr ⟨rfl,rfl,rfl,fun _=>rfl⟩
   ·exact .inl rfl
 refine⟨E,⟨S.jlt,S.jft,fun b z hb hdz hm=>?_,fun b z hb hdz hm=>by
   rw[Ag] at hb
   by_cases e:b=d
   ·rw[if_pos e] at hb;simp at hb;subst hb;simp[hxm] at hm
   ·rw[if_neg e] at hb
    exact(S.mblk b z hb hdz hm).keep rfl (fun k o hβ=>rfl) (fun _ _ _ _ hj=>hj),?_⟩,rfl,rfl,rfl,Nat.le_refl _,fun k hk _=>rfl,?_,fun _ _ hj=>.inl hj⟩
 ·rw[Ag] at hb
  by_cases e:b=d
  ·rw[if_pos e] at hb;simp at hb;subst hb;subst e
   rcases S.blk b x hx hd hxm with h1 | ⟨k,o',cs',ty',fr',h1,h2,h3,h4,h5,h6,h7⟩
   ·exact .inl h1
   ·refine .inr ⟨k,o',cs',ty',fr',h1,h2,h3,h4,CellsRep.ext E ⟨fun _=>?_,fun hh=>?_⟩,fun _=>h6 hs,fun hh=>by simp[hs] at hh⟩
    ·exact RepCs.keep (J:=J x.taint) (w:=w) (Asn S.jft _ _) (fun _ _=>rfl) (fun _=>rfl) (h5.1 hp)
    ·simp[hp] at hh
  ·rw[if_neg e] at hb
   rcases S.blk b z hb hdz hm with h1 | ⟨k,o,cs',ty',fr',h1,h2,h3,h4,h5,h6,h7⟩
   ·exact .inl h1
   ·exact .inr ⟨k,o,cs',ty',fr',h1,h2,h3,h4,h5.ext E,h6,h7⟩
 ·intro b b' z z' k oo oo' hb hb' hd1 hd2 hs1 hβ hβ'
  have get:∀ {c y},Ao (Fx h d { x with taint:=x.taint||o }) c=some y→y.dead=false→∃ y',Ao h c=some y'∧y'.dead=false∧(y.sealed=false→y'.sealed=false):=by
   intro c y hc hyd
   rw[Ag] at hc
   by_cases e:c=d
   ·subst e;exact⟨x,hx,hd,fun _=>hs⟩
   ·rw[if_neg e] at hc;exact⟨y,hc,hyd,id⟩
  obtain⟨y1,g1,g2,g3⟩:=get hb hd1
  obtain⟨y2,g4,g5,g6⟩:=get hb' hd2
  exact S.sep b b' y1 y2 k oo oo' g1 g4 g2 g5 (g3 hs1) hβ hβ'
 ·rintro k ⟨b,z,o,hb,hdz,hs1,hβ⟩ hk
  rw[Ag] at hb
  by_cases e:b=d
  ·subst e;exact⟨b,x,o,hx,hd,hs,hβ⟩
  ·rw[if_neg e] at hb
   exact⟨b,z,o,hb,hdz,hs1,hβ⟩
theorem By0 (c:List AV) (off:Nat):Dk c off []=c:=by simp[Dk]
theorem Bvg {t tx ty:TypeId} {s x:AV} {vs vx:Value} {k:AV→Ups→Option R} (S:SimH J β h w) (hl:Looks g h) (hh:Bom P g t s x k=some r) (hs:Rep J β h w s vs) (hx:Rep J β h w x vx) :
  ∃ val ups,k val ups=some r∧∃ u w',(Builtin.copy_ #[t,tx] ty #[vs,vx]).run P w=.ok u w'∧OpDone J β h w ups val u w':=by
 unfold Bom at hh
 split at hh
 ·rename_i el b off n hu
  obtain⟨sz,hsz,h1⟩:=ub hh
  obtain⟨y,hy,h2⟩:=ub h1
  obtain⟨new,us,h3,Y,hul,hur⟩:=Aim (P:=P) S hl h2 hx
  obtain⟨hc,h4⟩:=uc h3
  simp at hc
  obtain⟨c1,c2,c3⟩:=hc
  subst c3
  obtain⟨hb,hd⟩:=Ky hl hy
  have hone:=RepCs.one hur hul.symm
  refine⟨_,_,h4,?_⟩
  rw[Rep] at hs
  obtain⟨y',A,cap,⟨hy1,hmp⟩,rfl,hcap,hr⟩:=hs
  rw[hb] at hy1;simp at hy1;subst hy1
  have hm:Nat.min new.2.1 n≤new.2.1:=Nat.min_le_left _ _
  have hcells:=Y.cells w (Nat.min new.2.1 n) (fun _=>rfl) hm
  have hlen:=Y.len w
  by_cases hn0:Nat.min new.2.1 n*y.sz=0
  ·
   refine⟨.int .i64 (Nat.min new.2.1 n:Nat),w,?_,J,β,?_,by rw[Rep]⟩
   ·have e:us.take (Nat.min new.2.1 n*y.sz)=[]:=by rw[hn0];rfl
    rw[e] at hcells
    cases A with
    | none=>simp[Builtin.copy_,run_underlying hu,hlen,Dg hsz,hcells,goInt]
    | some a=>simp[Builtin.copy_,run_underlying hu,hlen,Dg hsz,hcells,goInt,storeCells]
   ·have e:(new.1.take (min new.2.1 n*y.sz))=[]:=by
     have:min new.2.1 n*y.sz=0:=hn0
     rw[this];rfl
    have T:=Step.retaint S hb hd c2 c1 hmp new.2.2
    simp only[An]
    rw[e,By0]
    exact T
  ·rcases hr with hr | ⟨kk,o,rfl,hr⟩
   ·have:n=0:=by omega
    subst this;simp at hn0
   ·rcases hr with hr | ⟨r1,r2,r3⟩
    ·simp[hd] at hr
    ·rcases S.blk b y hb hd hmp with⟨hn',_⟩ | ⟨k',o',cs,ty',fr,hβ',g1,g2,g3,g4,g5,g6⟩
     ·rw[r1] at hn';simp at hn'
     ·rw[r1] at hβ';simp at hβ';obtain⟨rfl,rfl⟩:=hβ'
      have hle1:Nat.min new.2.1 n*y.sz≤new.2.1*y.sz:=Nat.mul_le_mul_right _ hm
      have hle2:Nat.min new.2.1 n*y.sz≤n*y.sz:=Nat.mul_le_mul_right _ (Nat.min_le_right _ _)
      have hul':=Y.length
      have htl:(us.take (Nat.min new.2.1 n*y.sz)).length=Nat.min new.2.1 n*y.sz:=by rw[List.length_take];omega
      have htl':(new.1.take (Nat.min new.2.1 n*y.sz)).length=Nat.min new.2.1 n*y.sz:=by rw[List.length_take];omega
      obtain⟨cs',O,hO⟩:=OnlyBlk.setCells (k:=kk) (us.take (Nat.min new.2.1 n*y.sz)) (o+off) w cs g1
      have hst:=run_storeCells_cells (P:=P) kk (o+off) (us.take (Nat.min new.2.1 n*y.sz)) 0 w (fun j hj=>by
        rw[Nat.add_zero,Vb g1];simp;omega)
       (fun j hj=>by
        rw[Nat.add_zero];simp only[World.frozen?,g1]
        have:=g2.at (o+off+j) (by omega)
        cases fr;simp at this ⊢;omega) (fun u hu=>hone u (List.mem_of_mem_take hu))
      simp only[Nat.add_zero] at hst
      have B:=Step.set (x':={ y with cells:=Dk y.cells off (new.1.take (Nat.min new.2.1 n*y.sz)),taint:=y.taint||new.2.2 }) S hb hd c2 r1 O hd c2 rfl (Aep (by omega)) ⟨fun _=>by
       show RepCs (J (y.taint||new.2.2)) w (Dk y.cells off (new.1.take (Nat.min new.2.1 n*y.sz))) _ 0
       rw[Cm]
       intro j q hj
       rw[Ax4 (by omega),htl'] at hj
       simp only[Nat.zero_add]
       split at hj
       ·obtain⟨u,hu',hr⟩:=(hur.take _).at hj
        refine⟨u,?_,RepC.keep (J:=J new.2.2) (w:=w) (Bd8 S.jft _ _) (fun _ _=>rfl) hr⟩
        rw[hO,if_pos (by omega),List.getElem?_take,if_pos (by omega),←hu'];congr 1;omega
       ·obtain⟨u,hu',hr⟩:=(g4.1 c1).at hj
        refine⟨u,?_,RepC.keep (J:=J y.taint) (w:=w) (Asn S.jft _ _) (fun _ _=>rfl) hr⟩
        rw[hO,if_neg (by omega)];exact hu',fun hp=>by simp[c1] at hp⟩ hmp
      refine⟨.int .i64 (Nat.min new.2.1 n:Nat),_,?_,J,β,B,by rw[Rep]⟩
      simp[Builtin.copy_,run_underlying hu,hlen,Dg hsz,hcells,goInt,hst]
 ·rename_i el hu
  obtain⟨sz,hsz,h1⟩:=ub hh
  obtain⟨new,us,h2,Y,hul,hur⟩:=Aim (P:=P) S hl h1 hx
  rw[Rep] at hs;subst hs
  have hlen:=Y.len w
  have hcells:=Y.cells w 0 (fun _=>rfl) (Nat.zero_le _)
  simp at hcells
  refine⟨_,_,h2,.int .i64 0,w,?_,J,β,Step.refl S,by rw[Rep]⟩
  have hm:∀ m:Nat,Nat.min m 0=0:=fun m=>Nat.min_eq_right (Nat.zero_le _)
  simp[Builtin.copy_,run_underlying hu,hlen,Dg hsz,hm,hcells,goInt]
 ·simp at hh
theorem Aum:∀ {c:List AV} {s:List UInt8} {us:List Value} {J:Nat→Prop},Az6 c=some s→RepCs J w c (fun j=>us[j]?) 0→c.length=us.length →
  ∃ ns:List Int,us=ns.map (Value.int .u8)∧s=ns.map (fun n=>UInt8.ofNat n.toNat)
 | [],s,us,J,hb,hc,hl=>by
  simp[Az6] at hb;subst hb
  have:us=[]:=by cases us<;>simp_all
  exact⟨[],by simp[this],rfl⟩
 | x::r,s,us,J,hb,hc,hl=>by
  rw[Az6] at hb
  obtain⟨b,hb1,h1⟩:=ub hb
  obtain⟨l,hl1,h2⟩:=ub h1
  simp at h2;subst h2
  cases us with
  | nil=>simp at hl
  | cons u us =>
   rw[RepCs] at hc
   obtain⟨⟨u',hu',hr⟩,hrest⟩:=hc
   simp at hu';subst hu'
   unfold B6x at hb1
   split at hb1
   ·rename_i n
    simp at hb1;subst hb1
    rw[RepC] at hr;subst hr
    have hrest':RepCs J w r (fun j=>us[j]?) 0:=by
     rw[Cm] at hrest ⊢
     intro j y hj
     obtain⟨v,hv,hvr⟩:=hrest j y hj
     refine⟨v,?_,hvr⟩
     rw[show 0+1+j=j+1 by omega] at hv
     simpa using hv
    obtain⟨ns,h3,h4⟩:=Aum hl1 hrest' (by simpa using hl)
    exact⟨n::ns,by simp[h3],by simp[h4]⟩
   ·simp at hb1
theorem B66:∀ (ns:List Int) (s:List UInt8),(ns.foldl (fun r n=>r.push (UInt8.ofNat n.toNat)) (⟨⟨s⟩⟩:ByteArray))=⟨⟨s++ns.map fun n=>UInt8.ofNat n.toNat⟩⟩
 | [],s=>by simp
 | n::r,s=>by
  rw[List.foldl_cons]
  have:(⟨⟨s⟩⟩:ByteArray).push (UInt8.ofNat n.toNat)=⟨⟨s++[UInt8.ofNat n.toNat]⟩⟩:=by
   simp[ByteArray.push]
  rw[this,B66 r];simp
theorem Bvh {d:Nat} {src dst:TypeId} {x:AV} {vx:Value} {k:AV→Ups→Option R} (S:SimH J β h w) (hl:Looks g h) (hh:Bon P g d src dst x k=some r) (hx:Rep J β h w x vx) :
  ∃ val ups,k val ups=some r∧(UpsFree d h ups→∃ u w',(convert src dst vx).run P w=.ok u w'∧OpDone J β h w ups val u w'):=by
 unfold Bon at hh
 split at hh
 ·rename_i kd hu
  split at hh
  ·rename_i kd' n
   rw[Rep] at hx;subst hx
   obtain⟨hsome,h1⟩:=uc hh
   obtain⟨s,hs⟩:=Option.isSome_iff_exists.1 hsome
   refine⟨_,_,h1,fun _=>⟨.int kd (kd.wrap n),w,?_,J,β,Step.refl S,by rw[Rep]⟩⟩
   cases s<;>simp[convert,run_underlying hs,run_underlying hu,Conv.intToInt]
  ·simp at hh
 ·rename_i hu
  split at hh
  ·rename_i hs
   split at hh
   ·rename_i s
    rw[Rep] at hx;subst hx
    refine⟨_,_,hh,fun _=>⟨.string ⟨⟨s⟩⟩,w,?_,J,β,Step.refl S,by rw[Rep]⟩⟩
    simp[convert,run_underlying hs,run_underlying hu]
   ·simp at hh
  ·rename_i el hs
   split at hh
   ·rename_i he
    split at hh
    ·simp at hh
    ·rename_i hns
     obtain⟨q,hq,h1⟩:=ub hh
     obtain⟨s,hs',h2⟩:=ub h1
     obtain⟨us,Y,hul,hur⟩:=A72 (P:=P) S hl hq hx
     obtain⟨ns,e1,e2⟩:=Aum hs' hur hul
     refine⟨_,_,h2,fun _=>⟨.string ⟨⟨s⟩⟩,w,?_,J,β,Step.refl S,by rw[Rep]⟩⟩
     have hv:∃ A n cap,vx=.slice A n cap:=by
      unfold Boj at hq
      split at hq
      ·rw[Rep] at hx;exact⟨_,_,_,hx⟩
      ·rw[Rep,RepC] at hx;obtain⟨_,A,cap,rfl,_⟩:=hx;exact⟨_,_,_,rfl⟩
      ·rw[Rep] at hx;obtain⟨_,A,cap,_,rfl,_⟩:=hx;exact⟨_,_,_,rfl⟩
      ·exact absurd rfl (hns _)
      ·simp at hq
     obtain⟨A,n,cap,rfl⟩:=hv
     have hn:q.2.1=n:=by have:=Y.len w;simpa[Builtin.lenOf] using this.symm
     have hc:=Y.cells w n (fun _=>rfl) (by omega)
     have hyl:=Y.length
     rw[hn] at hyl
     rw[show us.take (n*1)=us by rw[←hyl,List.take_length]] at hc
     have hconv:(convert src dst (.slice A n cap)).run P w=(Conv.bytesToString (.slice A n cap)).run P w:=by
      cases A<;>simp[convert,run_underlying hs,run_underlying hu,run_underlying he]
     rw[hconv]
     cases A with
     | none =>
      rw[run_firstCells_none] at hc
      injection hc with hc1 _
      have hus:us=[]:=by simpa using hc1.symm
      rw[hus] at e1
      have hns':ns=[]:=by simpa using e1.symm
      rw[hns'] at e2
      simp at e2;subst e2
      simp[Conv.bytesToString];rfl
     | some a =>
      simp only[Builtin.firstCells,Nat.mul_one] at hc
      rw[e1] at hc
      rw[run_bytesToString w a n cap ns hc,e2]
      have:=B66 ns []
      simp at this
      rw[←this];rfl
   ·simp at hh
  ·simp at hh
 ·rename_i el hu
  split at hh
  ·rename_i e' b off n hs he
   obtain⟨heq,h1⟩:=uc hh
   simp only[Bool.and_eq_true] at heq
   obtain⟨heq,hn1⟩:=heq
   have hn1:1≤n:=by simpa using hn1
   have heq:=Nat.eq_of_beq_eq_true heq
   subst heq
   have hee:e'=el:=by rw[hs] at hu;simpa using hu
   subst hee
   obtain⟨x,hxb,h2⟩:=ub h1
   obtain⟨hsl,h3⟩:=uc' h2
   obtain⟨hxb,hd⟩:=Ky hl hxb
   refine⟨_,_,h3,fun _=>?_⟩
   have hx':=hx
   rw[Rep] at hx
   obtain⟨x0,A,cap,⟨hx0,hmp⟩,rfl,hle,hr⟩:=hx
   rw[hxb] at hx0;simp at hx0;subst hx0
   rcases hr with hr | ⟨k1,o1,rfl,hr⟩
   ·omega
   ·rcases hr with hr | ⟨hβ,_,_⟩
    ·simp[hd] at hr
    ·rcases S.blk b x hxb hd hmp with⟨h4,_⟩ | ⟨k2,o2,cs,ty,fr,h4,h5,h6,h7,h8,h9,h10⟩
     ·rw[hβ] at h4;simp at h4
     ·rw[hβ] at h4;simp at h4;obtain⟨rfl,rfl⟩:=h4
      have hsh:w.shape? k1=some (ty,cs.size):=by simp[World.shape?,h5]
      have hnew:∃ fr',(w.freeze ⟨k1,cs.size,none⟩ 1).heap[k1]?=some (.cells cs ty fr')∧FrOk cs.size fr':=by
       obtain⟨lo,hi⟩:=fr
       refine⟨if lo==hi then (cs.size,cs.size+1) else (min lo cs.size,max hi (cs.size+1)),?_,?_⟩
       ·simp[World.freeze,Array.getElem?_modify,h5]
       ·by_cases e:lo=hi
        ·simp[e,FrOk]
        ·have h11:cs.size≤lo:=by rcases h6 with h6 | h6;exact absurd h6 e;exact h6
         simp[e,FrOk];omega
      obtain⟨fr',hf1,hf2⟩:=hnew
      have A:=Step.mark S hxb hd hsl hβ h5 hf1 hf2 (fun j hj=>by
       simp only[World.freeze]
       rw[if_neg (by decide)]
       show(w.heap.modify k1 _)[j]?=_
       rw[Array.getElem?_modify,if_neg (fun e=>hj e.symm)]) (by simp[World.freeze]) rfl rfl rfl hmp
      refine⟨_,w.freeze ⟨k1,cs.size,none⟩ 1,?_,J,β,A,Rep.ext A.ext hx'⟩
      simp[convert,run_underlying hs,run_underlying he,markStringish,hsh]
  ·rename_i s hs he
   rw[Rep] at hx;subst hx
   refine⟨_,_,hh,fun hn=>⟨_,_,run_bytes_of_string (P:=P) w src dst el ⟨⟨s⟩⟩ hs hu he,?_⟩⟩
   replace hn:=hn.nid (by simp[Nv,A9])
   have hsz:(⟨⟨s⟩⟩:ByteArray).size=s.length:=rfl
   have hcap:s.length≤grownCap w s.length 0 el:=by unfold grownCap;simp[Question.cut]
   rw[hsz]
   obtain⟨J',β',B1,B2⟩:=A0k (d:=d) (n:=s.length) (cap:=grownCap w s.length 0 el) (sz:=1) (ty:=el) (fr:=((bytesRow ⟨⟨s⟩⟩ (grownCap w s.length 0 el)).size,(bytesRow ⟨⟨s⟩⟩ (grownCap w s.length 0 el)).size+1))
    (x:={ dead:=false,sealed:=false,pure:=true,taint:=false,sz:=1,cells:=s.map fun b=>.int .u8 (b.toNat:Int) })
    (cs:=bytesRow ⟨⟨s⟩⟩ (grownCap w s.length 0 el)) (Step.drew S).sim hn rfl rfl rfl (.inr (Nat.le_refl _)) (by simp) (by simp[bytesRow,hsz];omega) hcap
    ⟨fun _=>by
     show RepCs (J false) w.drew (s.map fun b=>.int .u8 (b.toNat:Int)) _ 0
     rw[Cm]
     intro j q hj
     rw[List.getElem?_map] at hj
     cases hb:s[j]? with
     | none=>rw[hb] at hj;simp at hj
     | some b =>
      rw[hb] at hj;simp at hj;subst hj
      refine⟨.int .u8 (b.toNat:Int),?_,by rw[RepC]⟩
      have hlt:j<s.length:=(List.getElem?_eq_some_iff.1 hb).1
      simp only[Nat.zero_add,bytesRow]
      rw[Array.getElem?_append_left (by simp;exact hlt)]
      simp[hb],fun hp=>by simp at hp⟩
   exact⟨J',β',(Step.drew S).trans B1 (fun _ k _ _=>by rw[←Aip];exact Sw _ _ k),B2⟩
  ·simp at hh
 ·simp at hh
end
end Gx

namespace Gx
open Go
def Aiq (CR:AV→Value→Prop) (c:List AV) (cs:List Value):Prop:=c.length=cs.length∧∀ (j:Nat) (x:AV) (u:Value),c[j]?=some x→cs[j]?=some u→CR x u
def PartsRel (CR:AV→Value→Prop):List (Nat×List AV)→List (Nat×Value)→Prop
 | [],vs=>vs=[]
 | (i,c)::r,vs=>∃ v vs',vs=(i,v)::vs'∧Aiq CR c v.cells.toList∧PartsRel CR r vs'
theorem B22:∀ (vs:List Value) (n off:Nat) (cells:Array Value) (j:Nat),
  ((vs.zipIdx n).foldl (fun (cs:Array Value) (p:Value×Nat)=>cs.setIfInBounds (off+p.2) p.1) cells)[j]?=if off+n≤j∧j<off+n+vs.length∧j<cells.size then vs[j - (off+n)]? else cells[j]?
 | [],n,off,cells,j=>by simp;omega
 | v::r,n,off,cells,j=>by
  rw[List.zipIdx_cons,List.foldl_cons,B22 r (n+1) off]
  simp only[Array.size_setIfInBounds,List.length_cons]
  by_cases h1:j=off+n
  ·subst h1
   rw[if_neg (by omega)]
   by_cases h2:off+n<cells.size
   ·rw[if_pos (by omega)];simp[h2]
   ·rw[if_neg (by omega)];simp[h2]
  ·by_cases h2:off+(n+1)≤j∧j<off+(n+1)+r.length∧j<cells.size
   ·rw[if_pos h2,if_pos (by omega),show j - (off+n)=(j - (off+(n+1)))+1 by omega];simp
   ·rw[if_neg h2,if_neg (by omega),Array.getElem?_setIfInBounds_ne (by omega)]
theorem A0l:∀ (vs:List Value) (n off:Nat) (cells:Array Value),((vs.zipIdx n).foldl (fun (cs:Array Value) (p:Value×Nat)=>cs.setIfInBounds (off+p.2) p.1) cells).size=cells.size
 | [],_,_,_=>rfl
 | v::r,n,off,cells=>by rw[List.zipIdx_cons,List.foldl_cons,A0l r];simp
theorem Afm {CR:AV→Value→Prop} {place:Nat→Option (Nat×Nat)}:∀ {parts:List (Nat×List AV)} {vparts:List (Nat×Value)} {c c':List AV} {cs:Array Value},PartsRel CR parts vparts→Aiq CR c cs.toList →
  Nw place parts c=some c'→∃ cs',Instr.fill place cs vparts=some cs'∧Aiq CR c' cs'.toList
 | [],vparts,c,c',cs,hp,hc,hf=>by
  rw[PartsRel] at hp;subst hp
  simp[Nw] at hf;subst hf
  exact⟨cs,rfl,hc⟩
 | (i,vs)::r,vparts,c,c',cs,hp,hc,hf=>by
  rw[PartsRel] at hp
  obtain⟨v,vs',rfl,hv,hr⟩:=hp
  rw[Nw] at hf
  obtain⟨p,hpl,h1⟩:=ub hf
  obtain⟨hb,h2⟩:=uc h1
  simp at hb
  obtain⟨b1,b2⟩:=hb
  have e1:vs.length=v.cells.size:=by have:=hv.1;simpa using this
  have e2:c.length=cs.size:=by have:=hc.1;simpa using this
  have hle:p.1+vs.length≤c.length:=by omega
  have key:Aiq CR (setCells c p.1 vs) (v.cells.zipIdx.foldl (fun (cs:Array Value) (q:Value×Nat)=>cs.setIfInBounds (p.1+q.2) q.1) cs).toList:=by
   have hfold:v.cells.zipIdx.foldl (fun (cs:Array Value) (q:Value×Nat)=>cs.setIfInBounds (p.1+q.2) q.1) cs=(v.cells.toList.zipIdx 0).foldl (fun (cs:Array Value) (q:Value×Nat)=>cs.setIfInBounds (p.1+q.2) q.1) cs:=by
    rw[←Array.foldl_toList];simp
   rw[hfold]
   refine⟨by rw[Ot hle,e2];exact(A0l _ 0 _ _).symm,fun j x u hx hu=>?_⟩
   rw[Ain hle] at hx
   rw[Array.getElem?_toList,B22] at hu
   simp only[Nat.add_zero,Array.length_toList] at hu
   split at hx
   ·rename_i hj
    rw[if_pos (by omega)] at hu
    exact hv.2 _ x u hx hu
   ·rename_i hj
    rw[if_neg (by omega)] at hu
    exact hc.2 j x u hx (by simpa using hu)
  obtain⟨cs',g1,g2⟩:=Afm hr key h2
  refine⟨cs',?_,g2⟩
  rw[Instr.fill,hpl]
  have:¬ (v.cells.size≠p.2||p.1+v.cells.size>cs.size)=true:=by simp;omega
  simp only[this]
  exact g1
section
variable {R:Type} {r:R} {P:Program} {J J':Bool→Nat→Prop} {β:Cr} {h:Al} {w w':World} {g:Bt}
def RepParts (J:Bool→Nat→Prop) (β:Cr) (h:Al) (w:World):List (Nat×AV)→List (Nat×Value)→Prop
 | [],vs=>vs=[]
 | (i,x)::r,vs=>∃ v vs',vs=(i,v)::vs'∧Rep J β h w x v∧RepParts J β h w r vs'
theorem RepParts.ext {β':Cr} {h':Al} (E:Ext J β h w J' β' h' w'):∀ {ps:List (Nat×AV)} {vs:List (Nat×Value)},RepParts J β h w ps vs→RepParts J' β' h' w' ps vs
 | [],_,hr=>hr
 | (i,x)::r,vs,hr=>by
  rw[RepParts] at hr ⊢
  obtain⟨v,vs',e,h1,h2⟩:=hr
  exact⟨v,vs',e,Rep.ext E h1,RepParts.ext E h2⟩
theorem PartsRel.mono {CR CR':AV→Value→Prop} (hm:∀ x u,CR x u→CR' x u):∀ {ps:List (Nat×List AV)} {vs:List (Nat×Value)},PartsRel CR ps vs→PartsRel CR' ps vs
 | [],_,hr=>hr
 | (i,c)::r,vs,hr=>by
  rw[PartsRel] at hr ⊢
  obtain⟨v,vs',e,h1,h2⟩:=hr
  exact⟨v,vs',e,⟨h1.1,fun j x u hx hu=>hm _ _ (h1.2 j x u hx hu)⟩,PartsRel.mono hm h2⟩
theorem T4 {J:Nat→Prop} {c:List AV} {us:List Value} (hc:RepCs J w c (fun j=>us[j]?) 0) (hl:c.length=us.length):Aiq (RepC J w) c us :=
 ⟨hl,fun j x u hx hu=>by
  obtain⟨u',hu',hr⟩:=hc.at hx
  rw[hu] at hu';simp at hu';subst hu';exact hr⟩
theorem Aun {J:Nat→Prop} {c:List AV} {us:List Value} (hc:Aiq (RepC J w) c us):RepCs J w c (fun j=>us[j]?) 0:=by
 rw[Cm]
 intro j x hx
 have:j<us.length:=by rw[←hc.1];exact(List.getElem?_eq_some_iff.1 hx).1
 exact⟨us[j],by simp[this],hc.2 j x _ hx (List.getElem?_eq_getElem this)⟩
theorem Ak3:∀ {ps:List (Nat×AV)} {vs:List (Nat×Value)} {q:List (Nat×List AV)} {ups:Ups} {org:Bool} {J:Bool→Nat→Prop} {h:Al},SimH J β h w→LooksS g h→Afh g ps=some (q,ups,org)→RepParts J β h w ps vs →
  ∃ J',Step J β h w J' β (An ups h) w∧PartsRel (RepC (J' org) w) q vs∧LooksS g (An ups h)∧∀ b,A9 ups b=true→∃ x,g b=some x
 | [],vs,q,ups,org,J,h,S,hl,hh,hv=>by
  simp[Afh] at hh;obtain⟨rfl,rfl,rfl⟩:=hh
  rw[RepParts] at hv
  exact⟨J,Step.refl S,by rw[PartsRel];exact hv,hl,fun b hb=>by simp[A9] at hb⟩
 | (i,x)::r,vs,q,ups,org,J,h,S,hl,hh,hv=>by
  rw[Afh] at hh
  obtain⟨⟨c1,u1,o1⟩,hp,h1⟩:=ub hh
  obtain⟨⟨q2,u2,o2⟩,hq,h2⟩:=ub h1
  simp at h2
  obtain⟨rfl,rfl,rfl⟩:=h2
  rw[RepParts] at hv
  obtain⟨v,vs',rfl,hv1,hv2⟩:=hv
  obtain⟨J1,A,hA,hlen,hl1⟩:=Ak2 S hl hp hv1
  obtain⟨J2,B,hB,hl2,hu2⟩:=Ak3 A.sim hl1 hq (RepParts.ext A.ext hv2)
  refine⟨J2,by rw[Cc];exact A.trans B (fun _ _ _ _=>Nat.le_refl _),?_,by rw[Cc];exact hl2,fun b hb=>?_⟩
  ·rw[PartsRel]
   refine⟨v,vs',rfl,T4 (RepCs.keep (J:=J1 o1) (w:=w) (fun k hk=>Asn B.sim.jft _ _ k (B.ext.jsub _ k hk)) (fun _ _=>rfl) (fun _=>rfl) hA) hlen,?_⟩
   exact PartsRel.mono (fun x u hx=>RepC.keep (J:=J2 o2) (w:=w) (fun k hk=>Bd8 B.sim.jft _ _ k hk) (fun _ _=>rfl) hx) hB
  ·rw[Nc] at hb
   cases h3:A9 u1 b with
   | true=>exact Bmi hp b h3
   | false=>rw[h3] at hb;exact hu2 b (by simpa using hb)
theorem Afn {place:Nat→Option (Nat×Nat)} {k:List AV→Option R}:∀ (ps:List (Nat×List AV)) (c:List AV),Bdz place ps c k=(Nw place ps c).bind k
 | [],c=>rfl
 | (i,vs)::r,c=>by
  rw[Bdz,Nw,Option.bind_assoc]
  congr 1;funext p
  rw[Afn r]
  cases (Nat.beq vs.length p.2&&Nat.ble (p.1+p.2) c.length)<;>rfl
theorem A0m {d len:Nat} {t:TypeId} {ps:List (Nat×AV)} {vs:List (Nat×Value)} {k:AV→Ups→Option R} (S:SimH J β h w) (hl:Looks g h) (hh:Pi P g d t len ps k=some r) (hv:RepParts J β h w ps vs) :
  ∃ val ups,k val ups=some r∧(UpsFree d h ups→∃ u w',(Instr.buildSlice t len vs.toArray).run P w=.ok u w'∧OpDone J β h w ups val u w'):=by
 unfold Pi at hh
 split at hh
 ·rename_i el hu
  obtain⟨sz,hsz,h1⟩:=ub hh
  obtain⟨zz,hz,h2⟩:=ub h1
  obtain⟨⟨q,u1,o1⟩,hq,h3⟩:=ub h2
  obtain⟨hb,h4⟩:=uc h3
  rw[Afn] at h4
  obtain⟨cells,hc,h5⟩:=ub h4
  simp at hb
  obtain⟨i,z,hi,hiz,rfl,hp,e1,e2⟩:=Zp hz
  have hs':i.size=sz:=by simp[Cl,hi] at hsz;exact hsz
  refine⟨_,_,h5,fun hn=>?_⟩
  replace hn:=hn.nid (by simp[Nc,Nv,A9])
  obtain⟨J1,A,hA,_,hups⟩:=Ak3 S hl.s hq hv
  have hz0:=Ax6 (w:=w) (J:=J1 o1) hp len (len*sz) (by rw[e1,hs'];exact Nat.le_refl _)
  have hz1:Aiq (RepC (J1 o1) w) (Iu len (N5 z.cells.toList)) (madeCells z.cells (len*sz)).toList:=by
   refine T4 (RepCs.keep (J:=J1 o1) (w:=w) (fun _ hk=>hk) (fun _ _=>rfl) (fun j=>by simp) hz0) ?_
   rw[Hg,e2,hs',Array.length_toList,size_madeCells]
  obtain⟨cs',f1,f2⟩:=Afm hA hz1 hc
  have hlen:cells.length=len*sz:=by
   have:∀ {ps:List (Nat×List AV)} {c c':List AV},Nw (fun i=>some (i*sz,sz)) ps c=some c'→c'.length=c.length:=by
    intro ps
    induction ps with
    | nil=>intro c c' hf;simp[Nw] at hf;rw[hf]
    | cons p r ih =>
     intro c c' hf
     obtain⟨i,vs⟩:=p
     rw[Nw] at hf
     obtain⟨p,hpl,g1⟩:=ub hf
     obtain⟨gb,g2⟩:=uc g1
     simp at gb
     rw[ih g2,Ot (by omega)]
   rw[this hc,Hg,e2,hs']
  have hcs:cs'.size=len*sz:=by have:=f2.1;simp at this;omega
  refine⟨.slice (some ⟨w.heap.size,0,none⟩) len len,w.alloc (.cells cs' el),?_,?_⟩
  ·have f1':Instr.fill (fun i=>some (i*sz,sz)) ((Array.range (len*sz)).map (z.cells[·%z.cells.size]!)) vs=some cs':=f1
   have hnb:¬ (16777216<len*sz):=by omega
   by_cases h0:len*sz=0
   ·have hme:∀ (a:Array Value),(Array.range (len*sz)).map (a[·%a.size]!)=#[]:=fun a=>by rw[h0];simp[Array.range_zero']
    rw[hme] at f1'
    simp[Instr.buildSlice,run_underlying hu,Dg hsz,h0,Array.range_zero',f1',newRow]
   ·simp[Instr.buildSlice,run_underlying hu,Dg hsz,hnb,h0,zeroValue,typeInfo,hi,hiz,f1',newRow]
  ·refine OpDone.after A (A0k (sz:=sz) (fr:=(0,0)) A.sim (B21 hl hups hn) rfl rfl rfl (.inl rfl) hlen (by omega) (Nat.le_refl _) ⟨fun _=>?_,fun hp=>by simp at hp⟩) (Sw _ _)
   have:=Aun f2
   exact RepCs.keep (J:=J1 o1) (w:=w) (fun _ hk=>hk) (fun _ _=>rfl) (fun j=>by simp) this
 ·simp at hh
theorem Ax7 {t:TypeId} {ps:List (Nat×AV)} {k:AV→Option R}:Brs P t ps k=(Brr P t ps).bind k:=by
 unfold Brs Brr
 rw[Option.bind_assoc]
 congr 1;funext place
 cases (ps.all fun p=>An2 p.2) with
 | false=>rfl
 | true =>
  simp only[cond_true]
  cases (ps.any fun p=>Aih p.2) with
  | true =>
   simp only[cond_true]
   cases (ps.any fun p=>Bd0 p.2) with
   | true =>
    simp only[cond_true]
    rw[Option.bind_assoc]
    congr 1;funext z
    rw[Afn]
    cases Nw place (Jk ps) z<;>rfl
   | false =>
    simp only[cond_false]
    rw[Option.bind_assoc]
    congr 1;funext z
    rw[Afn]
    cases Nw place (Ff ps) z<;>rfl
  | false =>
   simp only[cond_false]
   rw[Option.bind_assoc]
   congr 1;funext z
   rw[Afn]
   cases Nw place (Ff ps) z<;>rfl
theorem B67 {x:AV} {u:Value} (hr:RepC (fun _=>False) w x u):Rep J β h w x u:=by
 have hm:∀ o:Bool,RepC (J o) w x u:=fun o=>RepC.keep (J:=fun _=>False) (w:=w) (fun _ hk=>hk.elim) (fun _ _=>rfl) hr
 cases x
 case imm c n sz t org=>rw[Rep];exact hm org
 case iptr c org=>rw[Rep];exact hm org
 case fn f c =>
  cases c with
  | nil=>rw[RepC] at hr;subst hr;rw[Rep];exact⟨[],by simp,by rw[Reps]⟩
  | cons a l=>simp[RepC] at hr
 all_goals first | (rw[RepC] at hr;rw[Rep];exact hr) | simp[RepC] at hr
theorem A5h {d len:Nat} {t:TypeId} {ps:List (Nat×AV)} {vs:List (Nat×Value)} {k:AV→Ups→Option R} (S:SimH J β h w) (hh:So P g d t len ps k=some r) (hv:RepParts J β h w ps vs) :
  ∃ val ups,k val ups=some r∧(UpsFree d h ups→∃ u w',(Instr.buildSlice t len vs.toArray).run P w=.ok u w'∧OpDone J β h w ups val u w'):=by
 unfold So at hh
 split at hh
 ·rename_i el hu
  obtain⟨sz,hsz,h1⟩:=ub hh
  obtain⟨zz,hz,h2⟩:=ub h1
  obtain⟨hb,h4⟩:=uc h2
  obtain⟨cells,hc,h5⟩:=ub h4
  simp at hb
  obtain⟨rfl,hb,hst⟩:=hb
  obtain⟨i,z,hi,hiz,rfl,hp,e1,e2⟩:=Zp hz
  have hs':i.size=1:=by simp[Cl,hi] at hsz;exact hsz
  refine⟨_,_,h5,fun hn=>?_⟩
  replace hn:=hn.nid (by simp[Nv,A9])
  have hz0:=Ax6 (w:=w) (J:=fun _=>False) hp len (len*1) (by rw[e1,hs'];exact Nat.le_refl _)
  have hz1:Aiq (fun x u=>Rep J β h w x u∧u.oneCell'=true) (Iu len (N5 z.cells.toList)) (madeCells z.cells (len*1)).toList:=by
   have hl:Aiq (RepC (fun _=>False) w) (Iu len (N5 z.cells.toList)) (madeCells z.cells (len*1)).toList:=by
    refine T4 (RepCs.keep (J:=fun _=>False) (w:=w) (fun _ hk=>hk) (fun _ _=>rfl) (fun j=>by simp) hz0) ?_
    rw[Hg,e2,hs',Array.length_toList,size_madeCells]
   exact⟨hl.1,fun j x u hx hu=>⟨B67 (hl.2 j x u hx hu),A0i (hl.2 j x u hx hu)⟩⟩
  have hparts:∀ {ps:List (Nat×AV)} {vs:List (Nat×Value)},Ph g (ps.map (·.2))=true→RepParts J β h w ps vs→PartsRel (fun x u=>Rep J β h w x u∧u.oneCell'=true) (ps.map fun p=>(p.1,[p.2])) vs:=by
   intro ps
   induction ps with
   | nil=>intro vs _ hv;rw[RepParts] at hv;rw[List.map_nil,PartsRel];exact hv
   | cons p r ih =>
    obtain⟨i,x⟩:=p
    intro vs hs hv
    rw[RepParts] at hv
    obtain⟨v,vs',rfl,h1,h2⟩:=hv
    simp[Ph] at hs
    rw[List.map_cons,PartsRel]
    refine⟨v,vs',rfl,?_,ih (by simpa using hs.2) h2⟩
    have ho:=Qi hs.1 h1
    have hcells:v.cells=#[v]:=by cases v<;>simp_all[Value.cells,Value.oneCell']
    rw[hcells]
    refine⟨rfl,fun j y u hy hu=>?_⟩
    cases j with
    | zero=>simp at hy hu;subst hy hu;exact⟨h1,ho⟩
    | succ j=>simp at hy
  obtain⟨cs',f1,f2⟩:=Afm (hparts hst hv) hz1 hc
  have hlen:cells.length=len*1:=by
   have:∀ {ps:List (Nat×List AV)} {c c':List AV},Nw (fun i=>some (i*1,1)) ps c=some c'→c'.length=c.length:=by
    intro ps
    induction ps with
    | nil=>intro c c' hf;simp[Nw] at hf;rw[hf]
    | cons p r ih =>
     intro c c' hf
     obtain⟨i,vs⟩:=p
     rw[Nw] at hf
     obtain⟨p,hpl,g1⟩:=ub hf
     obtain⟨gb,g2⟩:=uc g1
     simp at gb
     rw[ih g2,Ot (by omega)]
   rw[this hc,Hg,e2,hs']
  have hcs:cs'.size=len*1:=by have:=f2.1;simp at this;omega
  refine⟨.slice (some ⟨w.heap.size,0,none⟩) len len,w.alloc (.cells cs' el),?_,?_⟩
  ·have f1':Instr.fill (fun i=>some (i*1,1)) ((Array.range (len*1)).map (z.cells[·%z.cells.size]!)) vs=some cs':=f1
   have hnb:¬ (16777216<len*1):=by omega
   by_cases h0:len*1=0
   ·have hme:∀ (a:Array Value),(Array.range (len*1)).map (a[·%a.size]!)=#[]:=fun a=>by rw[h0];simp[Array.range_zero']
    rw[hme] at f1'
    simp only[Nat.mul_one] at h0
    simp[Instr.buildSlice,run_underlying hu,Dg hsz,h0,Array.range_zero',newRow]
    simp at f1'
    simp[f1']
   ·simp only[Nat.mul_one] at f1' h0 hnb
    simp[Instr.buildSlice,run_underlying hu,Dg hsz,hnb,h0,zeroValue,typeInfo,hi,hiz,f1',newRow]
  ·refine A0k (sz:=1) (fr:=(0,0)) S hn rfl rfl rfl (.inl rfl) hlen (by omega) (Nat.le_refl _) ⟨fun hp=>by simp at hp,fun _ j y hj=>?_⟩
   have hlt:j<cs'.size:=by have:=(List.getElem?_eq_some_iff.1 hj).1;simp at this;omega
   have:=f2.2 j y cs'[j] hj (by simp[hlt])
   exact⟨cs'[j],by simp[hlt],this.1,this.2⟩
 ·simp at hh
theorem Aeq {d:Nat}:∀ {l:List (Nat×Nat)} {j:Nat} {c:List AV} {cs:List Value} {β:Cr} {h:Al},SimH J β h w→1≤j→j+l.length≤16→(∀ i,j≤i→i<16→A9 (M9 d l j c).2 (nid d+i)=true→Ao h (nid d+i)=none)→Reps J β h w c cs →
  ∃ β',Step J β h w J β' (An (M9 d l j c).2 h) w∧Reps J β' (An (M9 d l j c).2 h) w (M9 d l j c).1 cs
 | [],j,c,cs,β,h,S,_,_,_,hr=>⟨β,Step.refl S,hr⟩
 | (o,sz)::l,j,c,cs,β,h,S,hj,hl,hf,hr=>by
  rw[M9] at hf ⊢
  split
  ·rename_i ho
   simp only[ho] at hf
   simp at hl
   have h1:Ao h (nid d+j)=none:=hf j (Nat.le_refl _) (by omega) (by simp[A9])
   have A:=Step.newNone S (d:=nid d+j) (x:=Ft sz) h1 rfl
   have hr1:=Reps.ext A.ext hr
   rw[Ck] at hr1
   have hr2:Reps J (fun b=>if b=nid d+j then none else β b) (Fx h (nid d+j) (Ft sz)) w (c.set o (.own (nid d+j) 0 0)) cs:=by
    rw[Ck]
    refine⟨by rw[hr1.1];simp,fun i y u hy hu=>?_⟩
    by_cases hi:i=o
    ·subst hi
     have hlt:i<c.length:=(List.getElem?_eq_some_iff.1 ho).1
     rw[List.getElem?_set_self hlt] at hy;simp at hy;subst hy
     have h3:=hr1.2 i _ u ho hu
     rw[Rep] at h3;subst h3
     rw[Rep]
     exact⟨Ft sz,none,0,⟨by simp[Ag],rfl⟩,rfl,Nat.le_refl _,.inl rfl⟩
    ·rw[List.getElem?_set_ne (by omega)] at hy
     exact hr1.2 i y u hy hu
   obtain⟨β',B,hB⟩:=Aeq (d:=d) (l:=l) (j:=j+1) A.sim (by omega) (by omega) (fun i hi hi2 hin=>by
    have:=hf i (by omega) hi2 (by
     rw[A9]
     have:Nat.beq (nid d+j) (nid d+i)=false:=Atq (by omega)
     rw[this];exact hin)
    rw[Ag,if_neg (by omega)];exact this) hr2
   exact⟨β',by simp only[An];exact A.trans B (fun _ _ _ _=>Nat.le_refl _),by simp only[An];exact hB⟩
  ·rename_i ho
   have e:M9 d ((o,sz)::l) j c=M9 d l (j+1) c:=by
    rw[M9]
    split
    ·rename_i h2;exact absurd h2 (ho ·)
    ·rfl
   simp at hl
   split at hf
   ·rename_i h2;exact absurd h2 (ho ·)
   ·exact Aeq S (by omega) (by omega) (fun i hi hi2 hin=>hf i (by omega) hi2 hin) hr
theorem By1 {t:TypeId} {co:Bool} {d:Nat} {v:AV} {vc:Value} {k:AV→Ups→Option R} (S:SimH J β h w) (hh:B31 P t co d v k=some r) (hv:Rep J β h w v vc) :
  ∃ val ups,k val ups=some r∧(UpsFree d h ups→OpDone J β h w ups val vc w):=by
 unfold B31 at hh
 split at hh
 ·rename_i c
  obtain⟨hb,h1⟩:=uc hh
  refine⟨_,_,h1,fun hf=>?_⟩
  rw[Rep] at hv
  obtain⟨cs,rfl,hr⟩:=hv
  obtain⟨β',A,hA⟩:=Aeq (d:=d) (l:=Az9 P t) (j:=1) S (Nat.le_refl _) (by simp at hb;omega) (fun i hi hi2 hin=>hf _ hin (by unfold Ak0;simp;omega)) hr
  exact⟨J,β',A,by rw[Rep];exact⟨cs,rfl,hA⟩⟩
 ·exact⟨_,_,hh,fun _=>⟨J,β,Step.refl S,hv⟩⟩
theorem A74 {x:AV} {v:Value} (hv:Rep J β h w x v) (hp:Aih x=false) (ho:An2 x=true):Aiq (Rep J β h w) (cellsOf x) v.cells.toList:=by
 have one:v.cells=#[v]→cellsOf x=[x]→Aiq (Rep J β h w) (cellsOf x) v.cells.toList:=fun h1 h2=>by
  rw[h1,h2]
  refine⟨rfl,fun j y u hy hu=>?_⟩
  cases j with
  | zero=>simp at hy hu;subst hy hu;exact hv
  | succ j=>simp at hy
 cases x
 case pagg=>simp[Aih] at hp
 case agg c =>
  rw[Rep] at hv
  obtain⟨cs,rfl,h2⟩:=hv
  rw[Ck] at h2
  exact⟨h2.1.symm,h2.2⟩
 case tup c=>simp[An2] at ho
 case undef=>simp[An2] at ho
 case omap=>simp[An2] at ho
 case own=>rw[Rep] at hv;obtain⟨_,A,cap,_,rfl,_⟩:=hv;exact one rfl rfl
 case optr=>rw[Rep] at hv;obtain⟨_,kk,o,_,rfl,_⟩:=hv;exact one rfl rfl
 case fn=>rw[Rep] at hv;obtain⟨cs,rfl,_⟩:=hv;exact one rfl rfl
 case imm=>rw[Rep,RepC] at hv;obtain⟨_,A,cap,rfl,_⟩:=hv;exact one rfl rfl
 case iptr=>rw[Rep,RepC] at hv;obtain⟨a,rfl,_⟩:=hv;exact one rfl rfl
 all_goals (rw[Rep] at hv;subst hv;exact one rfl rfl)
theorem Bov {x:AV} {v:Value} (hj:∀ k,J false k→J true k) (hv:Rep J β h w x v) (hr:Ax2 x=false) {o:Bool} (ho:Brq x=true→o=true):RepC (J o) w x v:=by
 cases x<;>simp[Ax2] at hr
 case imm c n sz t org =>
  rw[Rep] at hv
  refine RepC.keep (J:=J org) (w:=w) (fun k hk=>?_) (fun _ _=>rfl) hv
  cases org
  ·cases o
   ·exact hk
   ·exact hj k hk
  ·rw[ho rfl];exact hk
 case iptr c org =>
  rw[Rep] at hv
  refine RepC.keep (J:=J org) (w:=w) (fun k hk=>?_) (fun _ _=>rfl) hv
  cases org
  ·cases o
   ·exact hk
   ·exact hj k hk
  ·rw[ho rfl];exact hk
 all_goals (rw[Rep] at hv;rw[RepC];exact hv)
theorem Br7 {x:AV} {v:Value} (hj:∀ k,J false k→J true k) (hv:Rep J β h w x v) (hr:Bd0 x=false) {o:Bool} (ho:A7w x=true→o=true):Aiq (RepC (J o) w) (cellsOf x) v.cells.toList:=by
 have one:Ax2 x=false→cellsOf x=[x]→A7w x=Brq x→Aiq (RepC (J o) w) (cellsOf x) v.cells.toList:=fun h0 h2 h3=>by
  have hc:=Bov (o:=o) hj hv h0 (by rw[←h3];exact ho)
  have h1:v.cells=#[v]:=by have:=A0i hc;cases v<;>simp_all[Value.cells,Value.oneCell']
  rw[h1,h2]
  refine⟨rfl,fun j y u hy hu=>?_⟩
  cases j with
  | zero=>simp at hy hu;subst hy hu;exact hc
  | succ j=>simp at hy
 cases x
 case pagg c org =>
  rw[Rep] at hv
  obtain⟨cs,rfl,h1,h2⟩:=hv
  refine T4 (RepCs.keep (J:=J org) (w:=w) (fun k hk=>?_) (fun _ _=>rfl) (fun j=>by simp[Value.cells]) h2) (by simp[Value.cells,cellsOf,h1])
  cases org
  ·cases o
   ·exact hk
   ·exact hj k hk
  ·rw[ho rfl];exact hk
 case agg c =>
  rw[Rep] at hv
  obtain⟨cs,rfl,h2⟩:=hv
  rw[Ck] at h2
  refine⟨h2.1.symm,fun j y u hy hu=>?_⟩
  simp only[Bd0,List.any_eq_false] at hr
  have hm:y ∈ c:=List.mem_of_getElem? hy
  have hry:Ax2 y=false:=by simpa using hr y hm
  refine Bov hj (h2.2 j y u hy hu) hry (fun h3=>ho ?_)
  rw[A7w,List.any_eq_true];exact⟨y,hm,h3⟩
 all_goals first | exact one hr rfl rfl | simp[Bd0,Ax2] at hr
theorem B37 {o:Bool} {x:AV} {v:Value} (hr:RepC (J o) w x v):Rep J β h w (Bva o x) v:=by
 cases x
 case imm=>rw[Bva,Rep];rw[RepC] at hr ⊢;exact hr
 case iptr=>rw[Bva,Rep];rw[RepC] at hr ⊢;exact hr
 case fn f c =>
  cases c with
  | nil=>rw[RepC] at hr;subst hr;show Rep J β h w (.fn f []) _;rw[Rep];exact⟨[],by simp,by rw[Reps]⟩
  | cons a b=>simp[RepC] at hr
 all_goals first | (rw[RepC] at hr;unfold Bva;rw[Rep];exact hr) | (simp[RepC] at hr)
theorem By2 {x:AV} {v:Value} (hv:Rep J β h w x v) (ho:An2 x=true):Aiq (Rep J β h w) (Bd1 x) v.cells.toList:=by
 cases hp:Aih x with
 | false =>
  have:=A74 hv hp ho
  cases x<;>first | exact this | simp[Aih] at hp
 | true =>
  cases x<;>simp[Aih] at hp
  rename_i c o
  rw[Rep] at hv
  obtain⟨cs,rfl,h1,h2⟩:=hv
  refine⟨by simp[Bd1,Value.cells,h1],fun j y u hy hu=>?_⟩
  simp only[Bd1,List.getElem?_map] at hy
  cases hx:c[j]? with
  | none=>rw[hx] at hy;simp at hy
  | some x0 =>
   rw[hx] at hy;simp at hy;subst hy
   obtain⟨u',hu',hr⟩:=h2.at hx
   simp[Value.cells] at hu
   rw[hu] at hu';simp at hu';subst hu'
   exact B37 hr
theorem Aoc {CR:AV→Value→Prop}:∀ {ps:List (Nat×AV)} {vs:List (Nat×Value)},RepParts J β h w ps vs→(∀ p ∈ ps,∀ v,Rep J β h w p.2 v→Aiq CR (Bd1 p.2) v.cells.toList)→PartsRel CR (Jk ps) vs
 | [],vs,hr,_=>by rw[RepParts] at hr;rw[Jk,PartsRel];exact hr
 | (i,x)::r,vs,hr,hp=>by
  rw[RepParts] at hr
  obtain⟨v,vs',rfl,h1,h2⟩:=hr
  rw[Jk,PartsRel]
  exact⟨v,vs',rfl,hp (i,x) (by simp) v h1,Aoc h2 (fun p hm=>hp p (by simp[hm]))⟩
theorem Aer {CR:AV→Value→Prop}:∀ {ps:List (Nat×AV)} {vs:List (Nat×Value)},RepParts J β h w ps vs→(∀ p ∈ ps,∀ v,Rep J β h w p.2 v→Aiq CR (cellsOf p.2) v.cells.toList)→PartsRel CR (Ff ps) vs
 | [],vs,hr,_=>by rw[RepParts] at hr;rw[Ff,PartsRel];exact hr
 | (i,x)::r,vs,hr,hp=>by
  rw[RepParts] at hr
  obtain⟨v,vs',rfl,h1,h2⟩:=hr
  rw[Ff,PartsRel]
  exact⟨v,vs',rfl,hp (i,x) (by simp) v h1,Aer h2 (fun p hm=>hp p (by simp[hm]))⟩
theorem Bd9 {t:TypeId} {place:Nat→Option (Nat×Nat)} {i:TypeInfo} {z:Value} {vs:List (Nat×Value)} {cs:Array Value} (hp:Az8 P t=some place) (hi:P.info? t=some i) (hz:i.zero=some z)
  (hf:Instr.fill place z.cells vs=some cs):P.built t vs=some cs:=by
 unfold Az8 at hp
 unfold Program.built
 split at hp
 ·rename_i n e hu
  cases he:P.info? e with
  | none=>simp[he] at hp
  | some ie=>simp[he] at hp;subst hp;simp only[hi,hu,hz,he];exact hf
 ·rename_i fs hu
  cases he:fs.toList.mapM fun f=>(P.info? f.type).map fun i=>(f.offset,i.size) with
  | none=>rw[he] at hp;simp at hp
  | some pl =>
   rw[he] at hp;simp at hp;subst hp
   simp only[hi,hu,hz,he]
   simpa using hf
 ·simp at hp
theorem Br8 {t:TypeId} {ps:List (Nat×AV)} {vs:List (Nat×Value)} {v:AV} (S:SimH J β h w) (hh:Brr P t ps=some v) (hv:RepParts J β h w ps vs) :
  ∃ u,(Instr.build t vs.toArray).run P w=.ok u w∧Rep J β h w v u:=by
 unfold Brr at hh
 obtain⟨place,hpl,h1⟩:=ub hh
 obtain⟨hok,h2⟩:=uc h1
 cases hpg:ps.any (fun p=>Aih p.2) with
 | true =>
  rw[hpg] at h2
  cases hnr:ps.any (fun p=>Bd0 p.2) with
  | true =>
   rw[hnr] at h2
   obtain⟨zz,hz,h4⟩:=ub h2
   unfold Bok at hz
   obtain⟨i,hi,hz⟩:=ub hz
   cases hiz:i.zero with
   | none=>rw[hiz] at hz;simp at hz
   | some z =>
    rw[hiz] at hz;simp at hz;subst hz
    cases hf:Nw place (Jk ps) (N5 z.cells.toList) with
    | none=>rw[hf] at h4;simp at h4
    | some c =>
     rw[hf] at h4;simp at h4;subst h4
     have hparts:PartsRel (Rep J β h w) (Jk ps) vs:=Aoc hv (fun p hm u hu=>By2 hu (List.all_eq_true.1 hok p hm))
     have hzc:Aiq (Rep J β h w) (N5 z.cells.toList) z.cells.toList:=by
      have:=Asj (J:=J) (β:=β) (h:=h) (w:=w) z.cells.toList
      rw[Ck] at this
      exact⟨this.1.symm,this.2⟩
     obtain⟨cs,f1,f2⟩:=Afm hparts hzc hf
     refine⟨.agg cs,run_build w t vs.toArray cs (Bd9 hpl hi hiz (by simpa using f1)),?_⟩
     rw[Rep]
     exact⟨cs.toList,rfl,Ck.2 ⟨f2.1.symm,f2.2⟩⟩
  | false =>
  rw[hnr] at h2
  have h3:=h2
  obtain⟨zz,hz,h4⟩:=ub h3
  obtain⟨i,z,hi,hiz,rfl,hp,e1,e2⟩:=Zp hz
  cases hf:Nw place (Ff ps) (N5 z.cells.toList) with
  | none=>rw[hf] at h4;simp at h4
  | some c =>
   rw[hf] at h4;simp at h4;subst h4
   have hparts:PartsRel (RepC (J (ps.any fun p=>A7w p.2)) w) (Ff ps) vs:=Aer hv (fun p hm u hu=>Br7 S.jft hu (by
     have:=List.any_eq_false.1 hnr p hm;simpa using this) (fun ho=>by rw[List.any_eq_true];exact⟨p,hm,ho⟩))
   have hzc:Aiq (RepC (J (ps.any fun p=>A7w p.2)) w) (N5 z.cells.toList) z.cells.toList:=by
    refine⟨Ab6 _,fun j x u hx hu=>?_⟩
    obtain⟨y,g1,g2⟩:=Ax5 (w:=w) (J:=J (ps.any fun p=>A7w p.2)) hp j u hu
    rw[hx] at g1;simp at g1;subst g1;exact g2
   obtain⟨cs,f1,f2⟩:=Afm hparts hzc hf
   refine⟨.agg cs,run_build w t vs.toArray cs (Bd9 hpl hi hiz (by simpa using f1)),?_⟩
   rw[Rep]
   exact⟨cs.toList,rfl,f2.1.symm,Aun f2⟩
 | false =>
  rw[hpg] at h2
  obtain⟨zz,hz,h4⟩:=ub h2
  unfold Bok at hz
  obtain⟨i,hi,hz⟩:=ub hz
  cases hiz:i.zero with
  | none=>rw[hiz] at hz;simp at hz
  | some z =>
   rw[hiz] at hz;simp at hz;subst hz
   cases hf:Nw place (Ff ps) (N5 z.cells.toList) with
   | none=>rw[hf] at h4;simp at h4
   | some c =>
    rw[hf] at h4;simp at h4;subst h4
    have hparts:PartsRel (Rep J β h w) (Ff ps) vs:=Aer hv (fun p hm u hu=>A74 hu (by
      have:=List.any_eq_false.1 hpg p hm;simpa using this) (List.all_eq_true.1 hok p hm))
    have hzc:Aiq (Rep J β h w) (N5 z.cells.toList) z.cells.toList:=by
     have:=Asj (J:=J) (β:=β) (h:=h) (w:=w) z.cells.toList
     rw[Ck] at this
     exact⟨this.1.symm,this.2⟩
    obtain⟨cs,f1,f2⟩:=Afm hparts hzc hf
    refine⟨.agg cs,run_build w t vs.toArray cs (Bd9 hpl hi hiz (by simpa using f1)),?_⟩
    rw[Rep]
    exact⟨cs.toList,rfl,Ck.2 ⟨f2.1.symm,f2.2⟩⟩
end
end Gx

namespace Gx
open Go
section
variable {R:Type} {r:R} {P:Program} {J:Bool→Nat→Prop} {β:Cr} {h:Al} {w:World}
def PRd (n:Nat) (x:List AV) (rd:Nat→Option Value):Prop:=∀ j q,j<n→x[j]?=some q →
 (∀ k m,q=.int k m→rd j=some (.int k m))∧(∀ b,q=.bool b→rd j=some (.bool b))∧(∀ s,q=.str s→rd j=some (.string ⟨⟨s⟩⟩))
theorem PRd.drop {n m o:Nat} {x:List AV} {xs:Array Value} {ox sz:Nat} (hp:PRd sz x (fun j=>xs[ox+j]?)) (ho:o+m≤sz) (hn:n=m):PRd n (x.drop o) (fun j=>(xs.extract ox (ox+sz))[o+j]?):=by
 subst hn
 intro j q hj hq
 rw[List.getElem?_drop] at hq
 have h1:=hp (o+j) q (by omega) hq
 have e:∀ v,xs[ox+(o+j)]?=some v→(xs.extract ox (ox+sz))[o+j]?=some v:=by
  intro v hv
  have hlt:=(Array.getElem?_eq_some_iff.1 hv).1
  rw[Array.getElem?_extract,if_pos (by omega)];exact hv
 exact⟨fun k m hk=>e _ (h1.1 k m hk),fun b hb=>e _ (h1.2.1 b hb),fun s hs=>e _ (h1.2.2 s hs)⟩
theorem Y4 {t:TypeId} {d:TypeDesc} {xs:Array Value} {ox:Nat} {v:Value} (hu:P.underlying t=some d) (hd:d.isRow=false) (hv:xs[ox]?=some v):(part t xs ox).run P w=.ok v w:=by
 unfold part isAgg
 simp only[Sem.run_bind,run_underlying hu,Result.andThen_ok]
 cases d<;>simp_all[TypeDesc.isRow]
theorem Afo {t:TypeId} {d:TypeDesc} {xs:Array Value} {ox s:Nat} (hu:P.underlying t=some d) (hd:d.isRow=true) (hs:Cl P t=some s):(part t xs ox).run P w=.ok (.agg (xs.extract ox (ox+s))) w:=by
 unfold part isAgg
 have:=Dg hs w
 simp only[Sem.run_bind,run_underlying hu,Result.andThen_ok]
 cases d<;>simp_all[TypeDesc.isRow]
def By3 (P:Program) (w:World) (D:Nat) (step:TypeId→List AV→List AV→(Bool→Option R)→Option R):Prop :=
 ∀ (r:R) (t:TypeId) (s:Nat) (x y:List AV) (k:Bool→Option R) (xs ys:Array Value) (ox oy:Nat),Cl P t=some s→0<s→step t x y k=some r→PRd s x (fun j=>xs[ox+j]?)→PRd s y (fun j=>ys[oy+j]?) →
  ∃ b a a',k b=some r∧(part t xs ox).run P w=.ok a w∧(part t ys oy).run P w=.ok a' w∧(Op.equalIn D t a a').run P w=.ok b w
theorem Ak4 {D:Nat} {step:TypeId→List AV→List AV→(Bool→Option R)→Option R} (hs:By3 P w D step) {x y:List AV} {xs ys:Array Value} {ox oy sz:Nat} (hx:PRd sz x (fun j=>xs[ox+j]?)) (hy:PRd sz y (fun j=>ys[oy+j]?)) :
  ∀ (fs:List Field) {k:Bool→Option R},fs.all (Bro P sz)=true→Aff step x y (fs.map fun f=>(f.offset,f.type)) k=some r →
  ∃ b,k b=some r∧(Op.eqFields D (xs.extract ox (ox+sz)) (ys.extract oy (oy+sz)) fs).run P w=.ok b w
 | [],k,_,hh=>⟨true,by simpa[Aff] using hh,by simp[Op.eqFields]⟩
 | f::fs,k,ho,hh=>by
  rw[List.all_cons,Bool.and_eq_true] at ho
  obtain⟨hf,ho⟩:=ho
  unfold Bro at hf
  cases hsz:Cl P f.type with
  | none=>rw[hsz] at hf;simp at hf
  | some s =>
   rw[hsz] at hf
   simp only[Bool.and_eq_true,Nat.ble_eq] at hf
   obtain⟨h1,h2,h3⟩:=hf
   have hname : f.name ≠ "_" := by simpa using h3
   rw[List.map_cons,Aff] at hh
   obtain⟨b,a,a',g1,g2,g3,g4⟩:=hs r f.type s _ _ _ (xs.extract ox (ox+sz)) (ys.extract oy (oy+sz)) f.offset f.offset hsz (by omega) hh (hx.drop h2 rfl) (hy.drop h2 rfl)
   obtain⟨c,e1,e2⟩:=Ak4 hs hx hy fs ho g1
   refine⟨b&&c,e1,?_⟩
   rw[Op.eqFields,if_pos hname]
   simp only[Sem.run_bind,g2,g3,g4,Result.andThen_ok]
   cases b with
   | false=>simp
   | true=>simpa using e2
theorem Aod {D:Nat} {step:TypeId→List AV→List AV→(Bool→Option R)→Option R} (hs:By3 P w D step) {x y:List AV} {xs ys:Array Value} {ox oy sz:Nat} {e:TypeId} {s:Nat} (hse:Cl P e=some s) (hs0:0<s) (hx:PRd sz x (fun j=>xs[ox+j]?)) (hy:PRd sz y (fun j=>ys[oy+j]?)) :
  ∀ (is:List Nat) {k:Bool→Option R},(∀ i ∈ is,i*s+s≤sz)→Aff step x y (is.map fun i=>(i*s,e)) k=some r →
  ∃ b,k b=some r∧(Op.eqItems D e s (xs.extract ox (ox+sz)) (ys.extract oy (oy+sz)) is).run P w=.ok b w
 | [],k,_,hh=>⟨true,by simpa[Aff] using hh,by simp[Op.eqItems]⟩
 | i::is,k,ho,hh=>by
  have h2:=ho i (by simp)
  rw[List.map_cons,Aff] at hh
  obtain⟨b,a,a',g1,g2,g3,g4⟩:=hs r e s _ _ _ (xs.extract ox (ox+sz)) (ys.extract oy (oy+sz)) (i*s) (i*s) hse hs0 hh (hx.drop h2 rfl) (hy.drop h2 rfl)
  obtain⟨c,e1,e2⟩:=Aod hs hse hs0 hx hy is (fun j hj=>ho j (by simp[hj])) g1
  refine⟨b&&c,e1,?_⟩
  rw[Op.eqItems]
  simp only[Sem.run_bind,g2,g3,g4,Result.andThen_ok]
  cases b with
  | false=>simp
  | true=>simpa using e2
theorem Ax8:∀ (d D:Nat),d≤D→By3 P w D (Bcs (R:=R) P d)
 | 0,D,_=>fun r t s x y k xs ys ox oy hs hs0 hh=>by simp[Bcs] at hh
 | d+1,D,hD=>fun r t s x y k xs ys ox oy hs hs0 hh hx hy=>by
  obtain⟨D,rfl⟩:∃ D',D=D'+1:=⟨D - 1,by omega⟩
  rw[Bcs] at hh
  split at hh
  ·rename_i kd hu
   obtain⟨u,hu1,hh⟩:=ub hh
   obtain⟨a,ha,hh⟩:=ub hh
   obtain⟨v,hv1,hh⟩:=ub hh
   obtain⟨b,hb,hh⟩:=ub hh
   have ea:u=.int kd a:=by
    unfold A7t at ha;split at ha
    ·obtain⟨hk,ha'⟩:=uc ha;simp[Qg] at hk ha';subst hk ha';rfl
    ·simp at ha
   have eb:v=.int kd b:=by
    unfold A7t at hb;split at hb
    ·obtain⟨hk,hb'⟩:=uc hb;simp[Qg] at hk hb';subst hk hb';rfl
    ·simp at hb
   have px:=(hx 0 u hs0 (by rw[←List.head?_eq_getElem?];exact hu1)).1 kd a ea
   have py:=(hy 0 v hs0 (by rw[←List.head?_eq_getElem?];exact hv1)).1 kd b eb
   exact⟨_,_,_,hh,Y4 hu rfl (by simpa using px),Y4 hu rfl (by simpa using py),run_equalIn_int w D t kd kd a b hu⟩
  ·rename_i hu
   obtain⟨u,hu1,hh⟩:=ub hh
   obtain⟨a,ha,hh⟩:=ub hh
   obtain⟨v,hv1,hh⟩:=ub hh
   obtain⟨b,hb,hh⟩:=ub hh
   have ea:u=.bool a:=by unfold asBool at ha;split at ha<;>simp_all
   have eb:v=.bool b:=by unfold asBool at hb;split at hb<;>simp_all
   have px:=(hx 0 u hs0 (by rw[←List.head?_eq_getElem?];exact hu1)).2.1 a ea
   have py:=(hy 0 v hs0 (by rw[←List.head?_eq_getElem?];exact hv1)).2.1 b eb
   exact⟨_,_,_,hh,Y4 hu rfl (by simpa using px),Y4 hu rfl (by simpa using py),run_equalIn_bool' w D t a b hu⟩
  ·rename_i hu
   obtain⟨u,hu1,hh⟩:=ub hh
   obtain⟨a,ha,hh⟩:=ub hh
   obtain⟨v,hv1,hh⟩:=ub hh
   obtain⟨b,hb,hh⟩:=ub hh
   have ea:u=.str a:=by unfold A7u at ha;split at ha<;>simp_all
   have eb:v=.str b:=by unfold A7u at hb;split at hb<;>simp_all
   have px:=(hx 0 u hs0 (by rw[←List.head?_eq_getElem?];exact hu1)).2.2 a ea
   have py:=(hy 0 v hs0 (by rw[←List.head?_eq_getElem?];exact hv1)).2.2 b eb
   refine⟨_,_,_,hh,Y4 hu rfl (by simpa using px),Y4 hu rfl (by simpa using py),?_⟩
   have:=run_equalIn_string w D t ⟨⟨a⟩⟩ ⟨⟨b⟩⟩ hu
   rw[this]
   simp[ByteArray.toList_eq]
  ·rename_i fs hu
   obtain⟨sz,hsz,hh⟩:=ub hh
   obtain⟨hc,hh2⟩:=uc' hh
   simp only[Bool.or_eq_false_iff,Bool.not_eq_false'] at hc
   rw[hs] at hsz;simp at hsz;subst hsz
   obtain⟨b,h1,h2⟩:=Ak4 (Ax8 d D (by omega)) hx hy fs.toList hc.2 hh2
   refine⟨b,_,_,h1,Afo hu rfl hs,Afo hu rfl hs,?_⟩
   have hfo:P.fieldsOf t=fs:=by simp[Program.fieldsOf,hu]
   rw[run_equalIn_struct w D t _ _ (by rw[hfo];exact hu) hc.1,hfo]
   exact h2
  ·rename_i n e hu
   obtain⟨s',hse,hh⟩:=ub hh
   obtain⟨sz,hsz,hh⟩:=ub hh
   obtain⟨hc,hh2⟩:=uc hh
   simp only[Bool.and_eq_true,Nat.ble_eq] at hc
   rw[hs] at hsz;simp at hsz;subst hsz
   obtain⟨b,h1,h2⟩:=Aod (Ax8 d D (by omega)) hse (by omega) hx hy (List.range n) (fun i hi=>by
    have:=List.mem_range.1 hi
    have h3:(i+1)*s'≤n*s':=Nat.mul_le_mul_right _ this
    rw[Nat.succ_mul] at h3;omega) hh2
   refine⟨b,_,_,h1,Afo hu rfl hs,Afo hu rfl hs,?_⟩
   cases hi:P.info? e with
   | none=>simp[Cl,hi] at hse
   | some i =>
    have hcell:P.cellsOf e=s':=by simp[Cl,hi] at hse;simp[Program.cellsOf,hi,hse]
    rw[run_equalIn_array w D _ _ hu hi,hcell]
    exact h2
  ·simp at hh
theorem Bvi {c:List AV} {org:Bool} {v:Value} {a:List AV} {x:AV} (hx:Brp x=some a) (hr:Rep J β h w x v):∃ cs:List Value,v=.agg ⟨cs⟩∧cs.length=a.length∧∀ n,PRd n a (fun j=>(⟨cs⟩:Array Value)[0+j]?):=by
 unfold Brp at hx
 split at hx
 ·simp at hx;subst hx
  rw[Rep] at hr
  obtain⟨cs,h1,h2,h3⟩:=hr
  refine⟨cs,h1,h2,fun n j q _ hq=>?_⟩
  rw[Cm] at h3
  obtain⟨u,h4,h5⟩:=h3 j q hq
  simp only[Nat.zero_add] at h4 ⊢
  refine⟨fun k m hk=>?_,fun b hb=>?_,fun s hs=>?_⟩
  ·subst hk;rw[RepC] at h5;subst h5;simpa using h4
  ·subst hb;rw[RepC] at h5;subst h5;simpa using h4
  ·subst hs;rw[RepC] at h5;subst h5;simpa using h4
 ·simp at hx;subst hx
  rw[Rep] at hr
  obtain⟨cs,h1,h2⟩:=hr
  rw[Ck] at h2
  refine⟨cs,h1,h2.1,fun n j q _ hq=>?_⟩
  have hlt:j<cs.length:=by rw[h2.1];exact(List.getElem?_eq_some_iff.1 hq).1
  have h5:=h2.2 j q cs[j] hq (List.getElem?_eq_getElem hlt)
  simp only[Nat.zero_add]
  refine⟨fun k m hk=>?_,fun b hb=>?_,fun s hs=>?_⟩
  ·subst hk;rw[Rep] at h5;simp[hlt,h5]
  ·subst hb;rw[Rep] at h5;simp[hlt,h5]
  ·subst hs;rw[Rep] at h5;simp[hlt,h5]
 ·simp at hx
theorem Bvj {op:BinOp} {t:TypeId} {x y:AV} {k:AV→Option R} {vx vy:Value} (hh:Boi P t op x y k=some r) (hx:Rep J β h w x vx) (hy:Rep J β h w y vy) (ox oy:Operand) :
  ∃ v vc,k v=some r∧(do eqGuard op t ox oy vx vy;binOp op t vx vy:Sem Value).run P w=.ok vc w∧Rep J β h w v vc:=by
 unfold Boi at hh
 split at hh
 ·rename_i a b ha hb
  obtain⟨s,hs,hh⟩:=ub hh
  obtain⟨hc,hh⟩:=uc hh
  simp only[Bool.and_eq_true,Nat.ble_eq,Bool.not_eq_true'] at hc
  obtain⟨h1,h2,h3,hrt,h4⟩:=hc
  have h2:=Nat.eq_of_beq_eq_true h2
  have h3:=Nat.eq_of_beq_eq_true h3
  obtain⟨cs,rfl,hl,px⟩:=Bvi (c:=[]) (org:=false) ha hx
  obtain⟨cs',rfl,hl',py⟩:=Bvi (c:=[]) (org:=false) hb hy
  have hg:=run_eqGuard_agg w op t ox oy ⟨cs⟩ ⟨cs'⟩ h4
  have whole:∀ (l:List Value),l.length=s→(⟨l⟩:Array Value).extract 0 (0+s)=⟨l⟩:=by
   intro l hl;subst hl;simp
  have key:∀ {kk:Bool→Option R},Bcs P 8 t a b kk=some r→∃ c,kk c=some r∧(Op.equal t (.agg ⟨cs⟩) (.agg ⟨cs'⟩)).run P w=.ok c w:=by
   intro kk hk
   obtain⟨c,u,u',e1,e2,e3,e4⟩:=Ax8 8 10000 (by omega) r t s a b kk ⟨cs⟩ ⟨cs'⟩ 0 0 hs (by omega) hk (px s) (py s)
   refine⟨c,e1,?_⟩
   have hrow:∃ d,P.underlying t=some d∧d.isRow=true:=by
    unfold B6y at hrt
    split at hrt
    ·rename_i fs hu;exact⟨_,hu,rfl⟩
    ·rename_i n e hu;exact⟨_,hu,rfl⟩
    ·simp at hrt
   obtain⟨d,hu,hd⟩:=hrow
   rw[Afo hu hd hs,whole cs (by omega)] at e2
   rw[Afo hu hd hs,whole cs' (by omega)] at e3
   simp only[Result.ok.injEq,and_true] at e2 e3
   subst e2 e3
   exact e4
  split at hh
  ·obtain⟨c,e1,e2⟩:=key hh
   refine⟨_,.bool c,e1,?_,by rw[Rep]⟩
   simp only[Sem.run_bind,hg,Result.andThen_ok,binOp,e2,Sem.run_pure]
  ·obtain⟨c,e1,e2⟩:=key hh
   refine⟨_,.bool (!c),e1,?_,by rw[Rep]⟩
   simp only[Sem.run_bind,hg,Result.andThen_ok,binOp,e2,Sem.run_pure]
  ·simp at hh
 ·exact Byx hh hx hy ox oy
end
end Gx

namespace Gx
open Go Go.MapKept
section
variable {R:Type} {r:R} {P:Program} {J:Bool→Nat→Prop} {β:Cr} {h:Al} {w:World} {g:Bt}
theorem A5i:∀ (l:List Int) (n:Int),Bct (l.map fun m=>.int .i64 m) n=true↔n ∈ l
 | [],n=>by simp[Bct]
 | m::r,n=>by
  rw[List.map_cons,Bct]
  by_cases e:n=m
  ·simp[e]
  ·simp[e,A5i r n]
theorem Bvk {c:List AV} {es:Array MapEntry} {l:List Int} (hl:es.toList.map (fun e=>(e.key,e.val))=l.map (fun n=>((.int .i64 n:Value),(.bool true:Value)))) {x:MapEntry} (hx:x ∈ es.toList):∃ n,n ∈ l∧x.key=.int .i64 n∧x.val=.bool true:=by
 have:=List.mem_map_of_mem (f:=fun e:MapEntry=>(e.key,e.val)) hx
 rw[hl] at this
 obtain⟨n,hn,he⟩:=List.mem_map.1 this
 simp at he
 exact⟨n,hn,he.1.symm,he.2.symm⟩
theorem B68 {es:Array MapEntry} {l:List Int} (hl:es.toList.map (fun e=>(e.key,e.val))=l.map (fun n=>((.int .i64 n:Value),(.bool true:Value)))) {n:Int} (hn:n ∈ l):∃ x ∈ es.toList,x.key=.int .i64 n:=by
 have:=List.mem_map_of_mem (f:=fun n:Int=>((.int .i64 n:Value),(.bool true:Value))) hn
 rw[←hl] at this
 obtain⟨x,hx,he⟩:=List.mem_map.1 this
 simp at he
 exact⟨x,hx,he.1⟩
theorem Bvl {c:List AV} {es:Array MapEntry} (hm:B8s c es) (n:Int) :
  (Bct c n=false∧Instr.findNow (.int .i64) (.int .i64 n) es.toList 0=some none) ∨
  (Bct c n=true∧∃ j e,Instr.findNow (.int .i64) (.int .i64 n) es.toList 0=some (some (j,.bool true))∧es[j]?=some e∧e.key=.int .i64 n∧e.val=.bool true):=by
 obtain⟨l,rfl,hl⟩:=hm
 have hks:∀ x ∈ es.toList,IsKey (.int .i64) x.key:=fun x hx=>by
  obtain⟨m,_,h1,_⟩:=Bvk (c:=[]) hl hx
  rw[h1];simp[IsKey]
 rcases findNow_spec (d:=.int .i64) (k:=.int .i64 n) (by simp[IsKey]) es.toList 0 hks with⟨h1,h2⟩ | ⟨j,e,h1,h2,h3⟩
 ·left
  refine⟨?_,h1⟩
  cases hb:Bct (l.map fun m=>.int .i64 m) n with
  | false=>rfl
  | true =>
   obtain⟨x,hx,hk⟩:=B68 hl ((A5i l n).1 hb)
   exact absurd hk (h2 x hx)
 ·right
  have hmem:e ∈ es.toList:=List.mem_of_getElem? h2
  obtain⟨m,hm1,hm2,hm3⟩:=Bvk (c:=[]) hl hmem
  rw[h3] at hm2;simp at hm2;subst hm2
  refine⟨(A5i l n).2 hm1,j,e,?_,by simpa using h2,h3,hm3⟩
  rw[h1,hm3,Nat.zero_add]
theorem Bea {t:TypeId} (hs:Bru P t=true):∃ kt et,P.underlying t=some (.map kt et)∧P.underlying kt=some (.int .i64)∧∀ w,(zeroValue et).run P w=.ok (.bool false) w:=by
 unfold Bru at hs
 split at hs
 ·rename_i kt et hu
  simp only[Bool.and_eq_true] at hs
  obtain⟨h1,h2⟩:=hs
  refine⟨kt,et,hu,?_,fun w=>?_⟩
  ·split at h1
   ·assumption
   ·cases h1
  ·split at h2
   ·rename_i hz
    unfold Bu8 at hz
    cases hi:P.info? et with
    | none=>rw[hi] at hz;simp at hz
    | some i =>
     rw[hi] at hz
     cases hzz:i.zero with
     | none=>simp[hzz] at hz
     | some z =>
      simp[hzz] at hz
      have:z=.bool false:=by
       have h0:=Asi (J:=fun _ _=>False) (β:=fun _=>none) (h:=[]) (w:=w) z
       rw[hz,Rep] at h0;exact h0
      subst this
      simp[zeroValue,typeInfo,hi,hzz]
   ·cases h2
 ·cases hs
theorem B23 {b:Nat} {x:Blk} {v:Value} (S:SimH J β h w) (hb:Ao h b=some x) (hd:x.dead=false) (hr:Rep J β h w (.omap b) v) :
  ∃ k es clk,x.mp=true∧β b=some (k,0)∧v=.map (some k)∧w.heap[k]?=some (.map es clk)∧B8s x.cells es∧x.sealed=false∧x.pure=true:=by
 rw[Rep] at hr
 obtain⟨y,k,⟨hy,hm⟩,hv,hr⟩:=hr
 rw[hb] at hy;simp at hy;subst hy
 rcases hr with hr | hβ
 ·simp[hd] at hr
 ·obtain⟨h1,h2,k',es,clk,h3,h4,h5,_⟩:=S.mblk b x hb hd hm
  rw[hβ] at h3;simp at h3;subst h3
  exact⟨k,es,clk,hm,hβ,hv,h4,h5,h2,h1⟩
theorem Beb {d:Nat} {t:TypeId} {k:AV→Ups→Option R} (S:SimH J β h w) (hh:Zi d none k=some r) :
  ∃ val ups,k val ups=some r∧(UpsFree d h ups→∃ vc w',(Instr.makeMap t none).run P w=.ok vc w'∧OpDone J β h w ups val vc w'):=by
 unfold Zi at hh
 refine⟨_,_,hh,fun hf=>⟨.map (some w.heap.size),w.alloc (.map #[] 0),rfl,?_⟩⟩
 have A:=Step.newMap (x:={ dead:=false,sealed:=false,pure:=true,taint:=false,sz:=0,cells:=[],mp:=true }) S (hf.nid (by simp[A9])) rfl rfl rfl rfl rfl
 refine⟨_,_,A,?_⟩
 rw[Rep]
 exact⟨{ dead:=false,sealed:=false,pure:=true,taint:=false,sz:=0,cells:=[],mp:=true },w.heap.size,⟨by simp[An,Ag],rfl⟩,rfl,.inr (by simp)⟩
theorem Bvm {t:TypeId} {m key:AV} {c:Bool} {vm vk:Value} {k:AV→Option R} (S:SimH J β h w) (hl:Looks g h) (hh:Boo P g t m key c k=some r) (hm:Rep J β h w m vm) (hk:Rep J β h w key vk) :
  ∃ v vc,k v=some r∧(Instr.lookup t vm vk c).run P w=.ok vc w∧Rep J β h w v vc:=by
 unfold Boo at hh
 split at hh
 ·rename_i b n
  obtain⟨hs,h1⟩:=uc hh
  obtain⟨x,hx,h2⟩:=ub h1
  obtain⟨hmp,h3⟩:=uc h2
  obtain⟨hb,hd⟩:=Ky hl hx
  rw[Rep] at hk;subst hk
  obtain⟨kk,es,clk,_,hβ,rfl,hk,hr,_,_⟩:=B23 S hb hd hm
  obtain⟨kt,et,u1,u2,u3⟩:=Bea hs
  refine⟨_,.bool (Bct x.cells n),h3,?_,by rw[Rep]⟩
  have hik:IsKey (.int .i64) (.int .i64 n):=by simp[IsKey]
  rcases Bvl hr n with⟨g1,g2⟩ | ⟨g1,j,e,g2,_,_,_⟩
  ·rw[g1]
   simp[Instr.lookup,run_underlying u1,run_getObj_map hk,run_checkKey u2 hik,run_findKey u2 g2,u3,Result.andThen]
  ·rw[g1]
   simp[Instr.lookup,run_underlying u1,run_getObj_map hk,run_checkKey u2 hik,run_findKey u2 g2,Result.andThen]
 ·simp at hh
theorem Br9 {t:TypeId} {m key val:AV} {vm vk vv:Value} {k:AV→Ups→Option R} (S:SimH J β h w) (hl:Looks g h) (hh:A5c P g t m key val k=some r) (hm:Rep J β h w m vm) (hk:Rep J β h w key vk) (hv:Rep J β h w val vv) :
  ∃ ups,k .undef ups=some r∧∃ J' β' w',(Instr.mapUpdate t vm vk vv).run P w=.ok () w'∧Step J β h w J' β' (An ups h) w':=by
 unfold A5c at hh
 split at hh
 ·rename_i b n
  obtain⟨hs,h1⟩:=uc hh
  obtain⟨x,hx,h2⟩:=ub h1
  obtain⟨hmp,h3⟩:=uc h2
  obtain⟨hb,hd⟩:=Ky hl hx
  simp only[Rep] at hk hv;subst hk hv
  obtain⟨kk,es,clk,_,hβ,rfl,hk,hr,hsl,hpu⟩:=B23 S hb hd hm
  obtain⟨kt,et,u1,u2,u3⟩:=Bea hs
  have hik:IsKey (.int .i64) (.int .i64 n):=by simp[IsKey]
  have hlt:=Asl hk
  refine⟨_,h3,J,β,?_⟩
  rcases Bvl hr n with⟨g1,g2⟩ | ⟨g1,j,e,g2,g3,g4,g5⟩
  ·refine⟨{ w with heap:=w.heap.setIfInBounds kk (.map (es.push { key:=.int .i64 n,val:=.bool true,born:=clk }) (clk+1)) },?_,?_⟩
   ·simp[Instr.mapUpdate,run_underlying u1,run_getObj_map hk,run_checkKey u2 hik,run_findKey u2 g2,run_setObj_map _ hk,Result.andThen]
   ·refine Step.setMap S hb hd hmp hβ hk (heap_set hk).1 (fun j hj=>(heap_set hk).2 j hj) (by simp) rfl rfl rfl ?_ hd hsl hpu rfl hmp
    obtain⟨l,hl1,hl2⟩:=hr
    refine⟨l++[n],?_,?_⟩
    ·show B32 x.cells n=_
     unfold B32;rw[g1,hl1];simp
    ·simp[hl2]
  ·refine⟨{ w with heap:=w.heap.setIfInBounds kk (.map (es.modify j fun e=>{ e with key:=.int .i64 n,val:=.bool true }) clk) },?_,?_⟩
   ·simp[Instr.mapUpdate,run_underlying u1,run_getObj_map hk,run_checkKey u2 hik,run_findKey u2 g2,g3,g4,run_keyThatStays hik,run_setObj_map _ hk,Result.andThen]
   ·refine Step.setMap S hb hd hmp hβ hk (heap_set hk).1 (fun j hj=>(heap_set hk).2 j hj) (by simp) rfl rfl rfl ?_ hd hsl hpu rfl hmp
    obtain⟨l,hl1,hl2⟩:=hr
    refine⟨l,?_,?_⟩
    ·show B32 x.cells n=_
     unfold B32;rw[g1,hl1];rfl
    ·have:es.modify j (fun e=>{ e with key:=.int .i64 n,val:=.bool true })=es:=by
      apply Array.ext_getElem?
      intro i
      rw[Array.getElem?_modify]
      split
      ·rename_i hij;subst hij
       rw[g3];simp;rw[←g4,←g5]
      ·rfl
     rw[this];exact hl2
 ·simp at hh
end
end Gx

namespace Gx
open Go
def Ax9 (E:Env):Prop:=∀ (R:Type) (r:R) (k:AV→Ups→Option R) (J:Bool→Nat→Prop) (β:Cr) (h:Al) (w:World) (g:Bt) (d f:Nat) (args:List AV) (vs:List Value),
 SimH J β h w→Looks g h→Bop E g d f args k=some r→Reps J β h w args vs →
 ∃ val ups,k val ups=some r∧(UpsFree d h ups→Calls E.P f vs.toArray w fun e w'=>∃ vc,e=.returned vc∧OpDone J β h w ups val vc w')
section
variable {R:Type} {r:R} {P:Program} {J J':Bool→Nat→Prop} {β:Cr} {h:Al} {w w':World} {g:Bt} {o:Oper} {a:Act} {next:Act→World→Prop} {Q:Exit→Act→World→Prop}
theorem Ly {vc:Value} (hrun:(execOp a.eval o).run P w=.ok (.value vc) w') (hn:next (a.put o.dst vc) w'):o.wp P a w next Q:=by
 unfold Oper.wp;rw[hrun];exact hn
theorem Bvn (hrun:(execOp a.eval o).run P w=.ok .skip w') (hn:next (a.put o.dst undef) w'):o.wp P a w next Q:=by
 unfold Oper.wp;rw[hrun];exact hn
theorem OpDone.same (S:SimH J β h w) {v:AV} {vc:Value} (hv:Rep J β h w v vc):OpDone J β h w [] v vc w:=⟨J,β,Step.refl S,hv⟩
theorem Bec {s:Gg} (SS:SimS J β h w s a.tmps):∀ (xs:List Operand),Reps J β h w (xs.map (ev s)) (xs.map a.eval)
 | []=>by simp[Reps]
 | x::r=>by rw[List.map_cons,List.map_cons,Reps];exact⟨_,_,rfl,Bg SS x,Bec SS r⟩
theorem Yd {s:Gg} (SS:SimS J β h w s a.tmps):∀ (ps:List (Nat×Operand)),RepParts J β h w (ps.map fun p=>(p.1,ev s p.2)) (ps.map fun p=>(p.1,a.eval p.2))
 | []=>by simp[RepParts]
 | p::r=>by rw[List.map_cons,List.map_cons,RepParts];exact⟨_,_,rfl,Bg SS p.2,Yd SS r⟩
theorem Bed {s:Gg} (SS:SimS J β h w s a.tmps) (x:Option Operand):Ab1 J β h w (x.map (ev s)) (x.map a.eval):=by
 cases x with
 | none=>simp[Ab1]
 | some x=>simp[Ab1];exact Bg SS x
theorem Reps.append:∀ {c c':List AV} {cs cs':List Value},Reps J β h w c cs→Reps J β h w c' cs'→Reps J β h w (c++c') (cs++cs')
 | [],c',cs,cs',h1,h2=>by rw[Reps] at h1;subst h1;exact h2
 | x::r,c',cs,cs',h1,h2=>by
  rw[Reps] at h1
  obtain⟨u,us,rfl,h3,h4⟩:=h1
  rw[List.cons_append,List.cons_append,Reps]
  exact⟨u,us++cs',rfl,h3,Reps.append h4 h2⟩
theorem Bvo {J:Nat→Prop}:∀ {c:List AV} {cs:List Value},Bb c=true→Reps (fun _ _=>False) (fun _=>none) [] w c cs→RepCs J w c (fun j=>cs[j]?) 0∧cs.length=c.length:=by
 intro c cs hp hr
 rw[Ck] at hr
 refine⟨?_,hr.1⟩
 rw[Cm]
 intro j x hj
 have hlt:j<cs.length:=by rw[hr.1];exact(List.getElem?_eq_some_iff.1 hj).1
 refine⟨cs[j],by simp[hlt],?_⟩
 have h1:=hr.2 j x cs[j] hj (List.getElem?_eq_getElem hlt)
 have h2:Bb [x]=true:=by
  clear hr h1 hlt
  induction c generalizing j with
  | nil=>simp at hj
  | cons y r ih =>
   have hpr:Bb r=true:=by unfold Bb at hp;split at hp<;>simp_all
   cases j with
   | zero=>simp at hj;subst hj;cases y<;>simp_all[Bb]
   | succ j=>exact ih hpr j (by simpa using hj)
 cases x<;>simp[Bb] at h2<;>(rw[Rep] at h1;rw[RepC];exact h1)
theorem B38 {co:Bool} {v:AV} {vv:Value} (h0:∀ (J:Bool→Nat→Prop) (β:Cr) (h:Al),Rep J β h w v vv):Rep J β h w (B6z co v) vv:=by
 unfold B6z
 split
 ·rename_i c
  cases hp:Bb c with
  | false=>exact h0 J β h
  | true =>
   have h1:=h0 (fun _ _=>False) (fun _=>none) []
   rw[Rep] at h1
   obtain⟨cs,rfl,h2⟩:=h1
   obtain⟨h3,h4⟩:=Bvo (J:=J false) hp h2
   rw[cond_true,Rep]
   exact⟨cs,rfl,h4,h3⟩
 ·exact h0 J β h
theorem Bsa {co:Bool} {d:Nat} {t:TypeId} {k:AV→Ups→Option R} (S:SimH J β h w) (hl:Looks g h) (hh:A5a P g co d t k=some r) :
  ∃ v val ups,(∃ i,P.info? t=some i∧i.zero=some v)∧k val ups=some r∧(UpsFree d h ups→∃ vc w',(Instr.box t v).run P w=.ok vc w'∧OpDone J β h w ups val vc w'):=by
 have zv:∀ {z:AV},Bu8 P t=some z→∃ v,(∃ i,P.info? t=some i∧i.zero=some v)∧ofV v=z:=by
  intro z hz
  unfold Bu8 at hz
  cases hi:P.info? t with
  | none=>simp[hi] at hz
  | some i =>
   cases hiz:i.zero with
   | none=>simp[hi,hiz] at hz
   | some v=>simp[hi,hiz] at hz;exact⟨v,⟨i,rfl,hiz⟩,hz⟩
 unfold A5a at hh
 split at hh
 ·rename_i el hu hz
  obtain⟨v,hv,he⟩:=zv hz
  obtain⟨sz,hs,hh⟩:=ub hh
  refine⟨v,_,_,hv,hh,fun hf=>⟨_,_,Asm,?_⟩⟩
  have hr:=Asi (J:=J) (β:=β) (h:=h) (w:=w) v
  rw[he,Rep] at hr;subst hr
  have hnw:∀ b,b=nid d+1→Ak0 d b=true:=fun b hb=>by subst hb;unfold Ak0 nid;simp
  have h1:Ao h (nid d+1)=none:=hf _ (by simp[A9]) (hnw _ rfl)
  have h2:Ao h (nid d)=none:=hf.nid (by simp[A9])
  have A:=Step.newNone S (d:=nid d+1) (x:=Ft sz) h1 rfl
  have e:([(nid d+1,some (Ft sz)),(nid d,some { dead:=false,sealed:=false,pure:=false,taint:=false,sz:=0,cells:=[.own (nid d+1) 0 0] })]:Ups)=[(nid d+1,some (Ft sz))]++[(nid d,some { dead:=false,sealed:=false,pure:=false,taint:=false,sz:=0,cells:=[.own (nid d+1) 0 0] })]:=rfl
  rw[e]
  refine OpDone.after A (A0j A.sim ?_ rfl rfl (by simp[Value.cells]) ⟨fun hp=>by simp at hp,fun _ j y hj=>?_⟩) (Sw _ _)
  ·simp only[An];rw[Ag,if_neg (by omega)];exact h2
  ·cases j with
   | zero =>
    simp at hj;subst hj
    refine⟨.slice none 0 0,by simp[Value.cells],?_,rfl⟩
    rw[Rep]
    exact⟨Ft sz,none,0,⟨by simp[An,Ag],rfl⟩,rfl,Nat.le_refl _,.inl rfl⟩
   | succ j=>simp at hj
 ·rename_i z hz _
  obtain⟨v,hv,he⟩:=zv hz
  obtain⟨val,ups,h1,h2⟩:=Bd6 S hl hh (vv:=v) (B38 fun J β h=>by rw[←he];exact Asi v)
  exact⟨v,val,ups,hv,h1,h2⟩
 ·simp at hh
theorem Bvp {c x y:AV} {vc vx vy:Value} {k:AV→Option R} (hh:Boq c x y k=some r) (hc:Rep J β h w c vc) (hx:Rep J β h w x vx) (hy:Rep J β h w y vy) :
  ∃ v,k v=some r∧∃ t:Bool,vc=.bool t∧Rep J β h w v (if t then vx else vy):=by
 unfold Boq at hh
 split at hh
 ·rename_i t a b
  rw[Rep] at hc hx hy
  subst hc hx hy
  exact⟨_,hh,t,rfl,by cases t<;>simp[Rep]⟩
 ·rename_i t x _
  rw[Rep] at hc;subst hc
  obtain⟨ht,h1⟩:=uc hh
  subst ht
  exact⟨_,h1,true,rfl,hx⟩
 ·rename_i t _ _ _
  rw[Rep] at hc;subst hc
  obtain⟨ht,h1⟩:=uc' hh
  subst ht
  exact⟨_,h1,false,rfl,hy⟩
 ·rename_i t _ _ _
  rw[Rep] at hc;subst hc
  cases t
  ·exact⟨_,hh,false,rfl,hy⟩
  ·exact⟨_,hh,true,rfl,hx⟩
 ·simp at hh
theorem By4 {E:Env} (hC:Ax9 E) {d:Nat} {s:Gg} {k:AV→Ups→Option R} (S:SimH J β h w) (SS:SimS J β h w s a.tmps) (hl:Looks g h)
  (hh:Bmh E g d (ev s) o.op k=some r) :
  ∃ val ups,k val ups=some r∧(UpsFree d h ups→(∀ vc w',OpDone J β h w ups val vc w'→next (a.put o.dst vc) w')→o.wp E.P a w next Q):=by
 unfold Bmh at hh
 have same:∀ {v:AV} {vc:Value},k v []=some r→(execOp a.eval o).run E.P w=.ok (.value vc) w→Rep J β h w v vc →
   ∃ val ups,k val ups=some r∧(UpsFree d h ups→(∀ vc w',OpDone J β h w ups val vc w'→next (a.put o.dst vc) w')→o.wp E.P a w next Q) :=
  fun hk hrun hr=>⟨_,_,hk,fun _ hn=>Ly hrun (hn _ _ (OpDone.same S hr))⟩
 split at hh
 ·rename_i x ho
  exact same hh (by simp[execOp,ho]) (Bg SS x)
 ·rename_i x ho
  exact same hh (by simp[execOp,ho]) (Bg SS x)
 ·rename_i c x y ho
  obtain⟨v,h1,h2⟩:=Bvp hh (Bg SS c) (Bg SS x) (Bg SS y)
  obtain⟨t,ht,hr⟩:=h2
  refine same h1 (vc:=if t then a.eval x else a.eval y) ?_ hr
  cases t<;>simp[execOp,ho,ht,Go.asBool]
 ·rename_i t ho
  obtain⟨v,val,ups,h0,h1,h2⟩:=Bsa S hl hh
  refine⟨val,ups,h1,fun hf hn=>?_⟩
  obtain⟨vc,w',h3,h4⟩:=h2 hf
  refine Ly ?_ (hn vc w' h4)
  rw[Asm] at h3
  simp only[Result.ok.injEq] at h3
  obtain⟨rfl,rfl⟩:=h3
  obtain⟨i,hi,hiz⟩:=h0
  simp[execOp,ho,Instr.alloc,zeroValue,typeInfo,hi,hiz,newVar,newRow]
 ·rename_i t x ho
  obtain⟨v',h0,hv'⟩:=Br4 hh (Bg SS x)
  obtain⟨val,ups,h1,h2⟩:=Bd6 S hl h0 hv'
  refine⟨val,ups,h1,fun hf hn=>?_⟩
  obtain⟨vc,w',h3,h4⟩:=h2 hf
  exact Ly (by simp[execOp,ho,h3]) (hn vc w' h4)
 ·rename_i t parts ho
  rw[Ax7] at hh
  obtain⟨v,hv,hh⟩:=ub hh
  obtain⟨u,h1,h2⟩:=Br8 (P:=E.P) S hv (Yd SS parts.toList)
  obtain⟨val,ups,h3,h4⟩:=By1 S hh h2
  refine⟨val,ups,h3,fun hf hn=>Ly ?_ (hn _ _ (h4 hf))⟩
  have:(parts.map fun p=>(p.1,a.eval p.2))=(parts.toList.map fun p=>(p.1,a.eval p.2)).toArray:=by apply Array.ext';simp
  simp[execOp,ho,this,h1]
 ·rename_i t len parts ho
  have:(parts.map fun p=>(p.1,a.eval p.2))=(parts.toList.map fun p=>(p.1,a.eval p.2)).toArray:=by apply Array.ext';simp
  cases hhard:(parts.toList.map fun p=>(p.1,ev s p.2)).any fun p=>B60 p.2 with
  | true =>
   rw[hhard] at hh
   obtain⟨val,ups,h1,h2⟩:=A5h S hh (Yd SS parts.toList)
   refine⟨val,ups,h1,fun hf hn=>?_⟩
   obtain⟨vc,w',h3,h4⟩:=h2 hf
   exact Ly (by simp[execOp,ho,this,h3]) (hn vc w' h4)
  | false =>
   rw[hhard] at hh
   obtain⟨val,ups,h1,h2⟩:=A0m S hl hh (Yd SS parts.toList)
   refine⟨val,ups,h1,fun hf hn=>?_⟩
   obtain⟨vc,w',h3,h4⟩:=h2 hf
   exact Ly (by simp[execOp,ho,this,h3]) (hn vc w' h4)
 ·rename_i t p ho
  obtain⟨v,vc,h1,h2,h3⟩:=A71 S hl hh (Bg SS p)
  exact same h1 (by simp[execOp,ho,h2]) h3
 ·rename_i t p x ho
  obtain⟨val,ups,h1,J',β',w',h2,h3,rfl⟩:=Br3 S hl hh (Bg SS p) (Bg SS x)
  exact⟨.undef,ups,h1,fun _ hn=>Bvn (w':=w') (by simp[execOp,ho,h2]) (hn undef w' ⟨J',β',h3,by simp[Rep]⟩)⟩
 ·rename_i x ho
  have h1:=Bg SS x
  split at hh
  ·rename_i c oo hx
   rw[hx] at h1
   refine same hh (vc:=a.eval x) ?_ h1
   rw[Rep,RepC] at h1
   obtain⟨ad,h2,_⟩:=h1
   simp[execOp,ho,h2]
  ·rename_i b oo hx
   rw[hx] at h1
   refine same hh (vc:=a.eval x) ?_ h1
   rw[Rep] at h1
   obtain⟨_,kk,o',_,h2,_⟩:=h1
   simp[execOp,ho,h2]
  ·simp at hh
 ·rename_i op t x y t2 ho
  obtain⟨v,vc,h1,h2,h3⟩:=Bvj hh (Bg SS x) (Bg SS y) x y
  refine same h1 ?_ h3
  simp only[execOp,ho]
  rw[Sem.run_bind,h2];simp
 ·rename_i op t x ho
  obtain⟨v,hv,hh⟩:=ub hh
  obtain⟨vc,h2,h3⟩:=B36 (P:=E.P) hv (Bg SS x)
  exact same hh (by simp[execOp,ho,h2]) h3
 ·rename_i src dst x ho
  obtain⟨val,ups,h1,h2⟩:=Bvh S hl hh (Bg SS x)
  refine⟨val,ups,h1,fun hf hn=>?_⟩
  obtain⟨vc,w',h3,h4⟩:=h2 hf
  exact Ly (by simp[execOp,ho,h3]) (hn vc w' h4)
 ·rename_i f first caps ho
  obtain⟨hf,hh⟩:=uc hh
  have hf':f<1000000:=by simpa using hf
  have key:∀ (a n:Nat),a<1000000→(a+1000000*n)%1000000=a∧(a+1000000*n)/1000000=n:=by intro a n h;omega
  have e1:=(key f first.toList.length hf').1
  have e2:=(key f first.toList.length hf').2
  refine same (vc:=.func (.func f) ⟨first.toList.map a.eval⟩ ⟨caps.toList.map a.eval⟩) hh ?_ ?_
  ·simp only[execOp,ho,Instr.makeFunc]
   simp
   refine⟨?_,?_⟩<;>(apply Array.ext';simp)
  ·rw[Rep,e1,e2]
   refine⟨(first.toList++caps.toList).map a.eval,?_,Bec SS _⟩
   simp
 ·rename_i t l c ho
  obtain⟨val,ups,h1,h2⟩:=Bve S hh (Bg SS l) (Bg SS c)
  refine⟨val,ups,h1,fun hf hn=>?_⟩
  obtain⟨vc,w',h3,h4⟩:=h2 hf
  exact Ly (by simp[execOp,ho,h3]) (hn vc w' h4)
 ·rename_i t x lo hi mx ho
  obtain⟨v,vc,h1,h2,h3⟩:=Br2 hl hh (Bg SS x) (Bed SS lo) (Bed SS hi) (Bed SS mx)
  exact same h1 (by simp[execOp,ho,h2]) h3
 ·rename_i t x f ho
  obtain⟨v,vc,h1,h2,h3⟩:=A5g hh (Bg SS x)
  exact same h1 (by simp[execOp,ho,h2]) h3
 ·rename_i t x f ho
  obtain⟨v,vc,h1,h2,h3⟩:=Br0 hh (Bg SS x)
  exact same h1 (by simp[execOp,ho,h2]) h3
 ·rename_i t x i ho
  obtain⟨v,vc,h1,h2,h3⟩:=A5f hh (Bg SS x) (Bg SS i)
  exact same h1 (by simp[execOp,ho,h2]) h3
 ·rename_i t x i ho
  obtain⟨v,vc,h1,h2,h3⟩:=Br1 hh (Bg SS x) (Bg SS i)
  exact same h1 (by simp[execOp,ho,h2]) h3
 ·rename_i t rr ho
  cases rr with
  | some x=>simp[Zi] at hh
  | none =>
   obtain⟨val,ups,h1,h2⟩:=Beb (P:=E.P) (t:=t) S hh
   refine⟨val,ups,h1,fun hf hn=>?_⟩
   obtain⟨vc,w',h3,h4⟩:=h2 hf
   exact Ly (by simp[execOp,ho,h3]) (hn vc w' h4)
 ·rename_i t m x y ho
  obtain⟨ups,h1,J',β',w',h2,h3⟩:=Br9 S hl hh (Bg SS m) (Bg SS x) (Bg SS y)
  exact⟨.undef,ups,h1,fun _ hn=>Bvn (w':=w') (by simp[execOp,ho,h2]) (hn undef w' ⟨J',β',h3,by simp[Rep]⟩)⟩
 ·rename_i t m x c ho
  obtain⟨v,vc,h1,h2,h3⟩:=Bvm S hl hh (Bg SS m) (Bg SS x)
  exact same h1 (by simp[execOp,ho,h2]) h3
 ·rename_i t i ho
  split at hh
  ·rename_i vs ht
   obtain⟨v,hv,hh⟩:=ub hh
   have h1:=Bg SS t
   rw[ht,Rep] at h1
   obtain⟨cs,h2,h3⟩:=h1
   rw[Ck] at h3
   have hlt:i<cs.length:=by rw[h3.1];exact(List.getElem?_eq_some_iff.1 hv).1
   refine same hh (vc:=cs[i]) ?_ (h3.2 i v _ hv (List.getElem?_eq_getElem hlt))
   simp[execOp,ho,Instr.extract,h2,hlt]
  ·simp at hh
 ·rename_i c ho
  split at hh
  ·rename_i hc
   split at hh
   ·rename_i x t h1 h2
    obtain⟨v,hv,hh⟩:=ub hh
    have e1:c.args=#[x]:=by apply Array.ext';simpa using h1
    have e2:c.argTypes=#[t]:=by apply Array.ext';simpa using h2
    obtain⟨vc,h3,h4⟩:=Byy (P:=E.P) (ty:=o.type) hv (Bg SS x)
    refine same hh ?_ h4
    simp[execOp,ho,resolve,hc,e1,e2,invoke,builtin,h3]
   ·simp at hh
  ·rename_i hc
   split at hh
   ·rename_i x y t tx h1 h2
    have e1:c.args=#[x,y]:=by apply Array.ext';simpa using h1
    have e2:c.argTypes=#[t,tx]:=by apply Array.ext';simpa using h2
    obtain⟨val,ups,h3,h4⟩:=Bmj (ty:=o.type) S hl hh (Bg SS x) (Bg SS y)
    refine⟨val,ups,h3,fun hf hn=>?_⟩
    obtain⟨vc,w',h5,h6⟩:=h4 hf
    refine Ly ?_ (hn vc w' h6)
    simp[execOp,ho,resolve,hc,e1,e2,invoke,builtin,h5]
   ·simp at hh
  ·rename_i hc
   split at hh
   ·rename_i x y t tx h1 h2
    have e1:c.args=#[x,y]:=by apply Array.ext';simpa using h1
    have e2:c.argTypes=#[t,tx]:=by apply Array.ext';simpa using h2
    obtain⟨val,ups,h3,vc,w',h5,h6⟩:=Bvg (tx:=tx) (ty:=o.type) S hl hh (Bg SS x) (Bg SS y)
    refine⟨val,ups,h3,fun hf hn=>?_⟩
    refine Ly ?_ (hn vc w' h6)
    simp[execOp,ho,resolve,hc,e1,e2,invoke,builtin,h5]
   ·simp at hh
  ·rename_i hc
   split at hh
   ·rename_i x y h1
    obtain⟨v,hv,hh⟩:=ub hh
    have e1:c.args=#[x,y]:=by apply Array.ext';simpa using h1
    have h2:=Bg SS x
    have h3:=Bg SS y
    unfold B33 at hv
    split at hv
    ·rename_i k1 a1 k2 a2 hx hy
     simp at hv;subst hv
     rw[hx,Rep] at h2;rw[hy,Rep] at h3
     refine same hh (vc:=.int k1 (Fe a1 a2)) ?_ (by rw[Rep])
     simp[execOp,ho,resolve,hc,e1,invoke,builtin,h2,h3,Builtin.min_,Builtin.min2,Fe,cond_eq_ite]
    ·simp at hv
   ·rename_i x y z h1
    obtain⟨q,hq,hh⟩:=ub hh
    obtain⟨v,hv,hh⟩:=ub hh
    have e1:c.args=#[x,y,z]:=by apply Array.ext';simpa using h1
    have h2:=Bg SS x
    have h3:=Bg SS y
    have h4:=Bg SS z
    unfold B33 at hq
    split at hq
    ·rename_i k1 a1 k2 a2 hx hy
     simp at hq;subst hq
     unfold B33 at hv
     split at hv
     ·rename_i k3 a3 k4 a4 hx2 hz
      simp at hx2;obtain⟨rfl,rfl⟩:=hx2
      simp at hv;subst hv
      rw[hx,Rep] at h2;rw[hy,Rep] at h3;rw[hz,Rep] at h4
      refine same hh (vc:=.int k1 (Fe (Fe a1 a2) a4)) ?_ (by rw[Rep])
      simp[execOp,ho,resolve,hc,e1,invoke,builtin,h2,h3,h4,Builtin.min_,Builtin.min2,Fe,cond_eq_ite]
     ·simp at hv
    ·simp at hq
   ·simp at hh
  ·rename_i hc
   split at hh
   ·rename_i x y h1
    obtain⟨v,hv,hh⟩:=ub hh
    have e1:c.args=#[x,y]:=by apply Array.ext';simpa using h1
    have h2:=Bg SS x
    have h3:=Bg SS y
    unfold B34 at hv
    split at hv
    ·rename_i k1 a1 k2 a2 hx hy
     simp at hv;subst hv
     rw[hx,Rep] at h2;rw[hy,Rep] at h3
     refine same hh (vc:=.int k1 (Zk a1 a2)) ?_ (by rw[Rep])
     simp[execOp,ho,resolve,hc,e1,invoke,builtin,h2,h3,Builtin.max_,Builtin.max2,Zk,cond_eq_ite]
    ·simp at hv
   ·rename_i x y z h1
    obtain⟨q,hq,hh⟩:=ub hh
    obtain⟨v,hv,hh⟩:=ub hh
    have e1:c.args=#[x,y,z]:=by apply Array.ext';simpa using h1
    have h2:=Bg SS x
    have h3:=Bg SS y
    have h4:=Bg SS z
    unfold B34 at hq
    split at hq
    ·rename_i k1 a1 k2 a2 hx hy
     simp at hq;subst hq
     unfold B34 at hv
     split at hv
     ·rename_i k3 a3 k4 a4 hx2 hz
      simp at hx2;obtain⟨rfl,rfl⟩:=hx2
      simp at hv;subst hv
      rw[hx,Rep] at h2;rw[hy,Rep] at h3;rw[hz,Rep] at h4
      refine same hh (vc:=.int k1 (Zk (Zk a1 a2) a4)) ?_ (by rw[Rep])
      simp[execOp,ho,resolve,hc,e1,invoke,builtin,h2,h3,h4,Builtin.max_,Builtin.max2,Zk,cond_eq_ite]
     ·simp at hv
    ·simp at hq
   ·simp at hh
  ·rename_i fo hc
   split at hh
   ·rename_i f0 caps hf
    have h1:=Bg SS fo
    rw[hf,Rep] at h1
    obtain⟨cs0,h2,h30⟩:=h1
    obtain⟨hbody,hh⟩:=uc hh
    have htk:Reps J β h w (caps.take (f0/1000000)) (cs0.take (f0/1000000))∧Reps J β h w (caps.drop (f0/1000000)) (cs0.drop (f0/1000000)):=by
     rw[Ck] at h30
     refine⟨Ck.2 ⟨by simp[h30.1],fun j x u hx hu=>?_⟩,Ck.2 ⟨by simp[h30.1],fun j x u hx hu=>?_⟩⟩
     ·rw[List.getElem?_take] at hx hu
      split at hx
      ·rename_i hj;rw[if_pos hj] at hu;exact h30.2 j x u hx hu
      ·simp at hx
     ·rw[List.getElem?_drop] at hx hu;exact h30.2 _ x u hx hu
    generalize f0%1000000=f at *
    generalize cs0.take (f0/1000000)=fs at *
    generalize cs0.drop (f0/1000000)=cs at *
    obtain⟨val,ups,h4,h5⟩:=hC R r k J β h w g d f _ _ S hl hh (htk.1.append ((Bec SS c.args.toList).append htk.2))
    refine⟨val,ups,h4,fun hfr hn=>?_⟩
    have hcall:=h5 hfr
    unfold B2v at hbody
    cases hfn:E.P.funcs[f]? with
    | none=>rw[hfn] at hbody;simp at hbody
    | some fn =>
     rw[hfn] at hbody
     simp at hbody
     obtain⟨hb1,hb2⟩:=hbody
     have hb3:fn.body.isNone=false:=by cases hq:fn.body<;>simp_all
     have hargs:(⟨fs⟩:Array Value)++c.args.map a.eval++(⟨cs⟩:Array Value)=(fs++(c.args.toList.map a.eval++cs)).toArray:=by apply Array.ext';simp
     have hrun:(execOp a.eval o).run E.P w=.ok (.enter f (fs++(c.args.toList.map a.eval++cs)).toArray) w:=by
      simp only[execOp,ho,Sem.run_bind,resolve,hc,h2,Deferred.ofValue,Sem.run_pure,Result.andThen_ok,invoke,callFunc,run_program,hfn]
      simp only[hb3,hargs]
      simp[hb2]
     unfold Oper.wp
     rw[hrun]
     refine Calls.mono hcall ?_
     rintro e w' ⟨vc,rfl,hd⟩
     exact hn vc w' hd
   ·simp at hh
  ·simp at hh
 ·simp at hh
end
end Gx

namespace Gx
open Go
structure Start where
 J:Bool→Nat→Prop
 β:Cr
 h:Al
 w:World
structure Inv (Z:Start) (nt:Nat) (J:Bool→Nat→Prop) (β:Cr) (st:St) (a:Act) (w:World):Prop where
 sim:SimH J β st.h w
 ss:SimS J β st.h w st.s a.tmps
 tmps:a.tmps.size=nt
 defers:a.defers=[]
 os:w.os=Z.w.os
 tape:w.tape=Z.w.tape
 output:w.output=Z.w.output
 size:Z.w.heap.size≤w.heap.size
 frame:∀ k,k<Z.w.heap.size→¬ Mut Z.β Z.h k→w.heap[k]?=Z.w.heap[k]?
 wr:∀ k,Mut β st.h k→k<Z.w.heap.size→Mut Z.β Z.h k
 jsub:∀ o k,Z.J o k→J o k
 jup:∀ o k,J o k→Z.J o k∨Mut Z.β Z.h k∨Z.w.heap.size≤k
 sizes:∀ k,Bj Z.w k≤Bj w k
 zlt:∀ b x0,Ao Z.h b=some x0→b<200000
 zge:∀ b x0,Ao Z.h b=some x0→100000≤b
 outs:∀ b x0 x,Ao Z.h b=some x0→Ao st.h b=some x→x.dead=false→(β b=Z.β b∧x.mp=x0.mp)∧x.sz=x0.sz∧(x0.mp=false→x.cells.length=x0.cells.length)∧x0.dead=false
section
variable {R:Type} {r:R} {Z:Start} {nt:Nat} {J J':Bool→Nat→Prop} {β β':Cr} {st:St} {h':Al} {a:Act} {w w':World} {ops:Array Oper} {o:Oper}
theorem Nd {s:Gg} {d:Option Nat} {v:AV} {i:Nat}:Fs (Byw nt s d v) i=if d=some i∧i<nt then v else Fs s i:=by
 unfold Byw
 cases d with
 | none=>simp
 | some d =>
  simp only[Option.some.injEq]
  cases hb:Nat.blt d nt with
  | true =>
   have hlt:d<nt:=by simpa using hb
   simp only[cond_true]
   rw[Nb]
   by_cases e:i=d
   ·subst e;simp[hlt]
   ·rw[if_neg e,if_neg (fun hh=>e hh.1.symm)]
  | false =>
   have hlt:¬ d<nt:=by intro hl;rw[show Nat.blt d nt=true by simpa using hl] at hb;cases hb
   simp only[cond_false]
   rw[if_neg (fun hh=>by obtain⟨h1,h2⟩:=hh;subst h1;exact hlt h2)]
theorem SimS.put {h:Al} {s:Gg} {d:Option Nat} {v:AV} {vc:Value} (H:SimS J β h w s a.tmps) (hn:a.tmps.size=nt) (hv:Rep J β h w v vc):SimS J β h w (Byw nt s d v) (a.put d vc).tmps:=by
 refine⟨fun i u hu=>?_,fun i hi=>?_⟩
 ·rw[Nd]
  cases d with
  | none=>simp;exact H.slot i u hu
  | some d =>
   simp only[Act.put] at hu
   rw[Array.getElem?_setIfInBounds] at hu
   by_cases e:d=i
   ·subst e
    simp only[if_true] at hu
    by_cases hlt:d<a.tmps.size
    ·simp[hlt] at hu;subst hu
     rw[if_pos ⟨rfl,by omega⟩];exact hv
    ·simp[hlt] at hu
   ·rw[if_neg e] at hu
    rw[if_neg (fun hh=>e (by simpa using hh.1))]
    exact H.slot i u hu
 ·have hs:(a.put d vc).tmps.size=a.tmps.size:=by cases d<;>simp[Act.put]
  rw[hs] at hi
  rw[Nd,if_neg (by omega)]
  exact H.out i hi
theorem SimS.ext {h:Al} {s:Gg} {t:Array Value} (E:Ext J β h w J' β' h' w') (H:SimS J β h w s t):SimS J' β' h' w' s t :=
 ⟨fun i v hv=>Rep.ext E (H.slot i v hv),H.out⟩
theorem Inv.step (I:Inv Z nt J β st a w) (A:Step J β st.h w J' β' h' w') (hnew:∀ b x,Ao h' b=some x→Ao st.h b=none→G1≤b):Inv Z nt J' β' { s:=st.s,h:=h' } a w' where
 sim:=A.sim
 ss:=I.ss.ext A.ext
 tmps:=I.tmps
 defers:=I.defers
 os:=A.os.trans I.os
 tape:=A.tape.trans I.tape
 output:=A.output.trans I.output
 size:=Nat.le_trans I.size A.size
 frame k hk hm:=(A.frame k (Nat.lt_of_lt_of_le hk I.size) (fun hm'=>hm (I.wr k hm' hk))).trans (I.frame k hk hm)
 wr k hm hk:=I.wr k (A.wr k hm (Nat.lt_of_lt_of_le hk I.size)) hk
 jsub o k hj:=A.ext.jsub o k (I.jsub o k hj)
 jup o k hj:=by
  rcases A.jup o k hj with h1 | h1 | h1
  ·exact I.jup o k h1
  ·by_cases hk:k<Z.w.heap.size
   ·exact .inr (.inl (I.wr k h1 hk))
   ·exact .inr (.inr (by omega))
  ·exact .inr (.inr (Nat.le_trans I.size h1))
 sizes k:=by
  refine Nat.le_trans (I.sizes k) ?_
  by_cases hm:∃ b o,β b=some (k,o)
  ·obtain⟨b,o,hb⟩:=hm;exact A.ext.size b k o hb
  ·by_cases hk:k<w.heap.size
   ·have:=A.frame k hk (fun ⟨b,x,o,_,_,_,hb⟩=>hm ⟨b,o,hb⟩)
    simp[Bj,this]
   ·simp[Bj,Array.getElem?_eq_none (Nat.le_of_not_lt hk)]
 outs b x0 x h0 hx hd:=by
  cases hb:Ao st.h b with
  | none=>have:=hnew b x hx hb;have:=I.zlt b x0 h0;unfold G1 at *;omega
  | some y =>
   obtain⟨x',⟨g1,gm⟩,g2⟩:=A.ext.blk b y hb
   change Ao h' b=some x at hx
   rw[hx] at g1;simp at g1;subst g1
   rcases g2 with g2 | ⟨g2,g3,g4,g5⟩
   ·simp[hd] at g2
   ·obtain⟨⟨e1,em⟩,e2,e3,e4⟩:=I.outs b x0 y h0 hb g2
    exact⟨⟨g3.trans e1,gm.trans em⟩,g4.trans e2,fun h=>(g5 (em.trans h)).trans (e3 h),e4⟩
 zlt:=I.zlt
 zge:=I.zge
theorem Inv.put (I:Inv Z nt J β st a w) {d:Option Nat} {v:AV} {vc:Value} (hv:Rep J β st.h w v vc):Inv Z nt J β { s:=Byw nt st.s d v,h:=st.h } (a.put d vc) w where
 sim:=I.sim
 ss:=I.ss.put I.tmps hv
 tmps:=by cases d<;>simp[Act.put,I.tmps]
 defers:=by cases d<;>simp[Act.put,I.defers]
 os:=I.os
 tape:=I.tape
 output:=I.output
 size:=I.size
 frame:=I.frame
 wr:=I.wr
 jsub:=I.jsub
 jup:=I.jup
 sizes:=I.sizes
 zlt:=I.zlt
 zge:=I.zge
 outs:=I.outs
theorem Bee {d:Nat} {F:List Nat} {h:Al}:∀ {ups:Ups},Auh d F h ups=true→∀ b,A9 ups b=true→(Ak0 d b=true∧Ao h b=none)∨(Ak0 d b=false∧Iv F b=true∧∃ x,Ao h b=some x)
 | [],_,b,hb=>by simp[A9] at hb
 | (i,_)::r,hu,b,hb=>by
  rw[Auh] at hu
  simp at hu
  rw[A9] at hb
  cases hi:Nat.beq i b with
  | true =>
   have:i=b:=Nat.eq_of_beq_eq_true hi
   subst this
   cases hn:Ak0 d i with
   | true=>rw[hn] at hu;simp at hu;exact .inl ⟨rfl,hu.1⟩
   | false =>
    rw[hn] at hu;simp at hu
    obtain⟨⟨h1,h2⟩,_⟩:=hu
    exact .inr ⟨rfl,h1,Option.isSome_iff_exists.1 h2⟩
  | false=>rw[hi] at hb;exact Bee hu.2 b (by simpa using hb)
theorem B69 {d b:Nat} (hn:Ak0 d b=true):G1≤b:=by
 unfold Ak0 nid at hn
 simp at hn
 unfold G1;omega
theorem Bsb {d:Nat} {F:List Nat} {h:Al} {ups:Ups} (hu:Auh d F h ups=true) {b:Nat} {x:Blk} (hx:Ao (An ups h) b=some x) (hn:Ao h b=none):G1≤b:=by
 cases hi:A9 ups b with
 | false=>rw[Cs _ _ _ hi,hn] at hx;cases hx
 | true =>
  rcases Bee hu b hi with⟨h1,_⟩ | ⟨_,_,y,hy⟩
  ·exact B69 h1
  ·rw[hn] at hy;cases hy
theorem By5 {h:Al} {F:List Nat}:Looks (fun b=>cond (Iv F b) (Ao h b) none) h:=fun b x hb=>by
 cases hm:Iv F b with
 | true=>simpa[hm] using hb
 | false=>simp[hm] at hb
theorem Bmk {h:Al} {s:Gg} (H:SimS J β h w s a.tmps) {t:Bool} (hw:Aij ops s o=some t):Region.wanted o (yielded ops a.tmps)=t:=by
 unfold Aij at hw
 unfold Region.wanted
 split at hw
 ·rename_i hg;rw[hg];simpa using hw
 ·rename_i j want hg
  rw[hg]
  simp only
  unfold yielded
  split at hw
  ·rename_i t' ht
   rw[ht]
   simp only[Option.bind_some]
   cases hv:a.tmps[t']? with
   | none =>
    have:=H.out t' (by simpa using hv)
    rw[this] at hw;simp at hw
   | some v =>
    have hr:=H.slot t' v hv
    split at hw
    ·rename_i b hb
     rw[hb,Rep] at hr;subst hr
     simp at hw;subst hw
     simp
    ·rename_i hb
     rw[hb,Rep] at hr
     obtain⟨cs,rfl,hc⟩:=hr
     rw[Reps] at hc;subst hc
     simp at hw;subst hw
     simp
    ·simp at hw
  ·rename_i ht
   rw[ht]
   simp at hw;subst hw
   simp
theorem Bef {E:Env} (hC:Ax9 E) (I:Inv Z E.nt J β st a w) {k:St→Foot→Option R} (hh:Bvc E ops o st k=some r) {K:Act→World→Prop} {Q:Exit→Act→World→Prop} :
  ∃ st' f,k st' f=some r∧((∀ a' w' J' β',Inv Z E.nt J' β' st' a' w'→K a' w')→if Region.wanted o (yielded ops a.tmps) then o.wp E.P a w K Q else K (a.put o.dst undef) w):=by
 unfold Bvc at hh
 obtain⟨t,ht,h1⟩:=ub hh
 rw[Bmk I.ss ht]
 cases t with
 | false =>
  refine⟨_,_,h1,fun hK=>?_⟩
  simp only[Bool.false_eq_true,if_false]
  exact hK _ _ J β (I.put (by rw[Rep];exact⟨[],rfl,by rw[Reps]⟩))
 | true =>
  rw[cond_true] at h1
  obtain⟨val,ups,h2,h3⟩:=By4 (o:=o) (next:=K) (Q:=Q) hC I.sim I.ss By5 h1
  obtain⟨hu,h4⟩:=uc h2
  refine⟨_,_,h4,fun hK=>?_⟩
  simp only[if_true]
  refine h3 (fun b hb hn=>?_) (fun vc w' hd=>?_)
  ·rcases Bee hu b hb with⟨_,g⟩ | ⟨g,_⟩
   ·exact g
   ·rw[hn] at g;cases g
  ·obtain⟨J',β',A,hv⟩:=hd
   exact hK _ _ J' β' ((I.step A (fun b x hx hn=>Bsb hu hx hn)).put hv)
def Eqv (a b:St):Prop:=(∀ t,Fs a.s t=Fs b.s t)∧(∀ b',Ao a.h b'=Ao b.h b')
theorem Eqv.refl (a:St):Eqv a a:=⟨fun _=>rfl,fun _=>rfl⟩
theorem Eqv.symm {a b:St} (h:Eqv a b):Eqv b a:=⟨fun t=>(h.1 t).symm,fun t=>(h.2 t).symm⟩
theorem Eqv.trans {a b c:St} (h:Eqv a b) (k:Eqv b c):Eqv a c:=⟨fun t=>(h.1 t).trans (k.1 t),fun t=>(h.2 t).trans (k.2 t)⟩
theorem Inv.eqv {nt:Nat} {J:Bool→Nat→Prop} {β:Cr} {st st2:St} {a:Act} {w:World} (I:Inv Z nt J β st a w) (h:Eqv st st2):Inv Z nt J β st2 a w:=by
 have hr:∀ {x v},Rep J β st.h w x v→Rep J β st2.h w x v:=fun hx=>Rep.ext ⟨fun _ _ hj=>hj,fun _ _ _=>rfl,fun b x hb=>⟨x,⟨by rw[←h.2 b];exact hb,rfl⟩,by cases hd:x.dead<;>simp⟩,fun _ _ _ _=>Nat.le_refl _⟩ hx
 refine⟨⟨I.sim.jlt,I.sim.jft,fun b x hb hd hm=>?_,fun b x hb hd hm=>I.sim.mblk b x (by rw[h.2];exact hb) hd hm,fun b b' x x' k o o' hb hb'=>I.sim.sep b b' x x' k o o' (by rw[h.2];exact hb) (by rw[h.2];exact hb')⟩,⟨fun i v hv=>by rw[←h.1 i];exact hr (I.ss.slot i v hv),fun i hi=>by rw[←h.1 i];exact I.ss.out i hi⟩,I.tmps,I.defers,I.os,I.tape,I.output,I.size,I.frame,?_,I.jsub,I.jup,I.sizes,I.zlt,I.zge,fun b x0 x h0 hx=>I.outs b x0 x h0 (by rw[h.2];exact hx)⟩
 ·rcases I.sim.blk b x (by rw[h.2];exact hb) hd hm with h1 | ⟨k,o,cs,ty,fr,h1,h2,h3,h4,h5,h6⟩
  ·exact .inl h1
  ·exact .inr ⟨k,o,cs,ty,fr,h1,h2,h3,h4,⟨h5.1,fun hp j c hj=>by
    obtain⟨u,g1,g2,g3⟩:=h5.2 hp j c hj
    exact⟨u,g1,hr g2,g3⟩⟩,h6⟩
 ·rintro k ⟨b,x,o,hb,hd,hs,hβ⟩ hk
  exact I.wr k ⟨b,x,o,by rw[h.2];exact hb,hd,hs,hβ⟩ hk
theorem Beg {st:St} {k:St→Option R} (hh:A5d ops o st k=some r):∃ st',Eqv st st'∧k st'=some r:=by
 unfold A5d at hh
 split at hh
 ·exact⟨st,Eqv.refl _,hh⟩
 ·rename_i j want hg
  split at hh
  ·exact⟨st,Eqv.refl _,hh⟩
  ·rename_i t ht
   split at hh
   ·rename_i b hb
    have key:∀ c:Bool,b=c→Eqv st { s:=Ax0 st.s t (.bool c),h:=st.h }:=by
     intro c hc
     refine⟨fun i=>?_,fun _=>rfl⟩
     simp only
     rw[Nb]
     by_cases e:i=t
     ·subst e;rw[if_pos rfl,hb,hc]
     ·rw[if_neg e]
    cases hw:(b==want) with
    | true =>
     rw[hw] at hh
     exact⟨_,key want (by simpa using hw),hh⟩
    | false =>
     rw[hw] at hh
     exact⟨_,key (!want) (by cases b<;>cases want<;>simp_all),hh⟩
   ·exact⟨st,Eqv.refl _,hh⟩
theorem Beh {E:Env} (hC:Ax9 E) {Q:Exit→Act→World→Prop}:∀ (l:List Oper) {st:St} {tr:List Foot} {k:St→List Foot→Option R} {a:Act} {w:World} {J:Bool→Nat→Prop} {β:Cr},
  Inv Z E.nt J β st a w→Bd2 E ops l st tr k=some r→(∀ st' tr' a' w' J' β',Inv Z E.nt J' β' st' a' w'→k st' tr'=some r→Q .normal a' w')→wpList E.P ops Q l a w
 | [],st,tr,k,a,w,J,β,I,hh,hQ=>hQ st tr a w J β I hh
 | o::l,st,tr,k,a,w,J,β,I,hh,hQ=>by
  rw[Bd2] at hh
  obtain⟨st1,he,hh⟩:=Beg hh
  obtain⟨st',f,h1,h2⟩:=Bef (K:=wpList E.P ops Q l) (Q:=Q) hC (I.eqv he) hh
  have:=h2 (fun a' w' J' β' I'=>Beh hC l I' h1 hQ)
  rw[wpList]
  split
  ·rename_i hw;rw[if_pos hw] at this;exact .inl this
  ·rename_i hw;rw[if_neg hw] at this;exact this
end
end Gx

namespace Gx
open Go
theorem Kq:∀ {l:List Nat} {b:Nat},Iv l b=true↔b ∈ l
  | [],b=>by simp[Iv]
  | i::r,b=>by
    rw[Iv]
    cases hi:Nat.beq i b with
    | true=>have:=Nat.eq_of_beq_eq_true hi;subst this;simp
    | false => have := Wz hi; simp only [cond_false, List.mem_cons]; rw [Kq]; constructor
               · exact fun h=>.inr h
               · rintro(h | h)
                 · exact absurd h.symm this
                 · exact h
theorem Sz:∀ {l:List Nat},An4 l=true→l.Nodup
 | [],_=>List.nodup_nil
 | i::r,h=>by
  rw[An4] at h;simp at h
  refine List.nodup_cons.2 ⟨fun hm=>?_,Sz h.2⟩
  rw[Kq.2 hm] at h;simp at h
theorem A5j {g:Bt} {ids:List Nat}:∀ {l:List Nat},Bd4 g ids l=true→∀ b ∈ l,∀ x,It g b=some x→b ∈ ids
 | [],_,b,hb,_,_=>by simp at hb
 | i::r,h,b,hb,x,hx=>by
  rw[Bd4] at h;simp at h
  rcases List.mem_cons.1 hb with e | hb
  ·subst e
   rcases h.1 with h1 | h1
   ·exact Kq.1 h1
   ·rw[hx] at h1;simp at h1
  ·exact A5j h.2 b hb x hx
theorem Bvq:∀ {l:List Nat},B2y l=true→∀ b ∈ l,G1≤b→Kp b<100000
 | [],_,b,hb,_=>by simp at hb
 | i::r,h,b,hb,hn=>by
  rw[B2y] at h;simp at h
  rcases List.mem_cons.1 hb with e | hb
  ·subst e
   have:Nat.ble G1 b=true:=by simpa using hn
   rw[this] at h;simpa using h.1
  ·exact Bvq h.2 b hb hn
theorem Zq (g:Bt):∀ c:List AV,(Jm g c).length=c.length
 | []=>rfl
 | x::r=>by rw[Jm,List.length_cons,List.length_cons,Zq g r]
section
variable {R:Type} {r:R} {Z:Start} {nt:Nat} {J J':Bool→Nat→Prop} {β β':Cr} {st:St} {h h':Al} {a:Act} {w w':World} {ids:List Nat}
def Nx (g:Bt) (x:Blk):Blk:={ x with cells:=cond x.pure x.cells (Jm g x.cells) }
theorem Aya {g:Bt}:∀ {ids:List Nat},(ids.map Kp).Nodup→∀ c y,Ao (Zm g ids) c=some y→∃ b x,b ∈ ids∧Kp b=c∧It g b=some x∧y=Nx g x
 | [],_,c,y,hc=>by simp[Zm,Ao] at hc
 | b::r,hn,c,y,hc=>by
  rw[List.map_cons,List.nodup_cons] at hn
  rw[Zm] at hc
  split at hc
  ·rename_i x hx
   rw[Ag] at hc
   by_cases e:c=Kp b
   ·rw[if_pos e] at hc;simp at hc
    exact⟨b,x,by simp,e.symm,hx,hc.symm⟩
   ·rw[if_neg e] at hc
    obtain⟨b',x',h1,h2,h3,h4⟩:=Aya hn.2 c y hc
    exact⟨b',x',by simp[h1],h2,h3,h4⟩
  ·obtain⟨b',x',h1,h2,h3,h4⟩:=Aya hn.2 c y hc
   exact⟨b',x',by simp[h1],h2,h3,h4⟩
theorem Zr {g:Bt}:∀ {ids:List Nat},(ids.map Kp).Nodup→∀ b x,b ∈ ids→It g b=some x→Ao (Zm g ids) (Kp b)=some (Nx g x)
 | [],_,b,x,hb,_=>by simp at hb
 | b'::r,hn,b,x,hb,hx=>by
  rw[List.map_cons,List.nodup_cons] at hn
  rw[Zm]
  by_cases e:b=b'
  ·subst e
   rw[hx]
   simp only
   rw[Ag,if_pos rfl];rfl
  ·have hm:b ∈ r:=by simpa[e] using hb
   have ne:Kp b≠Kp b':=fun h=>hn.1 (by rw[←h];exact List.mem_map.2 ⟨b,hm,rfl⟩)
   split
   ·rw[Ag,if_neg ne];exact Zr hn.2 b x hm hx
   ·exact Zr hn.2 b x hm hx
def Bei (ids:List Nat) (c:Nat):Option Nat:=ids.find? fun b=>Nat.beq (Kp b) c
theorem Kz (hn:(ids.map Kp).Nodup) {b:Nat} (hb:b ∈ ids):Bei ids (Kp b)=some b:=by
 induction ids with
 | nil=>simp at hb
 | cons i r ih =>
  rw[List.map_cons,List.nodup_cons] at hn
  unfold Bei at ih ⊢
  rw[List.find?_cons]
  by_cases e:b=i
  ·subst e;simp
  ·have hm:b ∈ r:=by simpa[e] using hb
   have ne:Kp i≠Kp b:=fun h=>hn.1 (by rw[h];exact List.mem_map.2 ⟨b,hm,rfl⟩)
   rw[Atq ne];exact ih hn.2 hm
def B9y (g:Bt) (ids:List Nat) (l:List Nat):Prop:=∀ b ∈ l,∀ x,It g b=some x→b ∈ ids
theorem B39 {b:Nat}:It (Ao h) b=(Ao h b).bind fun x=>cond x.dead none (some x):=rfl
theorem Ayb {b:Nat} {x y:Blk} (hx:Ao h b=some x) (hv:It (Ao h) b=some y):y=x∧x.dead=false:=by
 rw[B39,hx] at hv
 cases hd:x.dead with
 | true=>simp[hd] at hv
 | false=>simp[hd] at hv;exact⟨hv.symm,rfl⟩
mutual
theorem Rep.clean (hn:(ids.map Kp).Nodup):∀ {x:AV} {v:Value},B9y (Ao h) ids (Gh x)→Rep J β h w x v →
  Rep J (fun c=>(Bei ids c).bind β) (Zm (Ao h) ids) w (Zl (Ao h) x) v
 | .own b off n,v,hm,hr=>by
  rw[Rep] at hr
  obtain⟨x,A,cap,⟨hx,hmp⟩,h1,h2,h3⟩:=hr
  rw[Zl]
  cases hv:It (Ao h) b with
  | none=>simp only;rw[Rep];trivial
  | some y =>
   obtain⟨rfl,hd⟩:=Ayb hx hv
   have hb:=hm b (by simp[Gh]) _ hv
   simp only
   rw[Rep]
   refine⟨Nx (Ao h) y,A,cap,⟨Zr hn b y hb hv,hmp⟩,h1,h2,?_⟩
   rcases h3 with h3 | ⟨k,o,h4,h5⟩
   ·exact .inl h3
   ·refine .inr ⟨k,o,h4,?_⟩
    rcases h5 with h5 | ⟨h5,h6,h7⟩
    ·simp[hd] at h5
    ·refine .inr ⟨by rw[Kz hn hb];exact h5,h6,?_⟩
     have:(Nx (Ao h) y).cells.length=y.cells.length:=by
      unfold Nx;cases y.pure
      ·simp;exact Zq _ _
      ·rfl
     rw[this];exact h7
 | .optr b off,v,hm,hr=>by
  rw[Rep] at hr
  obtain⟨x,k,o,⟨hx,hmp⟩,h1,h2⟩:=hr
  rw[Zl]
  cases hv:It (Ao h) b with
  | none=>simp only;rw[Rep];trivial
  | some y =>
   obtain⟨rfl,hd⟩:=Ayb hx hv
   have hb:=hm b (by simp[Gh]) _ hv
   simp only
   rw[Rep]
   refine⟨Nx (Ao h) y,k,o,⟨Zr hn b y hb hv,hmp⟩,h1,?_⟩
   rcases h2 with h2 | h2
   ·simp[hd] at h2
   ·exact .inr (by rw[Kz hn hb];exact h2)
 | .omap b,v,hm,hr=>by
  rw[Rep] at hr
  obtain⟨x,k,⟨hx,hmp⟩,h1,h2⟩:=hr
  rw[Zl]
  cases hv:It (Ao h) b with
  | none=>simp only;rw[Rep];trivial
  | some y =>
   obtain⟨rfl,hd⟩:=Ayb hx hv
   have hb:=hm b (by simp[Gh]) _ hv
   simp only
   rw[Rep]
   refine⟨Nx (Ao h) y,k,⟨Zr hn b y hb hv,hmp⟩,h1,?_⟩
   rcases h2 with h2 | h2
   ·simp[hd] at h2
   ·exact .inr (by rw[Kz hn hb];exact h2)
 | .agg c,v,hm,hr=>by
  rw[Rep] at hr
  obtain⟨cs,h1,h2⟩:=hr
  rw[Zl,Rep]
  exact⟨cs,h1,Reps.clean hn (by simpa[Gh] using hm) h2⟩
 | .tup c,v,hm,hr=>by
  rw[Rep] at hr
  obtain⟨cs,h1,h2⟩:=hr
  rw[Zl,Rep]
  exact⟨cs,h1,Reps.clean hn (by simpa[Gh] using hm) h2⟩
 | .fn f c,v,hm,hr=>by
  rw[Rep] at hr
  obtain⟨cs,h1,h2⟩:=hr
  rw[Zl,Rep]
  exact⟨cs,h1,Reps.clean hn (by simpa[Gh] using hm) h2⟩
 | .pagg c o,v,hm,hr=>by show Rep J _ _ w (.pagg c o) v;rw[Rep] at hr ⊢;exact hr
 | .undef,v,hm,hr=>by show Rep J _ _ w (.undef) v;rw[Rep] at hr ⊢;exact hr
 | .imm c n sz t o,v,hm,hr=>by show Rep J _ _ w (.imm c n sz t o) v;rw[Rep] at hr ⊢;exact hr
 | .iptr c o,v,hm,hr=>by show Rep J _ _ w (.iptr c o) v;rw[Rep] at hr ⊢;exact hr
 | .int k n,v,hm,hr=>by show Rep J _ _ w (.int k n) v;rw[Rep] at hr ⊢;exact hr
 | .bool b,v,hm,hr=>by show Rep J _ _ w (.bool b) v;rw[Rep] at hr ⊢;exact hr
 | .str s,v,hm,hr=>by show Rep J _ _ w (.str s) v;rw[Rep] at hr ⊢;exact hr
 | .nsl,v,hm,hr=>by show Rep J _ _ w (.nsl) v;rw[Rep] at hr ⊢;exact hr
 | .nilptr,v,hm,hr=>by show Rep J _ _ w (.nilptr) v;rw[Rep] at hr ⊢;exact hr
 | .nilfn,v,hm,hr=>by show Rep J _ _ w (.nilfn) v;rw[Rep] at hr ⊢;exact hr
theorem Reps.clean (hn:(ids.map Kp).Nodup):∀ {c:List AV} {cs:List Value},B9y (Ao h) ids (H6 c)→Reps J β h w c cs →
  Reps J (fun c=>(Bei ids c).bind β) (Zm (Ao h) ids) w (Jm (Ao h) c) cs
 | [],cs,hm,hr=>by rw[Reps] at hr;rw[Jm,Reps];exact hr
 | x::r,cs,hm,hr=>by
  rw[Reps] at hr
  obtain⟨u,us,h1,h2,h3⟩:=hr
  rw[Jm,Reps]
  exact⟨u,us,h1,Rep.clean hn (fun b hb=>hm b (by simp[H6,hb])) h2,Reps.clean hn (fun b hb=>hm b (by simp[H6,hb])) h3⟩
end
theorem Ab7 {g:Bt} {K:List Nat}:∀ {s:Gg} {i:Nat},Fs (A5e g K s) i=if Iv K i=true then Zl g (Fs s i) else .undef
 | [],i=>by
  simp only[A5e,Fs]
  show AV.undef=if Iv K i=true then AV.undef else AV.undef
  split<;>rfl
 | (t,v)::r,i=>by
  rw[A5e,Fs]
  cases hk:Iv K t with
  | true =>
   simp only[cond_true,Fs]
   cases hi:Nat.beq t i with
   | true =>
    have:=Nat.eq_of_beq_eq_true hi;subst this
    simp[hk]
   | false=>simp only[cond_false];exact Ab7
  | false =>
   simp only[cond_false]
   rw[Ab7]
   cases hi:Nat.beq t i with
   | true =>
    have:=Nat.eq_of_beq_eq_true hi;subst this
    simp[hk]
   | false=>rfl
theorem Bej {K:List Nat}:∀ {s:Gg} {i:Nat},Iv K i=true→∀ b ∈ Gh (Fs s i),b ∈ Bd3 K s
 | [],i,_,b,hb=>by simp[Fs,Gh] at hb
 | (t,v)::r,i,hk,b,hb=>by
  rw[Fs] at hb
  rw[Bd3]
  cases hi:Nat.beq t i with
  | true =>
   have:=Nat.eq_of_beq_eq_true hi;subst this
   rw[hi] at hb
   rw[hk];simp at hb ⊢;exact .inl hb
  | false =>
   rw[hi] at hb
   have:=Bej hk b hb
   cases Iv K t
   ·exact this
   ·simp;exact .inr this
theorem A5k {g:Bt}:∀ {ids:List Nat} {b:Nat} {x:Blk},b ∈ ids→g b=some x→x.pure=false→∀ c ∈ H6 x.cells,c ∈ Ko g ids
 | [],b,x,hb,_,_,_,_=>by simp at hb
 | i::r,b,x,hb,hx,hp,c,hc=>by
  rw[Ko]
  by_cases e:b=i
  ·subst e;rw[hx];simp only[hp,cond_false];exact List.mem_append.2 (.inl hc)
  ·exact List.mem_append.2 (.inr (A5k (by simpa[e] using hb) hx hp c hc))
theorem A5l:∀ {c:List AV} {j:Nat} {x:AV},c[j]?=some x→∀ b ∈ Gh x,b ∈ H6 c
 | [],j,x,hj,_,_=>by simp at hj
 | y::r,j,x,hj,b,hb=>by
  rw[H6]
  cases j with
  | zero=>simp at hj;subst hj;exact List.mem_append.2 (.inl hb)
  | succ j=>exact List.mem_append.2 (.inr (A5l (by simpa using hj) b hb))
theorem A75 {g:Bt}:∀ {c:List AV} {j:Nat} {y:AV},(Jm g c)[j]?=some y→∃ x,c[j]?=some x∧y=Zl g x
 | [],j,y,hj=>by simp[Jm] at hj
 | x::r,j,y,hj=>by
  rw[Jm] at hj
  cases j with
  | zero=>simp at hj;exact⟨x,by simp,hj.symm⟩
  | succ j=>obtain⟨x',h1,h2⟩:=A75 (c:=r) (j:=j) (by simpa using hj);exact⟨x',by simpa using h1,h2⟩
theorem B4a {b:Nat} (hb:b<G1):Kp b=b:=by
 unfold Kp
 have:Nat.ble G1 b=false:=by
  cases h:Nat.ble G1 b with
  | false=>rfl
  | true=>have:=Nat.le_of_ble_eq_true h;omega
 rw[this];rfl
theorem Bvr {K roots:List Nat} {st':St} (I:Inv Z nt J β st a w) (hh:clean K roots st=some st'):∃ β',Inv Z nt J β' st' a w:=by
 unfold clean at hh
 obtain⟨hc,h1⟩:_∧_:=uc hh
 simp only[Bool.and_eq_true] at hc
 obtain⟨c1,c2,c3,c4⟩:=hc
 generalize hids:Ab4 (Ao st.h) (Zj (Ao st.h) (Bd3 K st.s++roots))=ids at *
 simp at h1
 have hn:=Sz c1
 have blk:∀ c y,Ao (Zm (Ao st.h) ids) c=some y→∃ b x,b ∈ ids∧Kp b=c∧Ao st.h b=some x∧x.dead=false∧y=Nx (Ao st.h) x:=by
  intro c y hy
  obtain⟨b,x,g1,g2,g3,g4⟩:=Aya hn c y hy
  have hx:Ao st.h b=some x∧x.dead=false:=Ky (fun _ _ h=>h) g3
  exact⟨b,x,g1,g2,hx.1,hx.2,g4⟩
 have hlen:∀ x:Blk,(Nx (Ao st.h) x).cells.length=x.cells.length:=fun x=>by
  unfold Nx;cases x.pure
  ·simp;exact Zq _ _
  ·rfl
 refine⟨fun c=>(Bei ids c).bind β,?_⟩
 subst h1
 refine⟨⟨I.sim.jlt,I.sim.jft,fun c y hy hd hm=>?_,fun c y hy hd hm=>by
   obtain⟨b,x,hb,rfl,hx,hxd,rfl⟩:=blk c y hy
   obtain⟨g1,g2,k,es,clk,g3,g4,g5,g6⟩:=I.sim.mblk b x hx hxd hm
   have:(Nx (Ao st.h) x).cells=x.cells:=by unfold Nx;rw[g1];rfl
   exact⟨g1,g2,k,es,clk,by simp only[Kz hn hb,Option.bind_some];exact g3,g4,by rw[this];exact g5,g6⟩,?_⟩,⟨fun i v hv=>?_,fun i hi=>?_⟩,I.tmps,I.defers,I.os,I.tape,I.output,I.size,I.frame,?_,I.jsub,I.jup,I.sizes,I.zlt,I.zge,?_⟩
 ·obtain⟨b,x,hb,rfl,hx,hxd,rfl⟩:=blk c y hy
  rcases I.sim.blk b x hx hxd hm with⟨g1,g2⟩ | ⟨k,o,cs,ty,fr,g1,g2,g3,g4,g5,g6,g7⟩
  ·refine .inl ⟨by simp only[Kz hn hb,Option.bind_some];exact g1,?_⟩
   have:=hlen x;rw[g2] at this;simpa using this
  ·refine .inr ⟨k,o,cs,ty,fr,by simp only[Kz hn hb,Option.bind_some];exact g1,g2,g3,by rw[hlen];exact g4,⟨fun hp=>?_,fun hp j q hj=>?_⟩,g6,g7⟩
   ·have hp':x.pure=true:=hp
    have:(Nx (Ao st.h) x).cells=x.cells:=by unfold Nx;rw[hp'];rfl
    rw[this];exact g5.1 hp'
   ·have hp':x.pure=false:=hp
    have:(Nx (Ao st.h) x).cells=Jm (Ao st.h) x.cells:=by unfold Nx;rw[hp'];rfl
    rw[this] at hj
    obtain⟨q',hq,rfl⟩:=A75 hj
    obtain⟨u,hu,hr,ho⟩:=g5.2 hp' j q' hq
    exact⟨u,hu,Rep.clean hn (fun b' hb' x' hx'=>A5j c3 b' (A5k hb hx hp' b' (A5l hq b' hb')) x' hx') hr,ho⟩
 ·intro c c' y y' k o o' hy hy' hd hd' hs hβ hβ'
  obtain⟨b,x,hb,rfl,hx,hxd,rfl⟩:=blk c y hy
  obtain⟨b',x',hb',rfl,hx',hxd',rfl⟩:=blk c' y' hy'
  simp only[Kz hn hb,Option.bind_some] at hβ
  simp only[Kz hn hb',Option.bind_some] at hβ'
  rw[I.sim.sep b b' x x' k o o' hx hx' hxd hxd' hs hβ hβ']
 ·rw[Ab7]
  split
  ·rename_i hk
   exact Rep.clean hn (fun b hb x hx=>A5j c2 b (Bej hk b hb) x hx) (I.ss.slot i v hv)
  ·rw[Rep];trivial
 ·rw[Ab7,I.ss.out i hi]
  split
  ·rfl
  ·rfl
 ·rintro k ⟨c,y,o,hy,hd,hs,hβ⟩ hk
  obtain⟨b,x,hb,rfl,hx,hxd,rfl⟩:=blk c y hy
  simp only[Kz hn hb,Option.bind_some] at hβ
  exact I.wr k ⟨b,x,o,hx,hxd,hs,hβ⟩ hk
 ·intro c x0 y h0 hy hd
  obtain⟨b,x,hb,rfl,hx,hxd,rfl⟩:=blk c y hy
  have hlt:=I.zlt _ _ h0
  have hge:=I.zge _ _ h0
  have hbo:Kp b=b:=by
   by_cases hnb:G1≤b
   ·have:=Bvq c4 b hb hnb;omega
   ·exact B4a (by omega)
  rw[hbo] at h0
  obtain⟨⟨e1,em⟩,e2,e3,e4⟩:=I.outs b x0 x h0 hx hxd
  refine⟨⟨?_,em⟩,e2,by rw[hlen];exact e3,e4⟩
  simp only[Kz hn hb,Option.bind_some];rw[hbo];exact e1
end
end Gx

namespace Gx
open Go
section
variable {R:Type}
theorem At {α β:Type} (b:Bool) (x y:Option α) (f:α→Option β):(cond b x y).bind f=cond b (x.bind f) (y.bind f):=by cases b<;>rfl
theorem Air {R':Type} (P:Program) (t:TypeId) (c:List AV) (o:Bool) (k:Bool→Option R') (f:R'→Option R):(Ya P t c o k).bind f=Ya P t c o fun o=>(k o).bind f:=by
 unfold Ya;simp only[At,Option.bind_none]
theorem S5 (P:Program) (t:TypeId) (c:List AV) (org:Bool) (k:AV→Option R):An0 P t c org k=(An0 P t c org some).bind k:=by
 unfold An0
 split<;>simp[Option.bind_assoc,At,Air]<;>rfl
theorem By6 (P:Program) (t:TypeId) (c:List AV) (k:AV→Option R):A7v P t c k=(A7v P t c some).bind k:=by
 unfold A7v
 split<;>simp[Option.bind_assoc,At]
theorem A76 (n:Nat) (k:AV→Option R):∀ (c:List AV) (i:Nat),Aig n k c i=(Aig n some c i).bind k
 | [],_=>rfl
 | v::r,i=>by rw[Aig,Aig,At,A76 n k r (i+1)];rfl
theorem A77 (P:Program) (t:TypeId) (c:List AV) (off:Nat) (k:AV→Option R):An1 P t c off k=(An1 P t c off some).bind k:=by
 unfold An1
 split
 ·simp[Option.bind_assoc,At]
 ·simp[Option.bind_assoc,At]
 ·exact A76 ..
 ·rfl
theorem Ais (P:Program) (g:Bt) (t:TypeId) (p:AV) (k:AV→Option R):Bdy P g t p k=(Bdy P g t p some).bind k:=by
 unfold Bdy
 split
 ·exact S5 ..
 ·rw[Option.bind_assoc]
  congr 1;funext x
  rw[At,←S5,←A77]
 ·rfl
theorem Ak5 (P:Program) (t:TypeId) (x i:AV) (k:AV→Option R):Sm P t x i k=(Sm P t x i some).bind k:=by
 unfold Sm
 split<;>simp[Option.bind_assoc,At]
theorem Ak6 (P:Program) (t:TypeId) (x:AV) (f:Nat) (k:AV→Option R):Sn P t x f k=(Sn P t x f some).bind k:=by
 unfold Sn
 simp only[Option.bind_assoc,At]
 congr 1;funext p;congr 1;funext n;congr 1
 split<;>rfl
theorem A78 (P:Program) (t:TypeId) (x:AV) (f:Nat) (k:AV→Option R):A46 P t x f k=(A46 P t x f some).bind k:=by
 unfold A46
 rw[Option.bind_assoc]
 congr 1;funext p
 split
 ·exact S5 ..
 ·exact By6 ..
 ·rfl
theorem A79 (P:Program) (t:TypeId) (x i:AV) (k:AV→Option R):A47 P t x i k=(A47 P t x i some).bind k:=by
 unfold A47
 split
 ·simp[At]
 ·simp only[Option.bind_assoc,At,←S5];rfl
 ·simp only[Option.bind_assoc,At,←A77];rfl
 ·rfl
theorem Ye {α:Type} (lo hi mx:Option AV) (n:Nat) (f:Nat→Nat→α) (k:α→Option R):(Yb lo hi mx n fun l h=>k (f l h))=(Yb lo hi mx n fun l h=>some (f l h)).bind k:=by
 unfold Yb
 simp[Option.bind_assoc,At]
theorem A8a (P:Program) (g:Bt) (t:TypeId) (x:AV) (lo hi mx:Option AV) (k:AV→Option R):A48 P g t x lo hi mx k=(A48 P g t x lo hi mx some).bind k:=by
 unfold A48
 split
 ·rw[At,←Ye];rfl
 ·rw[Option.bind_assoc];congr 1;funext _;exact Ye lo hi mx 0 (fun _ _=>AV.nsl) k
 ·rw[Option.bind_assoc];congr 1;funext _;rw[At,←Ye];rfl
 ·rw[Option.bind_assoc];congr 1;funext _;rw[Option.bind_assoc];congr 1;funext _;rw[At,←Ye];rfl
 ·rfl
theorem B4b (P:Program) (t:TypeId) (op:BinOp) (x y:AV) (k:AV→Option R):B3z P t op x y k=(B3z P t op x y some).bind k:=by
 unfold B3z
 split
 ·split<;>simp[At]
 ·split<;>simp[At]
 ·split<;>simp[At]
 ·rfl
def pr (v:AV) (u:Ups):Option (AV×Ups):=some (v,u)
theorem Bvs (P:Program) (g:Bt) (t:TypeId) (p v:AV) (k:AV→Ups→Option R):A49 P g t p v k=(A49 P g t p v pr).bind fun q=>k q.1 q.2:=by
 unfold A49
 split
 ·simp only[Option.bind_assoc,At]
  congr 1;funext x;congr 1;funext n;congr 1;congr 1
  split<;>simp[At,pr]
 ·rfl
theorem Ayc (P:Program) (c:List AV) (org:Bool):∀ (L:List (Nat×TypeId)) (acc:List AV) (k:List AV→Option R),A0a P c org L acc k=(A0a P c org L acc some).bind k
 | [],acc,k=>rfl
 | (off,t)::L,acc,k=>by
  rw[A0a,A0a,At]
  congr 1
  rw[S5,S5 (k:=fun v=>A0a P c org L (acc++[v]) some),Option.bind_assoc]
  congr 1;funext v
  exact Ayc P c org L _ k
theorem A8b (P:Program) (co:Bool) (t:TypeId) (v:AV) (k:AV→Option R):A5b P co t v k=(A5b P co t v some).bind k:=by
 unfold A5b
 split
 ·rename_i c org
  rw[Ayc,Ayc (k:=fun l=>cond (Nat.beq c.length l.length) (some (AV.agg l)) none),Option.bind_assoc]
  congr 1;funext l
  rw[At];rfl
 ·rfl
theorem Bow (P:Program) (g:Bt) (d:Nat) (t:TypeId) (v:AV) (k:AV→Ups→Option R):Bu9 P g d t v k=(Bu9 P g d t v pr).bind fun q=>k q.1 q.2:=by
 unfold Bu9
 split<;>simp[Option.bind_assoc,At,pr]
theorem A5m (P:Program) (g:Bt) (d:Nat) (t:TypeId) (len:Nat) (ps:List (Nat×AV)) (k:AV→Ups→Option R):Pi P g d t len ps k=(Pi P g d t len ps pr).bind fun q=>k q.1 q.2:=by
 unfold Pi
 split<;>simp[Option.bind_assoc,At,pr,Afn]
theorem Bcu (P:Program) (g:Bt) (d:Nat) (t:TypeId) (len:Nat) (ps:List (Nat×AV)) (k:AV→Ups→Option R):So P g d t len ps k=(So P g d t len ps pr).bind fun q=>k q.1 q.2:=by
 unfold So
 split<;>simp[Option.bind_assoc,At,pr]
theorem B4c (P:Program) (t:TypeId) (co:Bool) (d:Nat) (v:AV) (k:AV→Ups→Option R):B31 P t co d v k=(B31 P t co d v pr).bind fun q=>k q.1 q.2:=by
 unfold B31
 split<;>simp[At,pr]
theorem By7 (P:Program) (d:Nat) (t:TypeId) (l c:AV) (k:AV→Ups→Option R):Bol P d t l c k=(Bol P d t l c pr).bind fun q=>k q.1 q.2:=by
 unfold Bol
 split<;>simp[Option.bind_assoc,At,pr]
theorem Bsc (P:Program) (g:Bt) (d:Nat) (t tx:TypeId) (s x:AV) (k:AV→Ups→Option R):Ase P g d t tx s x k=(Ase P g d t tx s x pr).bind fun q=>k q.1 q.2:=by
 unfold Ase Ax1
 split<;>simp[Option.bind_assoc,At,pr,Air]
theorem By8 (P:Program) (g:Bt) (t:TypeId) (s x:AV) (k:AV→Ups→Option R):Bom P g t s x k=(Bom P g t s x pr).bind fun q=>k q.1 q.2:=by
 unfold Bom Ax1
 split<;>simp[Option.bind_assoc,At,pr,Air]
theorem By9 (P:Program) (g:Bt) (d:Nat) (src dst:TypeId) (x:AV) (k:AV→Ups→Option R):Bon P g d src dst x k=(Bon P g d src dst x pr).bind fun q=>k q.1 q.2:=by
 unfold Bon
 split
 ·split<;>simp[At,pr]
 ·split
  ·split<;>simp[pr]
  ·split
   ·split<;>simp[Option.bind_assoc,pr]
   ·rfl
  ·rfl
 ·split
  ·rw[At,Option.bind_assoc];simp only[At];rfl
  ·rfl
  ·rfl
 ·rfl
theorem Ayd {R':Type} {f:R'→Option R} {s1:TypeId→List AV→List AV→(Bool→Option R')→Option R'} {s2:TypeId→List AV→List AV→(Bool→Option R)→Option R} (hs:∀ t x y k,(s1 t x y k).bind f=s2 t x y fun b=>(k b).bind f) {x y:List AV} :
  ∀ (l:List (Nat×TypeId)) (k:Bool→Option R'),(Aff s1 x y l k).bind f=Aff s2 x y l fun b=>(k b).bind f
 | [],k=>rfl
 | (o,t)::r,k=>by
  rw[Aff,Aff,hs]
  congr 1;funext b
  exact Ayd hs r _
theorem Aso {R':Type} {f:R'→Option R} (P:Program):∀ (d:Nat) (t:TypeId) (x y:List AV) (k:Bool→Option R'),(Bcs P d t x y k).bind f=Bcs P d t x y fun b=>(k b).bind f
 | 0,t,x,y,k=>rfl
 | d+1,t,x,y,k=>by
  rw[Bcs,Bcs]
  split<;>simp only[Option.bind_assoc,At,Option.bind_none]
  ·congr 1;funext sz;rw[Ayd (Aso P d)]
  ·congr 1;funext s;congr 1;funext sz;rw[Ayd (Aso P d)]
theorem Bek (P:Program) (t:TypeId) (op:BinOp) (x y:AV) (k:AV→Option R):Boi P t op x y k=(Boi P t op x y some).bind k:=by
 unfold Boi
 split
 ·rw[Option.bind_assoc]
  congr 1;funext s
  rw[At]
  congr 1
  split
  ·rw[Aso];rfl
  ·rw[Aso];rfl
  ·rfl
 ·exact B4b ..
theorem Bel (c x y:AV) (k:AV→Option R):Boq c x y k=(Boq c x y some).bind k:=by
 unfold Boq
 split<;>first | rfl | (rw[At];rfl)
theorem Bvt (P:Program) (g:Bt) (co:Bool) (d:Nat) (t:TypeId) (k:AV→Ups→Option R):A5a P g co d t k=(A5a P g co d t pr).bind fun q=>k q.1 q.2:=by
 unfold A5a
 split
 ·rw[Option.bind_assoc];rfl
 ·exact Bow ..
 ·rfl
theorem Bem:∀ (T:List (Nat×Tw)) (f:Nat) (args:List AV) (h:Al) (k:AV→Al→Option R),A0b T f args h k=(A0b T f args h fun v h'=>some (v,h')).bind fun p=>k p.1 p.2
 | [],f,args,h,k=>rfl
 | (g,t)::r,f,args,h,k=>by
  rw[A0b,A0b]
  cases Nat.beq g f
  ·exact Bem r f args h k
  ·exact t.eq args h k
theorem Bza (E:Env) (g:Bt) (d f:Nat) (args:List AV) (k:AV→Ups→Option R):Bop E g d f args k=(Bop E g d f args pr).bind fun q=>k q.1 q.2:=by
 unfold Bop
 rw[Option.bind_assoc]
 congr 1;funext q
 simp only[At,Option.bind_none]
 congr 1
 rw[Bem,Bem (R:=AV×Ups),Option.bind_assoc]
 congr 1;funext p
 simp only[At,Option.bind_none,pr,Option.bind_some]
theorem Bml (d:Nat) (o:Option AV) (k:AV→Ups→Option R):Zi d o k=(Zi d o pr).bind fun q=>k q.1 q.2:=by
 unfold Zi
 split<;>rfl
theorem Bvu (P:Program) (g:Bt) (t:TypeId) (m x y:AV) (k:AV→Ups→Option R):A5c P g t m x y k=(A5c P g t m x y pr).bind fun q=>k q.1 q.2:=by
 unfold A5c
 split<;>simp[At,Option.bind_assoc,pr]
theorem Ben (P:Program) (g:Bt) (t:TypeId) (m x:AV) (c:Bool) (k:AV→Option R):Boo P g t m x c k=(Boo P g t m x c some).bind k:=by
 unfold Boo
 split<;>simp[At,Option.bind_assoc]
theorem B4d (E:Env) (g:Bt) (d:Nat) (v:Operand→AV) (o:Op) (k:AV→Ups→Option R):Bmh E g d v o k=(Bmh E g d v o pr).bind fun q=>k q.1 q.2:=by
 unfold Bmh
 split
 ·rfl
 ·rfl
 ·rw[Bel,Bel (k:=fun r=>pr r []),Option.bind_assoc];rfl
 ·exact Bvt ..
 ·rw[A8b,A8b (k:=fun u=>Bu9 E.P g d _ u pr),Option.bind_assoc];congr 1;funext u;exact Bow ..
 ·rw[Ax7,Ax7,Option.bind_assoc];congr 1;funext x;exact B4c ..
 ·rw[At,←Bcu,←A5m]
 ·rw[Ais,Ais (k:=fun r=>pr r []),Option.bind_assoc];rfl
 ·exact Bvs ..
 ·split<;>rfl
 ·rw[Bek,Bek (k:=fun r=>pr r []),Option.bind_assoc];rfl
 ·rw[Option.bind_assoc];rfl
 ·exact By9 ..
 ·rw[At];rfl
 ·exact By7 ..
 ·rw[A8a,A8a (k:=fun r=>pr r []),Option.bind_assoc];rfl
 ·rw[Ak6,Ak6 (k:=fun r=>pr r []),Option.bind_assoc];rfl
 ·rw[A78,A78 (k:=fun r=>pr r []),Option.bind_assoc];rfl
 ·rw[Ak5,Ak5 (k:=fun r=>pr r []),Option.bind_assoc];rfl
 ·rw[A79,A79 (k:=fun r=>pr r []),Option.bind_assoc];rfl
 ·exact Bml ..
 ·exact Bvu ..
 ·rw[Ben,Ben (k:=fun r=>pr r []),Option.bind_assoc];rfl
 ·split
  ·rw[Option.bind_assoc];rfl
  ·rfl
 ·split
  ·split
   ·rw[Option.bind_assoc];rfl
   ·rfl
  ·split
   ·exact Bsc ..
   ·rfl
  ·split
   ·exact By8 ..
   ·rfl
  ·split
   ·rw[Option.bind_assoc];rfl
   ·simp only[Option.bind_assoc];rfl
   ·rfl
  ·split
   ·rw[Option.bind_assoc];rfl
   ·simp only[Option.bind_assoc];rfl
   ·rfl
  ·split
   ·rw[At,←Bza];rfl
   ·rfl
  ·rfl
 ·rfl
end
end Gx
