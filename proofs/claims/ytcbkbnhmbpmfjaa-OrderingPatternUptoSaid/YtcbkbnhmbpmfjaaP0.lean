/- A part of the proof: what it holds is said by each theorem. -/
import GoSem.Step
import Derived.KernelRfl
import Derived.WalkKit
import Derived.MapKept
import Derived.Deep.MidRow
import Derived.Deep.AppendSrc
import Derived.Laws.IdiomStrings
import Derived.Deep.Upon
import Derived.Lib.Builder
import Derived.Laws.BytesString
import Derived.Lib.UnsafeStr
import Derived.Laws.Externs
set_option linter.unusedVariables false
set_option linter.defProp false
set_option linter.unusedSimpArgs false
namespace Gx
open Go
inductive NV where
 | whole (n:Nat)
 | slot (i:Nat)
 | ref (i g n s:Nat)
 | elt (i g off s:Nat)
 | stamp (i g p:Nat)
def NV.stable:NV→Bool
 | .whole _=>true
 | .slot _=>true
 | _=>false
inductive AV where
 | int (k:IntKind) (n:Int)
 | bool (b:Bool)
 | str (s:List UInt8)
 | nsl
 | imm (c:List AV) (len sz:Nat) (tight org:Bool)
 | iptr (c:List AV) (org:Bool)
 | pagg (c:List AV) (org:Bool)
 | own (b off len:Nat)
 | optr (b off:Nat)
 | agg (c:List AV)
 | tup (c:List AV)
 | fn (f:Nat) (caps:List AV)
 | nilptr
 | nilfn
 | undef
 | omap (b:Nat)
 | nd (b:Nat) (q:NV)
structure Blk where
 dead:Bool
 sealed:Bool
 pure:Bool
 taint:Bool
 sz:Nat
 cells:List AV
 mp:Bool:=false
 ty:Option (Nat×Nat):=none
 gen:Nat:=0
 pend:Nat:=0
def An (x:Blk):Bool:=x.mp&&Nat.ble 2 x.sz
abbrev LA:=List AV
abbrev O (R:Type):=Option R
abbrev Ag:=List (Nat×Blk)
abbrev Dy:=List (Nat×AV)
def Ac:Ag→Nat→Option Blk
 | [],_=>none
 | (i,x)::r,b=>cond (Nat.beq i b) (some x) (Ac r b)
def Cb:Ag→Nat→Blk→Ag
 | [],b,y=>[(b,y)]
 | (i,x)::r,b,y=>cond (Nat.beq i b) ((b,y)::r) (cond (Nat.blt b i) ((b,y)::(i,x)::r) ((i,x)::Cb r b y))
def Dd:Dy→Nat→AV
 | [],_=>.undef
 | (i,x)::r,b=>cond (Nat.beq i b) x (Dd r b)
def EU:Dy→Nat→AV→Dy
 | [],b,y=>[(b,y)]
 | (i,x)::r,b,y=>cond (Nat.beq i b) ((b,y)::r) (cond (Nat.blt b i) ((b,y)::(i,x)::r) ((i,x)::EU r b y))
structure St where
 s:Dy
 h:Ag
mutual
def JV:Value→AV
 | .int k n=>.int k n
 | .bool b=>.bool b
 | .string ⟨⟨s⟩⟩=>.str s
 | .slice none 0 0=>.nsl
 | .pointer none=>.nilptr
 | .nilFunc=>.nilfn
 | .agg ⟨cs⟩=>.agg (Fr cs)
 | _=>.undef
def Fr:List Value→List AV
 | []=>[]
 | v::r=>JV v::Fr r
end
def ev (s:Dy):Operand→AV
 | .tmp t=>Dd s t
 | .const v=>JV v
 | .func f=>cond (Nat.blt f 1000000) (.fn f []) .undef
 | .global _=>.undef
def Az (P:Program) (t:TypeId):Option Nat:=(P.info? t).map (·.size)
def Xu (P:Program) (t:TypeId):Option Nat:=(P.info? t).map (·.bytes)
def eW (P:Program) (t:TypeId):Bool:=((P.info? t).map (·.hasPointers)).getD true
def ST (P:Program) (t:TypeId):Option AV:=((P.info? t).bind (·.zero)).map JV
def Cf:LA→Bool
 | []=>true
 | .int ..::r=>Cf r
 | .bool _::r=>Cf r
 | .str _::r=>Cf r
 | .nsl::r=>Cf r
 | .nilptr::r=>Cf r
 | .nilfn::r=>Cf r
 | _=>false
def CI (P:Program) (t:TypeId):Option (LA) :=
 (P.info? t).bind fun i=>(i.zero).bind fun v=>cond (Cf (Fr v.cells.toList)&&Nat.beq v.cells.toList.length i.size) (some (Fr v.cells.toList)) none
def JW (op:BinOp) (k:IntKind) (a b:Int):Option AV :=
 match op with
 | .add=>some (.int k (k.wrap (a+b)))
 | .sub=>some (.int k (k.wrap (a - b)))
 | .mul=>some (.int k (k.wrap (a*b)))
 | .and=>some (.int k (k.wrap ((BitVec.ofInt k.bits a &&& BitVec.ofInt k.bits b).toNat:Int)))
 | .or=>some (.int k (k.wrap ((BitVec.ofInt k.bits a ||| BitVec.ofInt k.bits b).toNat:Int)))
 | .xor=>some (.int k (k.wrap ((BitVec.ofInt k.bits a ^^^ BitVec.ofInt k.bits b).toNat:Int)))
 | .andNot=>some (.int k (k.wrap ((BitVec.ofInt k.bits a &&& ~~~ (BitVec.ofInt k.bits b)).toNat:Int)))
 | .eql=>some (.bool (a==b))
 | .neq=>some (.bool (a != b))
 | .lss=>some (.bool (decide (a<b)))
 | .leq=>some (.bool (decide (a≤b)))
 | .gtr=>some (.bool (decide (a>b)))
 | .geq=>some (.bool (decide (a≥b)))
 | _=>none
def Ho (k k':IntKind):Bool:=decide (k=k')
def AR (P:Program) (t:TypeId):Bool:=match P.underlying t with | some .bool=>true | _=>false
def lS {R:Type} (P:Program) (t:TypeId) (op:BinOp) (x y:AV) (r:AV→O R):O R :=
 match x,y with
 | .int k a,.int k' b =>
  match op with
  | .shl=>cond (decide (b<0)) none (r (.int k (k.wrap (a*2 ^ (min b.toNat k.bits)))))
  | .shr=>cond (decide (b<0)) none (r (.int k (a.fdiv (2 ^ (min b.toNat k.bits)))))
  | .quo=>cond (Ho k k') (cond (b==0) none (r (.int k (k.wrap (a.tdiv b))))) none
  | .rem=>cond (Ho k k') (cond (b==0) none (r (.int k (a.tmod b)))) none
  | op=>cond (Ho k k') ((JW op k a b).bind r) none
 | .bool a,.bool b =>
  match op with
  | .eql=>cond (AR P t) (r (.bool (a==b))) none
  | .neq=>cond (AR P t) (r (.bool (!(a==b)))) none
  | _=>none
 | .str a,.str b =>
  match op with
  | .add=>cond (Nat.ble (a.length+b.length) 140737488355328) (r (.str (a++b))) none
  | .eql=>r (.bool (a==b))
  | .neq=>r (.bool (!(a==b)))
  | .lss=>r (.bool (Op.bytesLess a b))
  | .leq=>r (.bool (Op.bytesLess a b||a==b))
  | .gtr=>r (.bool (!(Op.bytesLess a b||a==b)))
  | .geq=>r (.bool (!Op.bytesLess a b))
  | _=>none
 | _,_=>none
def rt (op:UnOp) (x:AV):Option AV :=
 match op,x with
 | .neg,.int k n=>some (.int k (k.wrap (0 - n)))
 | .xor,.int k n=>JW .xor k (cond k.signed (-1) k.max) n
 | .not,.bool b=>some (.bool (!b))
 | _,_=>none
def asInt (k:IntKind):AV→Option Int
 | .int k' n=>cond (Ho k k') (some n) none
 | _=>none
def asBool:AV→Option Bool
 | .bool b=>some b
 | _=>none
def bY:AV→Option (List UInt8)
 | .str s=>some s
 | _=>none
def Je (sz:Nat):AV→Option (LA×Nat)
 | .imm c len sz' _ _=>cond (Nat.beq sz sz') (some (c,len)) none
 | .nsl=>some ([],0)
 | _=>none
def m9:AV→Option UInt8
 | .int .u8 n=>some (UInt8.ofNat n.toNat)
 | _=>none
def FY:LA→Option (List UInt8)
 | []=>some []
 | x::r=>(m9 x).bind fun b=>(FY r).bind fun l=>some (b::l)
def Sg {R:Type} (step:TypeId→LA→LA→(Bool→O R)→O R) (x y:LA):List (Nat×TypeId)→(Bool→O R)→O R
 | [],k=>k true
 | (off,t)::r,k=>step t (x.drop off) (y.drop off) fun b=>Sg step x y r fun c=>k (b&&c)
def cp (P:Program) (sz:Nat) (f:Field):Bool:=match Az P f.type with
 | some s => Nat.ble 1 s && (Nat.ble (f.offset + s) sz && !(f.name == "_"))
 | none=>false
def QT {R:Type} (P:Program):Nat→TypeId→LA→LA→(Bool→O R)→O R
 | 0,_,_,_,_=>none
 | d+1,t,x,y,k=>match P.underlying t with
  | some (.int kd)=>(x.head?).bind fun u=>(asInt kd u).bind fun a=>(y.head?).bind fun v=>(asInt kd v).bind fun b=>k (a==b)
  | some .bool=>(x.head?).bind fun u=>(asBool u).bind fun a=>(y.head?).bind fun v=>(asBool v).bind fun b=>k (a==b)
  | some .string=>(x.head?).bind fun u=>(bY u).bind fun a=>(y.head?).bind fun v=>(bY v).bind fun b=>k (a==b)
  | some (.struct fs)=>(Az P t).bind fun sz=>cond (P.stoodInHeld t||!(fs.toList.all (cp P sz))) none (Sg (QT P d) x y (fs.toList.map fun f=>(f.offset,f.type)) k)
  | some (.array n e)=>(Az P e).bind fun s=>(Az P t).bind fun sz=>cond (Nat.ble 1 s&&Nat.ble (n*s) sz) (Sg (QT P d) x y ((List.range n).map fun i=>(i*s,e)) k) none
  | _=>none
def cr:AV→Option (LA)
 | .pagg c _=>some c
 | .agg c=>some c
 | _=>none
def m_ (P:Program) (t:TypeId):Bool:=match P.underlying t with | some (.struct _)=>true | some (.array _ _)=>true | _=>false
def bZ {R:Type} (P:Program) (t:TypeId) (op:BinOp) (x y:AV) (r:AV→O R):O R :=
 match cr x,cr y with
 | some a,some b=>(Az P t).bind fun s=>cond (Nat.ble 1 s&&(Nat.beq a.length s&&(Nat.beq b.length s&&(m_ P t&&!(P.eqGuardType P.depth t)))))
  (match op with
   | .eql=>QT P 8 t a b fun c=>r (.bool c)
   | .neq=>QT P 8 t a b fun c=>r (.bool (!c))
   | _=>none) none
 | _,_=>lS P t op x y r
def Lb {R:Type} (P:Program) (t:TypeId) (c:LA) (org:Bool) (k:Bool→O R):O R :=
 cond (eW P t) (k org) (cond (!org||Cf c) (k false) none)
def V4 {R:Type} (P:Program) (t:TypeId) (c:LA) (org:Bool) (k:AV→O R):O R :=
 match P.underlying t with
 | some (.int kd)=>(c.head?).bind fun x=>(asInt kd x).bind fun n=>k (.int kd n)
 | some .bool=>(c.head?).bind fun x=>(asBool x).bind fun b=>k (.bool b)
 | some .string=>(c.head?).bind fun x=>(bY x).bind fun s=>k (.str s)
 | some (.slice e)=>(Az P e).bind fun sz=>(c.head?).bind fun x=>(Je sz x).bind fun p=>k (.imm p.1 p.2 sz false org)
 | some (.struct _)=>(Az P t).bind fun n=>cond (Nat.ble n c.length) (Lb P t (c.take n) org fun o=>k (.pagg (c.take n) o)) none
 | some (.array _ _)=>(Az P t).bind fun n=>cond (Nat.ble n c.length) (Lb P t (c.take n) org fun o=>k (.pagg (c.take n) o)) none
 | _=>none
def Ui {R:Type} (n:Nat) (k:AV→O R):LA→Nat→O R
 | [],_=>none
 | v::r,i=>cond (Nat.beq n i) (k v) (Ui n k r (i+1))
def MD {R:Type} (P:Program) (t:TypeId) (c:LA) (k:AV→O R):O R :=
 match P.underlying t with
 | some (.struct _)=>(Az P t).bind fun n=>cond (Nat.ble n c.length) (k (.agg (c.take n))) none
 | some (.array _ _)=>(Az P t).bind fun n=>cond (Nat.ble n c.length) (k (.agg (c.take n))) none
 | some _=>(c.head?).bind k
 | none=>none
def Xv {R:Type} (P:Program) (t:TypeId) (c:LA) (off:Nat) (k:AV→O R):O R :=
 match P.underlying t with
 | some (.struct _)=>(Az P t).bind fun n=>cond (Nat.ble n (c.drop off).length) (k (.agg ((c.drop off).take n))) none
 | some (.array _ _)=>(Az P t).bind fun n=>cond (Nat.ble n (c.drop off).length) (k (.agg ((c.drop off).take n))) none
 | some _=>Ui off k c 0
 | none=>none
abbrev Ar:=Nat→Option Blk
def B9 (g:Ar) (b:Nat):Option Blk:=(g b).bind fun x=>cond x.dead none (some x)
def ma (P:Program) (t:TypeId):Bool:=match P.underlying t with | some (.slice _)=>true | some (.map _ _)=>true | _=>false
def Ht {R:Type} (s:Nat) (c:LA) (i:Nat) (k:LA→Nat→O R):O R:=((c.drop i).head?).bind fun y=>(Je s y).bind fun p=>k p.1 p.2
def Xw {R:Type} (P:Program) (t:TypeId) (b:Nat) (x:Blk) (q:NV) (k:AV→O R):O R :=
 match q with
 | .slot i=>cond (ma P t) (cond (Nat.beq x.sz 2) (k (.nd b (.ref i x.gen 0 0))) (Ht (x.sz - 2) x.cells i fun _ n=>k (.nd b (.ref i x.gen n (x.sz - 2))))) none
 | .elt i gn off _=>cond (Nat.beq x.gen gn) (Ht (x.sz - 2) x.cells i fun c _=>V4 P t (c.drop off) false k) none
 | _=>none
def SU {R:Type} (P:Program) (g:Ar) (t:TypeId) (p:AV) (k:AV→O R):O R :=
 match p with
 | .iptr c org=>V4 P t c org k
 | .optr b off=>(B9 g b).bind fun x=>cond x.pure (V4 P t (x.cells.drop off) x.taint k) (Xv P t x.cells off k)
 | .nd b q=>(B9 g b).bind fun x=>cond (An x) (Xw P t b x q k) none
 | _=>none
def Af (i:Int) (n:Nat):Bool:=decide (0≤i)&&decide (i<(n:Int))
def Uj {R:Type} (b:Nat) (q:NV) (sz:Nat) (i:Int) (k:AV→O R):O R :=
 match q with
 | .whole n=>cond (Nat.beq sz 1&&Af i n) (k (.nd b (.slot i.toNat))) none
 | .ref j g n s=>cond (Nat.ble 1 s&&Af i n) (k (.nd b (.elt j g (i.toNat*sz) s))) none
 | _=>none
def Kl {R:Type} (P:Program) (t:TypeId) (x i:AV) (k:AV→O R):O R :=
 match P.underlying t,x,i with
 | some (.slice el),.imm c len sz _ org,.int _ i=>(Az P el).bind fun sz'=>cond (Nat.beq sz sz') (cond (Af i len) (k (.iptr (c.drop (i.toNat*sz)) org)) none) none
 | some (.slice el),.own b off len,.int _ i=>(Az P el).bind fun sz=>cond (Af i len) (k (.optr b (off+i.toNat*sz))) none
 | some (.array len el),.iptr c org,.int _ i=>(Az P el).bind fun sz=>cond (Af i len) (k (.iptr (c.drop (i.toNat*sz)) org)) none
 | some (.array len el),.optr b off,.int _ i=>(Az P el).bind fun sz=>cond (Af i len) (k (.optr b (off+i.toNat*sz))) none
 | some (.slice el),.nd b q,.int _ i=>(Az P el).bind fun sz=>Uj b q sz i k
 | _,_,_=>none
def SI (P:Program) (t:TypeId) (f:Nat):Option (Nat×TypeId) :=
 match P.underlying t with
 | some (.struct fs)=>(fs[f]?).map fun x=>(x.offset,x.type)
 | _=>none
def Km {R:Type} (P:Program) (t:TypeId) (x:AV) (f:Nat) (k:AV→O R):O R :=
 (SI P t f).bind fun p=>(Az P p.2).bind fun n=>cond (Nat.beq n 0) none
 (match x with
 | .iptr c org=>k (.iptr (c.drop p.1) org)
 | .optr b off=>k (.optr b (off+p.1))
 | _=>none)
def JX {R:Type} (P:Program) (t:TypeId) (x:AV) (f:Nat) (k:AV→O R):O R :=
 (SI P t f).bind fun p =>
 match x with
 | .pagg c org=>V4 P p.2 (c.drop p.1) org k
 | .agg c=>MD P p.2 (c.drop p.1) k
 | _=>none
def JY {R:Type} (P:Program) (t:TypeId) (x i:AV) (k:AV→O R):O R :=
 match P.underlying t,x,i with
 | some .string,.str s,.int _ i=>cond (Af i s.length) (k (.int .u8 ((s.getD i.toNat 0).toNat:Int))) none
 | some (.array len el),.pagg c org,.int _ i=>(Az P el).bind fun sz=>cond (Af i len) (V4 P el (c.drop (i.toNat*sz)) org k) none
 | some (.array len el),.agg c,.int _ i=>(Az P el).bind fun sz=>cond (Af i len) (Xv P el c (i.toNat*sz) k) none
 | _,_,_=>none
def FZ (o:Option AV) (d:Nat):Option Int:=match o with | none=>some (d:Int) | some (.int _ i)=>some i | _=>none
def Nh {R:Type} (lo hi mx:Option AV) (n:Nat) (k:Nat→Nat→O R):O R :=
 (FZ lo 0).bind fun l=>(FZ hi n).bind fun h=>(FZ mx n).bind fun m=>cond (mx.isSome&&!hi.isSome) none <|
 cond (decide (0≤l)&&(decide (l≤h)&&(decide (h≤m)&&decide (m≤(n:Int))))) (k l.toNat h.toNat) none
def kU (tight:Bool) (hi mx:Option AV):Bool:=match hi,mx with | none,none=>tight | some (.int _ a),some (.int _ b)=>a==b | _,_=>false
def JZ {R:Type} (P:Program) (g:Ar) (t:TypeId) (x:AV) (lo hi mx:Option AV) (k:AV→O R):O R :=
 match P.underlying t,x with
 | some .string,.str s=>cond mx.isSome none (Nh lo hi none s.length fun l h=>k (.str ((s.drop l).take (h - l))))
 | some (.slice el),.nsl=>(Az P el).bind fun _=>Nh lo hi mx 0 fun _ _=>k .nsl
 | some (.slice el),.imm c n sz tight org=>(Az P el).bind fun sz'=>cond (Nat.beq sz sz') (Nh lo hi mx n fun l h =>
   k (.imm ((c.drop (l*sz)).take ((h - l)*sz)) (h - l) sz (kU tight hi mx) org)) none
 | some (.slice el),.own b off n=>(Az P el).bind fun sz=>(B9 g b).bind fun y=>cond (Nat.beq sz y.sz) (Nh lo hi mx n fun l h=>k (.own b (off+l*sz) (h - l))) none
 | _,_=>none
def qO (P:Program) (t:TypeId) (x:AV):Option AV :=
 match P.underlying t,x with
 | some (.slice _),.nsl=>some (.int .i64 0)
 | some (.slice _),.imm _ n _ _ _=>some (.int .i64 n)
 | some (.slice _),.own _ _ n=>some (.int .i64 n)
 | some .string,.str s=>some (.int .i64 s.length)
 | some (.array n _),_=>some (.int .i64 n)
 | _,_=>none
def V5 (g:Ar) (sz:Nat):AV→Option (LA×Nat×Bool)
 | .nsl=>some ([],0,false)
 | .imm c n sz' _ org=>cond (Nat.beq sz sz') (some (c,n,org)) none
 | .own b off n=>(B9 g b).bind fun x=>cond (x.pure&&Nat.beq sz x.sz) (some ((x.cells.drop off).take (n*sz),n,x.taint)) none
 | .str s=>cond (Nat.beq sz 1) (some (s.map fun b=>.int .u8 (b.toNat:Int),s.length,false)) none
 | _=>none
def Uk {R:Type} (P:Program) (el:TypeId) (g:Ar) (sz:Nat) (x:AV) (k:LA×Nat×Bool→O R):O R :=
 (V5 g sz x).bind fun q=>Lb P el q.1 q.2.2 fun o=>k (q.1,q.2.1,o)
abbrev Bo:=List (Nat×Option Blk)
def CJ (g:Ar):AV→Option (AV×Bo×Bool)
 | .own b off n=>(B9 g b).bind fun x=>cond x.pure (some (.imm ((x.cells.drop off).take (n*x.sz)) n x.sz false x.taint,[(b,some { x with sealed:=true })],x.taint)) none
 | .optr .. | .agg _ | .tup _ | .undef | .fn .. | .omap _ | .nd ..=>none
 | .imm c n sz t org=>some (.imm c n sz t org,[],org)
 | .iptr c org=>some (.iptr c org,[],org)
 | .pagg _ _=>none
 | v=>some (v,[],false)
def Oc (g:Ar):LA→Option (LA×Bo×Bool)
 | []=>some ([],[],false)
 | v::r=>(CJ g v).bind fun p=>(Oc g r).bind fun q=>some (p.1::q.1,p.2.1++q.2.1,p.2.2||q.2.2)
def N2 (g:Ar):AV→Option (LA×Bo×Bool)
 | .pagg c org=>some (c,[],org)
 | .agg c=>Oc g c
 | v=>Oc g [v]
def Hp (c:LA) (off:Nat) (vs:LA):LA:=c.take off++vs++c.drop (off+vs.length)
def Ao:Bo→Nat→Bool
 | [],_=>false
 | (i,_)::r,b=>cond (Nat.beq i b) true (Ao r b)
def Sh (g:Ar):AV→Bool
 | .own b _ _=>(B9 g b).isSome
 | .optr b _=>(B9 g b).isSome
 | .agg _=>false
 | .pagg _ _=>false
 | .tup _=>false
 | .undef=>false
 | .omap _=>false
 | .nd ..=>false
 | _=>true
def G8 (g:Ar):LA→Bool
 | []=>true
 | v::r=>Sh g v&&G8 g r
def setCells (c:LA) (off:Nat) (vs:LA):LA:=match vs with | [y]=>c.set off y | ys=>Hp c off ys
def mb:AV→Bool
 | .int ..=>true
 | .bool _=>true
 | .str _=>true
 | _=>false
def A6 (c:LA) (n s:Nat):AV:=.imm c n s false false
def J_ {R:Type} (P:Program) (g:Ar) (t:TypeId) (b:Nat) (x:Blk) (q:NV) (v:AV) (k:AV→Bo→O R):O R :=
 (Az P t).bind fun n1=>cond (Nat.beq n1 1) (match q with
 | .slot i=>(match v with
  | .own d off n=>(B9 g d).bind fun y=>cond (y.pure&&(!y.sealed&&(!y.taint&&(!Nat.beq d b&&(Nat.beq (y.sz+2) x.sz&&(Nat.ble 1 y.sz&&Nat.ble 1 n))))))
    (k .undef [(b,some { x with cells:=x.cells.set i (A6 ((y.cells.drop off).take (n*y.sz)) n y.sz),gen:=x.gen+1 }),(d,none)]) none
  | .omap d=>(B9 g d).bind fun y=>cond (Nat.beq y.sz 0&&(!Nat.beq d b&&Nat.beq x.sz 2))
    (k .undef [(b,some { x with cells:=x.cells.set i (A6 y.cells 0 0),gen:=x.gen+1 }),(d,none)]) none
  | _=>none)
 | .elt i gn off _=>cond (Nat.beq x.gen gn&&mb v) (Ht (x.sz - 2) x.cells i fun c m=>cond (Nat.blt off c.length)
   (k .undef [(b,some { x with cells:=x.cells.set i (A6 (c.set off v) m (x.sz - 2)) })]) none) none
 | _=>none) none
def KA {R:Type} (P:Program) (g:Ar) (t:TypeId) (p v:AV) (k:AV→Bo→O R):O R :=
  match p with
  | .optr b off=>(B9 g b).bind fun x=>(Az P t).bind fun n =>
    cond x.sealed none
    (cond x.pure
      ((N2 g v).bind fun q=>cond (Nat.beq q.1.length n&&(Nat.ble (off+n) x.cells.length&&!Ao q.2.1 b))
        (k .undef (q.2.1++[(b,some { x with cells:=setCells x.cells off q.1,taint:=x.taint||q.2.2 })])) none)
      (match v with
        | .agg c=>cond (G8 g c&&(Nat.beq c.length n&&Nat.ble (off+n) x.cells.length)) (k .undef [(b,some { x with cells:=Hp x.cells off c })]) none
        | .pagg c org=>cond (Nat.beq off 0&&(Nat.beq c.length n&&Nat.beq x.cells.length n)) (k .undef [(b,some { x with pure:=true,taint:=org,cells:=c })]) none
        | v=>cond (Sh g v&&(Nat.beq n 1&&Nat.blt off x.cells.length)) (k .undef [(b,some { x with cells:=x.cells.set off v })]) none))
  | .nd b q=>(B9 g b).bind fun x=>cond (An x) (J_ P g t b x q v k) none
  | _=>none
def Ea:Nat:=1000000
def nid (d:Nat):Nat:=1000000+d*16
def cu (P:Program) (t:TypeId):Option (Nat×Nat) :=
 match P.underlying t with
 | some (.struct fs)=>(fs[0]?).bind fun f=>match P.underlying f.type with
  | some (.pointer u)=>cond (Nat.beq u t) ((Az P t).map fun n=>(t,n)) none
  | some (.struct gs)=>(gs[0]?).bind fun g=>match P.underlying g.type with
   | some (.pointer u)=>cond (Nat.beq u f.type) ((Az P t).map fun n=>(t,n)) none
   | _=>none
  | _=>none
 | _=>none
def Jf (d:Nat) (pure taint:Bool) (sz:Nat) (cells:LA):Bo :=
 [(nid d,some { dead:=false,sealed:=false,pure,taint,sz,cells })]
def eX {R:Type} (P:Program) (g:Ar) (d:Nat) (t:TypeId) (v:AV) (k:AV→Bo→O R):O R :=
 match v with
 | .pagg c org=>k (.optr (nid d) 0) (Jf d true org 0 c)
 | .agg c =>
  cond (eW P t) (cond (G8 g c&&Nat.beq c.length ((Az P t).getD 0)) (k (.optr (nid d) 0) [(nid d,some { dead:=false,sealed:=false,pure:=false,taint:=false,sz:=0,cells:=c,ty:=cu P t })]) none)
   ((Oc g c).bind fun q=>k (.optr (nid d) 0) (q.2.1++Jf d true q.2.2 0 q.1))
 | v=>cond (Sh g v) (k (.optr (nid d) 0) (Jf d false false 0 [v])) none
def De (sz:Nat):Blk:={ dead:=false,sealed:=false,pure:=true,taint:=false,sz,cells:=[] }
def mc (co:Bool) (v:AV):AV:=match co,v with
 | true,.agg c=>cond (Cf c) (.pagg c false) (.agg c)
 | _,v=>v
def KB {R:Type} (P:Program) (g:Ar) (co:Bool) (d:Nat) (t:TypeId) (k:AV→Bo→O R):O R :=
 match P.underlying t,ST P t with
 | some (.slice el),some .nsl=>(Az P el).bind fun sz=>k (.optr (nid d) 0) [(nid d+1,some (De sz)),(nid d,some { dead:=false,sealed:=false,pure:=false,taint:=false,sz:=0,cells:=[.own (nid d+1) 0 0] })]
 | _,some z=>eX P g d t (mc co z) k
 | _,none=>none
def Hk (place:Nat→Option (Nat×Nat)):List (Nat×LA)→LA→Option (LA)
 | [],c=>some c
 | (i,vs)::r,c=>(place i).bind fun p=>cond (Nat.beq vs.length p.2&&Nat.ble (p.1+p.2) c.length) (Hk place r (setCells c p.1 vs)) none
def SV {R:Type} (place:Nat→Option (Nat×Nat)):List (Nat×LA)→LA→(LA→O R)→O R
 | [],c,k=>k c
 | (i,vs)::r,c,k=>(place i).bind fun p=>cond (Nat.beq vs.length p.2&&Nat.ble (p.1+p.2) c.length) (SV place r (setCells c p.1 vs) k) none
def B4 (n:Nat) (z:LA):LA:=match z with | [v]=>List.replicate n v | z=>(List.replicate n z).flatten
def Si (g:Ar):List (Nat×AV)→Option (List (Nat×LA)×Bo×Bool)
 | []=>some ([],[],false)
 | (i,v)::r=>(N2 g v).bind fun q=>(Si g r).bind fun q'=>some ((i,q.1)::q'.1,q.2.1++q'.2.1,q.2.2||q'.2.2)
def md:AV→Bool
 | .optr ..=>true
 | .fn _ (_::_)=>true
 | _=>false
def Kn {R:Type} (P:Program) (g:Ar) (d:Nat) (t:TypeId) (len:Nat) (parts:List (Nat×AV)) (k:AV→Bo→O R):O R :=
 match P.underlying t with
 | some (.slice el)=>(Az P el).bind fun sz=>(CI P el).bind fun z =>
  cond (Nat.beq sz 1&&(Nat.ble len 16777216&&G8 g (parts.map (·.2)))) ((Hk (fun i=>some (i*1,1)) (parts.map fun p=>(p.1,[p.2])) (B4 len z)).bind fun cells =>
   k (.own (nid d) 0 len) (Jf d false false 1 cells)) none
 | _=>none
def Is {R:Type} (P:Program) (g:Ar) (d:Nat) (t:TypeId) (len:Nat) (parts:List (Nat×AV)) (k:AV→Bo→O R):O R :=
 match P.underlying t with
 | some (.slice el)=>(Az P el).bind fun sz=>(CI P el).bind fun z=>(Si g parts).bind fun q =>
  cond (Nat.ble (len*sz) 16777216) (SV (fun i=>some (i*sz,sz)) q.1 (B4 len z) fun cells =>
   k (.own (nid d) 0 len) (q.2.1++Jf d true q.2.2 sz cells)) none
 | _=>none
def EV:AV→Bool
 | .own .. | .optr .. | .fn .. | .undef | .agg _ | .pagg _ _ | .tup _ | .omap _ | .nd ..=>true
 | _=>false
def SW:AV→Bool
 | .agg c=>c.any EV
 | .pagg _ _=>false
 | v=>EV v
def cellsOf:AV→LA
 | .agg c=>c
 | .pagg c _=>c
 | v=>[v]
def cw:AV→Bool
 | .imm _ _ _ _ o=>o
 | .iptr _ o=>o
 | _=>false
def ME:AV→Bool
 | .pagg _ o=>o
 | .agg c=>c.any cw
 | v=>cw v
def Ul:AV→Bool
 | .pagg _ _=>true
 | _=>false
def F_ (P:Program) (t:TypeId):Option (Nat→Option (Nat×Nat)) :=
 match P.underlying t with
 | some (.array _ e)=>(P.info? e).map fun ie=>fun i=>some (i*ie.size,ie.size)
 | some (.struct fs)=>(fs.toList.mapM fun f=>(P.info? f.type).map fun i=>(f.offset,i.size)).map fun pl=>fun i=>pl[i]?
 | _=>none
def b6 (P:Program) (t:TypeId):Option (LA):=(P.info? t).bind fun i=>(i.zero).map fun v=>Fr v.cells.toList
def C6:List (Nat×AV)→List (Nat×LA)
 | []=>[]
 | (i,v)::r=>(i,cellsOf v)::C6 r
def eY (o:Bool):AV→AV
 | .imm c n s t _=>.imm c n s t o
 | .iptr c _=>.iptr c o
 | v=>v
def SX:AV→LA
 | .agg c=>c
 | .pagg c o=>c.map (eY o)
 | v=>[v]
def Fd:List (Nat×AV)→List (Nat×LA)
 | []=>[]
 | (i,v)::r=>(i,SX v)::Fd r
def Um:AV→Bool
 | .undef=>false
 | .tup _=>false
 | .omap _=>false
 | .nd ..=>false
 | _=>true
def cx (P:Program) (t:TypeId) (parts:List (Nat×AV)):Option AV :=
 (F_ P t).bind fun place=>cond (parts.all fun p=>Um p.2) (
 cond (parts.any fun p=>Ul p.2)
  (cond (parts.any fun p=>SW p.2) ((b6 P t).bind fun z=>(Hk place (Fd parts) z).map fun c=>.agg c) ((CI P t).bind fun z=>(Hk place (C6 parts) z).map fun c=>.pagg c (parts.any fun p=>ME p.2)))
  ((b6 P t).bind fun z=>(Hk place (C6 parts) z).map fun c=>.agg c)) none
def cy {R:Type} (P:Program) (t:TypeId) (parts:List (Nat×AV)) (k:AV→O R):O R :=
 (F_ P t).bind fun place=>cond (parts.all fun p=>Um p.2) (
 cond (parts.any fun p=>Ul p.2)
  (cond (parts.any fun p=>SW p.2) ((b6 P t).bind fun z=>SV place (Fd parts) z fun c=>k (.agg c)) ((CI P t).bind fun z=>SV place (C6 parts) z fun c=>k (.pagg c (parts.any fun p=>ME p.2))))
  ((b6 P t).bind fun z=>SV place (C6 parts) z fun c=>k (.agg c))) none
def Jg (P:Program) (t:TypeId):List (Nat×Nat) :=
 match P.underlying t with
 | some (.struct fs)=>fs.toList.filterMap fun f=>match P.underlying f.type with | some (.slice el)=>(Az P el).map fun s=>(f.offset,s) | _=>none
 | _=>[]
def Dl (d:Nat):List (Nat×Nat)→Nat→LA→LA×Bo
 | [],_,c=>(c,[])
 | (o,sz)::r,j,c=>match c[o]? with
  | some .nsl=>((Dl d r (j+1) (c.set o (.own (nid d+j) 0 0))).1,(nid d+j,some (De sz))::(Dl d r (j+1) (c.set o (.own (nid d+j) 0 0))).2)
  | _=>Dl d r (j+1) c
def lT {R:Type} (P:Program) (t:TypeId) (co:Bool) (d:Nat) (v:AV) (k:AV→Bo→O R):O R :=
 match co,v with
 | true,.agg c=>cond (Nat.ble (Jg P t).length 14) (k (.agg (Dl d (Jg P t) 1 c).1) (Dl d (Jg P t) 1 c).2) none
 | _,v=>k v []
def AS {R:Type} (P:Program) (g:Ar) (d:Nat) (t:TypeId) (k:AV→Bo→O R):O R :=
 match ST P t with
 | some (.agg c)=>cond (Nat.ble (Jg P t).length 14&&G8 g c) (k (.optr (nid d) 0) ((Dl d (Jg P t) 1 c).2++Jf d false false 0 (Dl d (Jg P t) 1 c).1)) none
 | _=>none
def kV (P:Program):Nat→TypeId→Nat→List (Nat×TypeId)
 | 0,t,off=>[(off,t)]
 | d+1,t,off=>match P.underlying t with
  | some (.struct fs)=>fs.toList.flatMap fun f=>kV P d f.type (off+f.offset)
  | _=>[(off,t)]
def mf (P:Program) (t:TypeId):Bool:=match P.underlying t with
 | some (.int _)=>true | some .bool=>true | some .string=>true | some (.slice _)=>true | _=>false
def GA {R:Type} (P:Program) (c:LA) (org:Bool):List (Nat×TypeId)→LA→(LA→O R)→O R
 | [],acc,k=>k acc
 | (off,t)::r,acc,k=>cond (Nat.beq off acc.length&&mf P t) (V4 P t (c.drop off) org fun v=>GA P c org r (acc++[v]) k) none
def KC {R:Type} (P:Program) (co:Bool) (t:TypeId) (v:AV) (k:AV→O R):O R :=
 match co,v with
 | true,.pagg c org=>GA P c org (kV P 4 t 0) [] fun l=>cond (Nat.beq c.length l.length) (k (.agg l)) none
 | _,v=>k v
def b7 {R:Type} (P:Program) (d:Nat) (t:TypeId) (len cap:AV) (k:AV→Bo→O R):O R :=
 match P.underlying t,len,cap with
 | some (.slice el),.int .i64 l,.int .i64 c=>(Az P el).bind fun sz=>(Xu P el).bind fun by_=>(CI P el).bind fun z =>
  cond (decide (0≤l)&&(decide (l≤c)&&(decide (c≤140737488355328)&&decide (c*(by_:Int)≤140737488355328)))) (
   k (.own (nid d) 0 l.toNat) (Jf d true false sz (B4 l.toNat z))) none
 | _,_,_=>none
def KD {R:Type} (P:Program) (d:Nat) (t:TypeId) (len cap:AV) (k:AV→Bo→O R):O R :=
 match P.underlying t,len,cap with
 | some (.slice el),.int .i64 l,.int .i64 c=>(Az P el).bind fun sz=>(Xu P el).bind fun by_=>(CI P el).bind fun z =>
  cond (decide (0≤l)&&(decide (l≤c)&&(decide (c≤140737488355328)&&(decide (c*(by_:Int)≤140737488355328)&&Nat.beq sz 1)))) (
   k (.own (nid d) 0 l.toNat) [(nid d,some { dead:=false,sealed:=false,pure:=true,taint:=false,sz,cells:=B4 l.toNat z,ty:=some (el,140737488355328) })]) none
 | _,_,_=>none
def kW (g:Ar) (sz:Nat) (s:AV):Option (LA×Nat×Bool×Bo) :=
 match s with
 | .nsl=>some ([],0,false,[])
 | .imm _ n _ true _=>cond (Nat.beq n 0) (some ([],0,false,[])) none
 | .own b off n=>(B9 g b).bind fun x=>cond (x.pure&&(!x.sealed&&Nat.beq sz x.sz)) (some ((x.cells.drop off).take (n*sz),n,x.taint,[(b,none)])) none
 | _=>none
def MF (P:Program) (g:Ar) (el tx:TypeId) (s:AV):Option (Nat×Nat) :=
 match s with
 | .nsl=>match P.underlying tx with | some .string=>some (el,0) | _=>none
 | .own b off _=>(B9 g b).bind fun x=>(x.ty).bind fun q=>cond (Nat.beq q.1 el&&(Nat.beq q.2 0&&Nat.beq off 0)) (some (el,0)) none
 | _=>none
def cz (P:Program) (t:TypeId):Bool:=match P.underlying t with | some (.slice _)=>true | some .string=>true | _=>false
def Pz {R:Type} (P:Program) (g:Ar) (d:Nat) (t tx:TypeId) (s x:AV) (k:AV→Bo→O R):O R :=
 match P.underlying t with
 | some (.slice el)=>cond (cz P tx) ( (Az P el).bind fun sz=>(Xu P el).bind fun by_=>(CI P el).bind fun _ =>
  (kW g sz s).bind fun old=>Uk P el g sz x fun new =>
  cond (Nat.ble (old.2.1+new.2.1) 140737488355328&&Nat.ble ((old.2.1+new.2.1)*by_) 140737488355328) (
   k (.own (nid d) 0 (old.2.1+new.2.1)) (old.2.2.2++[(nid d,some { dead:=false,sealed:=false,pure:=true,taint:=old.2.2.1||new.2.2,sz,cells:=old.1++new.1,ty:=MF P g el tx s })])) none) none
 | _=>none
def b8 {R:Type} (P:Program) (g:Ar) (t:TypeId) (s x:AV) (k:AV→Bo→O R):O R :=
 match P.underlying t,s with
 | some (.slice el),.own b off n=>(Az P el).bind fun sz=>(B9 g b).bind fun y=>Uk P el g sz x fun new =>
  cond (y.pure&&(!y.sealed&&Nat.beq sz y.sz)) (
   k (.int .i64 (min new.2.1 n:Nat)) [(b,some { y with cells:=Hp y.cells off (new.1.take ((min new.2.1 n)*sz)),taint:=y.taint||new.2.2 })]) none
 | some (.slice el),.nsl=>(Az P el).bind fun sz=>Uk P el g sz x fun _=>k (.int .i64 0) []
 | _,_=>none
def KE {R:Type} (P:Program) (g:Ar) (t:TypeId) (s:AV) (k:AV→Bo→O R):O R :=
 match P.underlying t,s with
 | some (.slice el),.own b off n=>(Az P el).bind fun sz=>(CI P el).bind fun z=>(B9 g b).bind fun y =>
  cond (y.pure&&(!y.sealed&&Nat.beq sz y.sz)) (k (.tup []) [(b,some { y with cells:=Hp y.cells off (B4 n z) })]) none
 | _,_=>none
def b9 {R:Type} (P:Program) (g:Ar) (d:Nat) (src dst:TypeId) (x:AV) (k:AV→Bo→O R):O R :=
 match P.underlying dst with
 | some (.int kd)=>match x with | .int _ n=>cond (P.underlying src).isSome (k (.int kd (kd.wrap n)) []) none | _=>none
 | some .string=>match P.underlying src with
  | some .string=>match x with | .str s=>k (.str s) [] | _=>none
  | some (.slice el)=>match P.underlying el with
   | some (.int .u8)=>match x with
    | .str _=>none
    | x=>(V5 g 1 x).bind fun q=>(FY q.1).bind fun s=>k (.str s) []
   | _=>none
  | _=>none
 | some (.slice el)=>match P.underlying src,P.underlying el,x with
  | some (.slice _),some (.int .u8),.own b off n=>cond (Nat.beq src dst&&Nat.ble 1 n) ((B9 g b).bind fun x=>cond x.sealed none (k (.own b off n) [])) none
  | some .string,some (.int .u8),.str s=>k (.own (nid d) 0 s.length) (Jf d true false 1 (s.map fun b=>.int .u8 (b.toNat:Int)))
  | _,_,_=>none
 | _=>none
def KG {R:Type} (P:Program) (g:Ar) (d:Nat) (src dst:TypeId) (x:AV) (k:AV→Bo→O R):O R :=
 match P.underlying dst with
 | some .unsafePointer=>match P.underlying src,x with
  | some (.pointer t),.optr b off=>(Az P t).bind fun n=>(B9 g b).bind fun y=>cond (!(Nat.beq n 0)&&Nat.blt off y.cells.length) (k (.optr b off) []) none
  | _,_=>none
 | some (.pointer u)=>match P.underlying src,x with
  | some .unsafePointer,.optr b off=>(Az P u).bind fun _=>(B9 g b).bind fun y=>(y.ty).bind fun q =>
    cond ((Nat.blt 0 q.2&&Nat.blt q.2 1073741824)&&(Nat.blt 0 y.cells.length&&liesAt P P.depth q.1 (q.2/P.cellsOf q.1) off u 1)) (k (.optr b off) []) none
  | _,_=>none
 | _=>b9 P g d src dst x k
def dA:AV→Option UInt8
 | .int .u8 n=>cond (decide (((UInt8.ofNat n.toNat).toNat:Int)=n)) (some (UInt8.ofNat n.toNat)) none
 | _=>none
def Xx:LA→Option (List UInt8)
 | []=>some []
 | x::r=>(dA x).bind fun b=>(Xx r).bind fun l=>some (b::l)
def Ko {R:Type} (g:Ar) (x:AV) (k:AV→Bo→O R):O R :=
 match x with
 | .nsl=>k .nilptr []
 | .own b off n=>(B9 g b).bind fun _=>cond (Nat.blt 0 n) (k (.optr b off) []) none
 | _=>none
def Kp {R:Type} (P:Program) (g:Ar) (t:TypeId) (x n:AV) (k:AV→Bo→O R):O R :=
 match x,n with
 | .nilptr,.int .i64 n=>cond (n==0) (k (.str []) []) none
 | .optr b off,.int .i64 n=>(B9 g b).bind fun y=>(y.ty).bind fun q=>match P.underlying t with
  | some (.pointer e)=>cond (Nat.beq q.1 e&&(Nat.beq (P.cellsOf e) 1&&(y.pure&&(!y.sealed&&(Nat.beq off 0&&(decide (0<n)&&(decide (n≤(y.cells.length:Int))&&decide (n≤9223372036854775807))))))))
    ((Xx (y.cells.take n.toNat)).bind fun s=>k (.str s) [(b,none)]) none
  | _=>none
 | _,_=>none
def CB:LA→Int→Bool
 | [],_=>false
 | .int _ m::r,n=>cond (n==m) true (CB r n)
 | _::r,n=>CB r n
def Mm (c:LA) (n:Int):LA:=cond (CB c n) c (c++[.int .i64 n])
def Kq (P:Program) (t:TypeId):Bool:=match P.underlying t with
 | some (.map k e)=>(match P.underlying k with | some (.int .i64)=>true | _=>false)&&(match ST P e with | some (.bool false)=>true | _=>false)
 | _=>false
def Od {R:Type} (d:Nat) (r:Option AV) (k:AV→Bo→O R):O R :=
 match r with
 | none=>k (.omap (nid d)) [(nid d,some { dead:=false,sealed:=false,pure:=true,taint:=false,sz:=0,cells:=[],mp:=true })]
 | some _=>none
def Sj:AV→Option LA
 | .imm c n sz _ _=>cond (Nat.beq sz 0&&Nat.beq n 0) (some c) none
 | _=>none
def dB:AV→Option LA
 | .imm c n sz _ _=>cond (Nat.beq sz 0&&Nat.beq n 1) (some c) none
 | _=>none
def Z_ {R:Type} (g:Ar) (b i gn:Nat) (k:Blk→LA→O R):O R :=
 (B9 g b).bind fun x=>cond (An x&&(Nat.beq x.sz 2&&Nat.beq x.gen gn)) (((x.cells.drop i).head?).bind fun y=>(Sj y).bind fun c=>k x c) none
def KH {R:Type} (P:Program) (g:Ar) (t:TypeId) (m key val:AV) (k:AV→Bo→O R):O R :=
 match m,key,val with
 | .omap b,.int .i64 n,.bool true=>cond (Kq P t) ((B9 g b).bind fun x=>cond (x.mp&&Nat.beq x.sz 0) (k .undef [(b,some { x with cells:=Mm x.cells n })]) none) none
 | .nd b (.ref i gn _ _),.int .i64 n,.bool true=>cond (Kq P t) (Z_ g b i gn fun x c=>k .undef [(b,some { x with cells:=x.cells.set i (A6 (Mm c n) 0 0) })]) none
 | _,_,_=>none
def N3 {R:Type} (P:Program) (g:Ar) (t:TypeId) (m key:AV) (k:AV→Bo→O R):O R :=
 match m,key with
 | .nd b (.ref i gn _ _),.int .i64 n=>cond (Kq P t) (Z_ g b i gn fun x c=>k (.tup [.undef,.nd b (.stamp i gn (x.pend+1))]) [(b,some { x with cells:=x.cells.set i (A6 (Mm c n) 1 0),pend:=x.pend+1 })]) none
 | _,_=>none
def It {R:Type} (g:Ar) (m s val:AV) (k:AV→Bo→O R):O R :=
 match m,s,val with
 | .nd b (.ref i gn _ _),.nd b' (.stamp i' g' p),.bool true=>cond (Nat.beq b b'&&Nat.beq gn g') (cond (Nat.beq i i') ((B9 g b).bind fun x=>cond (An x&&(Nat.beq x.sz 2&&(Nat.beq x.gen gn&&Nat.beq x.pend p)))
   (((x.cells.drop i).head?).bind fun y=>(dB y).bind fun c=>k .undef [(b,some { x with cells:=x.cells.set i (A6 c 0 0),pend:=x.pend+1 })]) none) none) none
 | _,_,_=>none
def SY:LA→Int→LA
 | [],_=>[]
 | .int kd m::r,n=>cond (n==m) r (.int kd m::SY r n)
 | v::r,n=>v::SY r n
def AT {R:Type} (P:Program) (g:Ar) (t:TypeId) (m key:AV) (k:AV→Bo→O R):O R :=
 match m,key with
 | .nd b (.ref i gn _ _),.int .i64 n=>cond (Kq P t) (Z_ g b i gn fun x c=>k (.tup []) [(b,some { x with cells:=x.cells.set i (A6 (SY c n) 0 0) })]) none
 | _,_=>none
def b_ {R:Type} (P:Program) (g:Ar) (t:TypeId) (m key:AV) (comma:Bool) (k:AV→O R):O R :=
 match m,key,comma with
 | .omap b,.int .i64 n,false=>cond (Kq P t) ((B9 g b).bind fun x=>cond (x.mp&&Nat.beq x.sz 0) (k (.bool (CB x.cells n))) none) none
 | .nd b (.ref i gn _ _),.int .i64 n,false=>cond (Kq P t) (Z_ g b i gn fun _ c=>k (.bool (CB c n))) none
 | _,_,_=>none
def mg (P:Program) (t:TypeId):Bool:=match P.underlying t with | some (.map _ _)=>true | _=>false
def GC (P:Program) (t:TypeId):Bool:=match P.underlying t with | some (.slice _)=>true | _=>false
def bc {R:Type} (P:Program) (g:Ar) (t:TypeId) (x:AV) (k:AV→O R):O R :=
 match x with
 | .nd b (.ref i gn n s)=>cond (Nat.beq s 0) (cond (mg P t) (Z_ g b i gn fun _ c=>k (.int .i64 c.length)) none) (cond (GC P t) (k (.int .i64 n)) none)
 | .nd _ (.whole n)=>cond (GC P t) (k (.int .i64 n)) none
 | x=>(qO P t x).bind k
def mh (P:Program) (el:TypeId):Option Nat:=match P.underlying el,(P.info? el).bind (·.zero) with
 | some (.slice e),some (.slice none 0 0)=>(Az P e).bind fun s=>cond (Nat.ble 1 s) (some s) none
 | some (.map _ _),some (.map none)=>cond (Kq P el) (some 0) none
 | _,_=>none
def N4 {R:Type} (P:Program) (d:Nat) (t:TypeId) (len cap:AV) (k:AV→Bo→O R):O R :=
 match P.underlying t,len,cap with
 | some (.slice el),.int .i64 l,.int .i64 c=>(Az P el).bind fun sz=>(Xu P el).bind fun by_=>(mh P el).bind fun s =>
  cond (Nat.beq sz 1&&(decide (0≤l)&&(decide (l=c)&&(decide (c≤140737488355328)&&decide (c*(by_:Int)≤140737488355328))))) (
   k (.nd (nid d) (.whole l.toNat)) [(nid d,some { dead:=false,sealed:=false,pure:=true,taint:=false,sz:=s+2,cells:=List.replicate l.toNat .nsl,mp:=true })]) none
 | _,_,_=>none
def bd {R:Type} (g:Ar) (d:Nat) (s:AV) (k:Ar→AV→Bo→O R):O R :=
 match s with
 | .nd b (.ref i gn n s)=>(B9 g b).bind fun x=>cond (An x&&(Nat.beq x.gen gn&&(Nat.ble 1 s&&Nat.beq x.sz (s+2)))) (Ht s x.cells i fun c _ =>
   k (fun j=>cond (Nat.beq j (nid d+14)) (some { dead:=false,sealed:=false,pure:=true,taint:=false,sz:=s,cells:=c }) (cond (Nat.beq j b) (some { x with cells:=x.cells.set i .undef,gen:=x.gen+1 }) (g j)))
    (.own (nid d+14) 0 n) [(b,some { x with cells:=x.cells.set i .undef,gen:=x.gen+1 }),(nid d+14,some { dead:=false,sealed:=false,pure:=true,taint:=false,sz:=s,cells:=c })]) none
 | s=>k g s []
def Sk {R:Type} (P:Program) (g:Ar) (d:Nat) (t tx:TypeId) (s x:AV) (k:AV→Bo→O R):O R :=
 bd g d s fun g s u=>Pz P g d t tx s x fun v us=>k v (u++us)
def lU (s:List UInt8) (p:Int):Nat×Nat:=Utf8.decode ⟨⟨s⟩⟩ p.toNat
def KI {R:Type} (P:Program) (d:Nat) (t:TypeId) (x:AV) (k:AV→Bo→O R):O R :=
 match P.underlying t,x with
 | some .string,.str s=>k (.omap (nid d)) [(nid d,some { dead:=false,sealed:=false,pure:=true,taint:=false,sz:=1,cells:=[.str s,.int .i64 0],mp:=true })]
 | _,_=>none
def bf {R:Type} (g:Ar) (it:AV) (isString:Bool) (k:AV→Bo→O R):O R :=
 match it,isString with
 | .omap b,true=>(B9 g b).bind fun x=>cond (x.mp&&Nat.beq x.sz 1)
  (match x.cells with
   | [.str s,.int .i64 p]=>cond (decide (p<(s.length:Int)))
     (k (.tup [.bool true,.int .i64 p,.int .i32 ((lU s p).1:Nat)]) [(b,some { x with cells:=[.str s,.int .i64 (p+((lU s p).2:Nat))] })]) (k (.tup [.bool false]) [])
   | _=>none) none
 | _,_=>none
def mi (g:Ar) (x y:AV):Option Bool :=
 match x,y with
 | .nilptr,.nilptr=>some true
 | .nilptr,.optr _ _=>some false
 | .optr _ _,.nilptr=>some false
 | .nilptr,.iptr _ _=>some false
 | .iptr _ _,.nilptr=>some false
 | .optr b o,.optr b' o'=>(B9 g b).bind fun _=>cond (Nat.beq b b') (some (Nat.beq o o')) none
 | _,_=>none
def iI (P:Program) (t:TypeId):Bool:=match P.underlying t with
 | some (.pointer e)=>match Az P e with | some n=>!(Nat.beq n 0) | none=>false
 | _=>false
def bg {R:Type} (P:Program) (g:Ar) (t:TypeId) (op:BinOp) (x y:AV) (r:AV→O R):O R :=
 match mi g x y with
 | some b=>cond (iI P t) (match op with
  | .eql=>r (.bool b)
  | .neq=>r (.bool (!b))
  | _=>none) none
 | none=>bZ P t op x y r
mutual
def Df:AV→List Nat
 | .own b _ _=>[b]
 | .optr b _=>[b]
 | .omap b=>[b]
 | .nd b _=>[b]
 | .agg c=>Ep c
 | .tup c=>Ep c
 | .fn _ c=>Ep c
 | _=>[]
def Ep:List AV→List Nat
 | []=>[]
 | v::r=>Df v++Ep r
end
mutual
def Xy (ρ:Nat→Nat):AV→AV
 | .own b off n=>.own (ρ b) off n
 | .optr b off=>.optr (ρ b) off
 | .omap b=>.omap (ρ b)
 | .nd b q=>cond q.stable (.nd (ρ b) q) .undef
 | .agg c=>.agg (Mz ρ c)
 | .tup c=>.tup (Mz ρ c)
 | .fn f c=>.fn f (Mz ρ c)
 | v=>v
def Mz (ρ:Nat→Nat):List AV→List AV
 | []=>[]
 | v::r=>Xy ρ v::Mz ρ r
end
def Un (g:Ar):AV→Option (AV×Bool)
 | .own b off n=>(B9 g b).bind fun x=>cond x.pure (some (.imm ((x.cells.drop off).take (n*x.sz)) n x.sz false (!x.sealed||x.taint),!x.sealed||x.taint)) none
 | .imm c n sz _ org=>some (.imm c n sz false org,org)
 | .iptr c org=>some (.iptr c org,org)
 | .optr .. | .agg _ | .tup _ | .undef | .fn .. | .pagg .. | .omap _ | .nd ..=>none
 | v=>some (v,false)
def Xz (g:Ar):LA→Option (LA×Bool)
 | []=>some ([],false)
 | v::r=>(Un g v).bind fun p=>(Xz g r).bind fun q=>some (p.1::q.1,p.2||q.2)
def dC (g:Ar):AV→Option (AV×Bool)
 | .own b off n=>(B9 g b).bind fun x=>cond x.pure (some (.imm ((x.cells.drop off).take (n*x.sz)) n x.sz false (!x.sealed||x.taint),!x.sealed)) none
 | .imm c n sz _ org=>some (.imm c n sz false org,false)
 | .optr b off=>(B9 g b).bind fun x=>cond x.pure (some (.iptr (x.cells.drop off) (!x.sealed||x.taint),!x.sealed)) none
 | .agg c=>(Xz g c).bind fun q=>some (.pagg q.1 q.2,true)
 | .fn f []=>some (.fn f [],false)
 | .fn _ _ | .tup _ | .undef | .omap _ | .nd ..=>none
 | v=>some (v,false)
def Ev (d:Nat):List (Nat×Nat)→Nat→Nat
 | [],_=>d
 | (i,x)::r,b=>cond (Nat.beq i b) x (Ev d r b)
def Dz:List Nat→Nat→Bool
 | [],_=>false
 | i::r,b=>cond (Nat.beq i b) true (Dz r b)
def MG:List Nat→List Nat→List Nat
 | [],acc=>acc.reverse
 | i::r,acc=>cond (Dz acc i) (MG r acc) (MG r (i::acc))
def X0:List Nat→Bool
 | []=>true
 | i::r=>!Dz r i&&X0 r
def Ap (base:Nat):List Nat→List (Nat×Nat)
 | []=>[]
 | i::r=>(i,base)::Ap (base+1) r
def inner (g:Ar):List Nat→List Nat
 | []=>[]
 | b::r=>(match g b with | some x=>cond x.pure [] (Ep x.cells) | none=>[])++inner g r
def Oe (g:Ar) (ids:List Nat):List Nat:=MG (ids++inner g (ids++inner g ids)) []
def X1 (g:Ar):List Nat→Bool
 | []=>true
 | b::r=>(match g b with | some x=>!x.dead | none=>false)&&X1 g r
def Kc (ρ:Nat→Nat) (x:Blk):Blk:={ x with cells:=cond x.pure x.cells (Mz ρ x.cells),gen:=0,pend:=0 }
def iJ (o:Option Blk) (x:Blk):Blk:={ x with gen:=cond x.mp (match o with | some y=>y.gen+1 | none=>0) 0 }
def sub (g:Ar) (ρ:Nat→Nat):List Nat→Ag
 | []=>[]
 | b::r=>match g b with
  | some x=>Cb (sub g ρ r) (ρ b) (Kc ρ x)
  | none=>sub g ρ r
structure Tw where
 runK:{R:Type}→List AV→Ag→(AV→Ag→O R)→O R
 eq:∀ {R:Type} (args:List AV) (h:Ag) (k:AV→Ag→O R),runK args h k=(runK args h fun v h'=>some (v,h')).bind fun p=>k p.1 p.2
def GD {R:Type}:List (Nat×Tw)→Nat→LA→Ag→(AV→Ag→O R)→O R
 | [],_,_,_,_=>none
 | (g,t)::r,f,args,h,k=>cond (Nat.beq g f) (t.runK args h k) (GD r f args h k)
structure Env where
 P:Program
 nt:Nat
 muts:Nat→List Bool
 nils:List (Nat×Nat)
 free:List Nat
 cob:List Nat
 tbl:List (Nat×Tw)
mutual
def Rm:AV→Bool
 | .imm _ _ _ _ o=>o
 | .iptr _ o=>o
 | .pagg _ o=>o
 | .agg c=>Lc c
 | .tup c=>Lc c
 | .fn _ c=>Lc c
 | _=>false
def Lc:List AV→Bool
 | []=>false
 | v::r=>Rm v||Lc r
end
def GE:Ag→Bool
 | []=>false
 | (_,x)::r=>x.taint||(cond x.pure false (Lc x.cells))||GE r
def Fe (g:Ar):LA→List Nat
 | []=>[]
 | .own b _ _::r=>match g b with | some x=>cond x.sealed (Fe g r) (b::Fe g r) | none=>Fe g r
 | _::r=>Fe g r
def Sl (g:Ar):AV→List Nat
 | .own b _ _=>match g b with | some x=>cond x.sealed [] [b] | none=>[]
 | .optr b _=>match g b with | some x=>cond x.sealed [] [b] | none=>[]
 | .agg c=>Fe g c
 | _=>[]
def Sm (g:Ar):List Bool→LA→Option (LA×List Nat×List Nat)
 | _,[]=>some ([],[],[])
 | ms,v::r =>
  cond (ms.headD false)
   ((Sm g ms.tail r).bind fun q=>some (v::q.1,Df v++q.2.1,q.2.2))
   ((dC g v).bind fun p=>(Sm g ms.tail r).bind fun q=>some (p.1::q.1,q.2.1,Sl g v++q.2.2))
def V6 (ids:List Nat):List Nat→Bool
 | []=>true
 | b::r=>Dz ids b&&V6 ids r
def eZ:List Nat→List Nat→Bool
 | [],_=>true
 | i::r,l=>!Dz l i&&eZ r l
def dD:List Nat→Bool
 | []=>true
 | _=>false
def bi {R:Type} (E:Env) (g:Ar) (d:Nat) (f:Nat) (args:LA) (k:AV→Bo→O R):O R :=
 (Sm g (E.muts f) args).bind fun q =>
 let ids:=Oe g q.2.1
 let tin:=Ap 100000 ids
 let outs:=tin.map (·.2)
 cond (X1 g ids&&(V6 ids q.2.1&&(V6 ids (inner g ids)&&(eZ q.2.2 ids&&(X0 (ids.map (Ev 0 tin))&&Nat.ble ids.length 100000))))) (
  GD E.tbl f (Mz (Ev 0 tin) q.1) (sub g (Ev 0 tin) ids) fun rv rh =>
  let all:=Oe (Ac rh) (Df rv++outs)
  let new:=all.filter fun b=>!Dz outs b
  let tnew:=Ap (nid d) new
  let σ:=Ev 0 ((tin.map fun p=>(p.2,p.1))++tnew)
  cond (!dD q.2.2&&(Rm rv||GE rh)) none
   (cond (X1 (Ac rh) new&&(Nat.ble new.length 16&&(V6 all (Df rv)&&(V6 all outs&&(V6 all (inner (Ac rh) all)&&X0 (all.map σ))))))
    (k (Xy σ rv) ((tin.map fun p=>(p.1,(Ac rh p.2).map fun y=>iJ (g p.1) (Kc σ y)))++tnew.map fun p=>(p.2,(Ac rh p.1).map (Kc σ)))) none)) none
def bj {R:Type} (c a b:AV) (k:AV→O R):O R :=
 match c,a,b with
 | .bool t,.bool x,.bool y=>k (.bool (cond t x y))
 | .bool t,x,.tup []=>cond t (k x) none
 | .bool t,.tup [],y=>cond t none (k y)
 | .bool t,x,y=>cond t (k x) (k y)
 | _,_,_=>none
def dE (P : Program) (f : Nat) : Bool := match P.funcs[f]? with | some fn => fn.body.isSome && !(fn.name == "runtime.NumGoroutine") | none => false
def mj (P : Program) (f : Nat) : Bool := match P.funcs[f]? with | some fn => fn.body.isNone && (fn.name == "internal/abi.NoEscape" && fn.origin == "") | none => false
def lV (a b:Int):Int:=cond (decide (b<a)) b a
def EW (a b:Int):Int:=cond (decide (b>a)) b a
def lW:AV→AV→Option AV
 | .int k a,.int _ b=>some (.int k (lV a b))
 | _,_=>none
def lX:AV→AV→Option AV
 | .int k a,.int _ b=>some (.int k (EW a b))
 | _,_=>none
def Z' {R:Type} (E:Env) (g:Ar) (d:Nat) (v:Operand→AV) (o:Op) (k:AV→Bo→O R):O R :=
 match o with
 | .move x=>k (v x) []
 | .assign x=>k (v x) []
 | .pick c a b=>bj (v c) (v a) (v b) fun r=>k r []
 | .alloc t=>cond (Dz E.cob (d+1000000)) (AS E.P g d t k) (KB E.P g (Dz E.cob d) d t k)
 | .box t x=>KC E.P (Dz E.cob d) t (v x) fun u=>eX E.P g d t u k
 | .build t parts=>cy E.P t (parts.toList.map fun p=>(p.1,v p.2)) fun r=>lT E.P t (Dz E.cob d) d r k
 | .buildSlice t len parts=>cond ((parts.toList.map fun p=>(p.1,v p.2)).any fun p=>md p.2) (Kn E.P g d t len (parts.toList.map fun p=>(p.1,v p.2)) k) (Is E.P g d t len (parts.toList.map fun p=>(p.1,v p.2)) k)
 | .load t a=>SU E.P g t (v a) fun r=>k r []
 | .store t a x=>KA E.P g t (v a) (v x) k
 | .nilCheck x=>match v x with | .iptr c o=>k (.iptr c o) [] | .optr b o=>k (.optr b o) [] | _=>none
 | .binOp op t x y _=>bg E.P g t op (v x) (v y) fun r=>k r []
 | .unOp op _ x=>(rt op (v x)).bind fun r=>k r []
 | .convert s t x=>KG E.P g d s t (v x) k
 | .makeFunc (.func f) first caps=>cond (Nat.blt f 1000000) (k (.fn (f+1000000*first.toList.length) ((first.toList++caps.toList).map v)) []) none
 | .makeSlice t l c=>cond (Dz E.cob (d+2000000)) (N4 E.P d t (v l) (v c) k) (cond (Dz E.cob (d+3000000)) (KD E.P d t (v l) (v c) k) (b7 E.P d t (v l) (v c) k))
 | .slice t x lo hi mx=>JZ E.P g t (v x) (lo.map v) (hi.map v) (mx.map v) fun r=>k r []
 | .fieldAddr t x f=>Km E.P t (v x) f fun r=>k r []
 | .field t x f=>JX E.P t (v x) f fun r=>k r []
 | .indexAddr t x i=>Kl E.P t (v x) (v i) fun r=>k r []
 | .index t x i=>JY E.P t (v x) (v i) fun r=>k r []
 | .makeMap _ r=>Od d (r.map v) k
 | .mapUpdate t m x y=>KH E.P g t (v m) (v x) (v y) k
 | .mapEntry t m x=>N3 E.P g t (v m) (v x) k
 | .entryStore _ m s x=>It g (v m) (v s) (v x) k
 | .lookup t m x c=>b_ E.P g t (v m) (v x) c fun r=>k r []
 | .range t x=>KI E.P d t (v x) k
 | .next it s=>bf g (v it) s k
 | .extract t i=>match v t with | .tup vs=>(vs[i]?).bind fun r=>k r [] | _=>none
 | .call c=>match c.callee with
  | .builtin .len=>match c.args.toList,c.argTypes.toList with | [x],[t]=>bc E.P g t (v x) fun r=>k r [] | _,_=>none
  | .builtin .append=>match c.args.toList,c.argTypes.toList with | [s,x],[t,tx]=>Sk E.P g d t tx (v s) (v x) k | _,_=>none
  | .builtin .delete=>match c.args.toList,c.argTypes.toList with | [x,y],[t,_]=>AT E.P g t (v x) (v y) k | _,_=>none
  | .builtin .copy=>match c.args.toList,c.argTypes.toList with | [s,x],[t,_]=>b8 E.P g t (v s) (v x) k | _,_=>none
  | .builtin .clear=>match c.args.toList,c.argTypes.toList with | [x],[t]=>KE E.P g t (v x) k | _,_=>none
  | .builtin .min=>match c.args.toList with | [x,y]=>(lW (v x) (v y)).bind fun r=>k r [] | [x,y,z]=>(lW (v x) (v y)).bind fun q=>(lW q (v z)).bind fun r=>k r [] | _=>none
  | .builtin .max=>match c.args.toList with | [x,y]=>(lX (v x) (v y)).bind fun r=>k r [] | [x,y,z]=>(lX (v x) (v y)).bind fun q=>(lX q (v z)).bind fun r=>k r [] | _=>none
  | .builtin .unsafeSliceData=>match c.args.toList with | [x]=>Ko g (v x) k | _=>none
  | .builtin .unsafeString=>match c.args.toList,c.argTypes.toList with | [x,y],[t,_]=>Kp E.P g t (v x) (v y) k | _,_=>none
  | .value fo=>match v fo with
   | .fn f caps=>cond (dE E.P (f%1000000)) (bi E g d (f%1000000) (caps.take (f/1000000)++(c.args.toList.map v++caps.drop (f/1000000))) k)
     (cond (mj E.P (f%1000000)) (match caps,c.args.toList.map v with | [],[x]=>k x [] | _,_=>none) none)
   | _=>none
  | _=>none
 | _=>none
structure Foot where
 r:List Nat
 w:Option Nat
 f:List Nat
 u:List Nat
def EX:List Operand→List Nat
 | []=>[]
 | .tmp t::r=>t::EX r
 | _::r=>EX r
def Ab:Bo→Ag→Ag
 | [],h=>h
 | (b,some x)::r,h=>Ab r (Cb h b x)
 | (b,none)::r,h=>Ab r (match Ac h b with | some x=>Cb h b { x with dead:=true,pure:=true,cells:=[] } | none=>h)
def AU (ops:Array Oper) (o:Oper):Option (Nat×Bool) :=
 match o.guard with
 | none=>none
 | some (j,want)=>((ops[j]?).bind (·.dst)).map fun t=>(t,want)
def Uo (ops:Array Oper) (s:Dy) (o:Oper):Option Bool :=
 match o.guard with
 | none=>some true
 | some (j,want)=>match (ops[j]?).bind (·.dst) with
  | some t=>match Dd s t with
   | .bool b=>some (b==want)
   | .tup []=>some false
   | _=>none
  | none=>some false
def iK (nt:Nat) (s:Dy) (d:Option Nat) (v:AV):Dy:=match d with | some d=>cond (Nat.blt d nt) (EU s d v) s | none=>s
def kX:Op→Bool
 | .binOp op ..=>match op with | .eql | .neq=>true | _=>false
 | .move _ | .assign _ | .pick .. | .build .. | .unOp .. | .makeFunc .. | .fieldAddr .. | .field .. | .indexAddr .. | .index .. | .extract .. | .nilCheck _=>false
 | .call c=>match c.callee with
  | .builtin .len | .builtin .min | .builtin .max=>false
  | _=>true
 | _=>true
def kY:Op→Bool
 | .load .. | .binOp ..=>true
 | _=>false
def kZ:Op→Bool
 | .call c=>match c.callee with | .builtin .len=>true | _=>false
 | _=>false
def ml:AV→Bool
 | .nd _ (.ref ..)=>true
 | _=>false
def Mn (h:Ag) (op:Op) (vals:LA):List Nat:=cond (kX op||(kZ op&&vals.any ml)) (cond (kY op) (MG (Ep vals) []) (Oe (Ac h) (Ep vals))) []
def P0 (d b:Nat):Bool:=Nat.ble (nid d) b&&Nat.blt b (nid d+16)
def CK (d:Nat) (F:List Nat) (h:Ag):Bo→Bool
 | []=>true
 | (b,_)::r=>cond (P0 d b) (Ac h b).isNone (Dz F b&&(Ac h b).isSome)&&CK d F h r
def e9 {R:Type} (E:Env) (ops:Array Oper) (o:Oper) (st:St) (k:St→Foot→O R):O R :=
 (Uo ops st.s o).bind fun wanted=>cond wanted (
  Z' E (fun b=>cond (Dz (Mn st.h o.op (o.op.operands.toList.map (ev st.s))) b) (Ac st.h b) none) (o.dst.getD 50000) (ev st.s) o.op fun v ups =>
  cond (CK (o.dst.getD 50000) (Mn st.h o.op (o.op.operands.toList.map (ev st.s))) st.h ups)
   (k { s:=iK E.nt st.s o.dst v,h:=Ab ups st.h } { r:=(match AU ops o with | some p=>[p.1] | none=>[])++EX o.op.operands.toList,w:=o.dst,f:=Mn st.h o.op (o.op.operands.toList.map (ev st.s)),u:=ups.map (·.1) }) none)
  (k { st with s:=iK E.nt st.s o.dst (.tup []) } { r:=(match AU ops o with | some p=>[p.1] | none=>[]),w:=o.dst,f:=[],u:=[] })
def KJ {R:Type} (ops:Array Oper) (o:Oper) (st:St) (k:St→O R):O R :=
 match o.guard with
 | none=>k st
 | some (j,want)=>match (ops[j]?).bind (·.dst) with
  | none=>k st
  | some t=>match Dd st.s t with
   | .bool b=>cond (b==want) (k { s:=EU st.s t (.bool want),h:=st.h }) (k { s:=EU st.s t (.bool (!want)),h:=st.h })
   | _=>k st
def SZ {R:Type} (E:Env) (ops:Array Oper):List Oper→St→List Foot→(St→List Foot→O R)→O R
 | [],st,tr,k=>k st tr
 | o::r,st,tr,k=>KJ ops o st fun st=>e9 E ops o st fun st f=>SZ E ops r st (f::tr) k
def rk:Option Nat→List Nat→Bool
 | none,_=>false
 | some d,l=>Dz l d
def MH (a b:Foot):Bool :=
 !rk a.w b.r&&!rk b.w a.r&&(match a.w,b.w with | some x,some y=>!Nat.beq x y | _,_=>true)&&eZ a.u (b.f++b.u)&&eZ b.u a.f
def X2 (e:Edge):Bool:=match e.ground with | .textOnly _=>false | .gcOnly _=>false | _=>true
def Up (o:Oper):List Nat:=(o.after.toList.filter X2).map (·.on)
def dF {α:Type}:List Nat→(List Nat→α)→α
 | [],k=>k []
 | i::r,k=>dF r fun s=>k (i::s)
theorem Sn {α:Type}:∀ (l:List Nat) (k:List Nat→α),dF l k=k l
 | [],_=>rfl
 | i::r,k=>by rw[dF,Sn r]
def Dv:List Oper→List (List Nat)→List (List Nat)
 | [],acc=>acc
 | o::r,acc=>dF (MG (Up o++((Up o).flatMap fun i=>(acc[i]?).getD [])) []) fun a=>Dv r (acc++[a])
def N5:Nat→List Oper→Bool
 | _,[]=>true
 | i,o::r=>(o.after.toList.all fun e=>!X2 e||Nat.blt e.on i)&&N5 (i+1) r
def GF (f:Foot) (anc:List Nat):Nat→List Foot→Bool
 | _,[]=>true
 | i,g::r=>(Dz anc i||MH g f)&&GF f anc (i+1) r
def AW:List Foot→List (List Nat)→List Foot→Bool
 | [],_,_=>true
 | f::r,a::az9,seen=>GF f a 0 seen&&AW r az9 (seen++[f])
 | _::_,[],_=>false
def Ex (b:Nat):Nat:=cond (Nat.ble Ea b) (b - Ea) b
mutual
def Mo (g:Ar):AV→AV
 | .own b off n=>match B9 g b with | some _=>.own (Ex b) off n | none=>.undef
 | .optr b off=>match B9 g b with | some _=>.optr (Ex b) off | none=>.undef
 | .omap b=>match B9 g b with | some _=>.omap (Ex b) | none=>.undef
 | .nd b q=>match B9 g b with | some _=>cond q.stable (.nd (Ex b) q) .undef | none=>.undef
 | .agg c=>.agg (Ff g c)
 | .tup c=>.tup (Ff g c)
 | .fn f c=>.fn f (Ff g c)
 | v=>v
def Ff (g:Ar):List AV→List AV
 | []=>[]
 | v::r=>Mo g v::Ff g r
end
def KK (g:Ar) (K:List Nat):Dy→Dy
 | []=>[]
 | (t,v)::r=>cond (Dz K t) ((t,Mo g v)::KK g K r) (KK g K r)
def S_ (K:List Nat):Dy→List Nat
 | []=>[]
 | (t,v)::r=>cond (Dz K t) (Df v++S_ K r) (S_ K r)
def Of (g:Ar):List Nat→Ag
 | []=>[]
 | b::r=>match B9 g b with
  | some x=>Cb (Of g r) (Ex b) { x with cells:=cond x.pure x.cells (Ff g x.cells),gen:=0,pend:=0 }
  | none=>Of g r
def P1 (g:Ar) (ids:List Nat):List Nat:=ids.filter fun b=>match B9 g b with | some _=>true | none=>false
def TA (g:Ar) (ids:List Nat):List Nat→Bool
 | []=>true
 | b::r=>(Dz ids b||(B9 g b).isNone)&&TA g ids r
def k7:List Nat→Bool
 | []=>true
 | b::r=>cond (Nat.ble Ea b) (Nat.blt (Ex b) 100000) true&&k7 r
def clean (K roots:List Nat) (st:St):Option St :=
 let g:=Ac st.h
 let ids:=P1 g (Oe g (S_ K st.s++roots))
 cond (X0 (ids.map Ex)&&(TA g ids (S_ K st.s)&&(TA g ids (inner g ids)&&k7 ids))) (some { s:=KK g K st.s,h:=Of g ids }) none
def AX {R:Type} (E:Env) (roots:List Nat) (ops:Array Oper) (draw:Bool) (st:St) (k:St→O R):O R :=
 SZ E ops ops.toList st [] fun st tr =>
  cond (!draw||(N5 0 ops.toList&&AW tr.reverse (Dv ops.toList []) [])) ((clean (st.s.map (·.1)) roots st).bind k) none
def TC (b:Nat):Bool:=Nat.ble 100000 b&&Nat.blt b 200000
def Uq (live:List Nat):List (Nat×Nat)→St→Option St
 | [],st=>some st
 | (t,sz)::r,st=>cond (Nat.ble 1000000 sz)
  (match Dz live t,Dd st.s t with
  | true,.nsl=>Uq live r { s:=EU st.s t (.imm [] 0 (sz - 1000000) false false),h:=st.h }
  | true,.own b off n=>(CJ (Ac st.h) (.own b off n)).bind fun q=>Uq live r { s:=EU st.s t q.1,h:=Ab q.2.1 st.h }
  | _,_=>Uq live r st)
  (match Dz live t,Dd st.s t with
  | true,.nsl=>cond (Ac st.h (nid t+15)).isSome none (Uq live r { s:=EU st.s t (.own (nid t+15) 0 0),h:=Cb st.h (nid t+15) (De sz) })
  | _,_=>Uq live r st)
def So (free:List Nat) (b:Nat):Bool:=TC b&&!Dz free b
def mm (free ids:List Nat):List (Nat×Nat):=Ap 300000 (ids.filter fun b=>!So free b)
def Og (free ids:List Nat) (b:Nat):Nat:=cond (So free b) b (Ev 0 (mm free ids) b)
def mn (ρ:Nat→Nat) (K:List Nat):Dy→Dy
 | []=>[]
 | (t,v)::r=>cond (Dz K t) ((t,Xy ρ v)::mn ρ K r) (mn ρ K r)
def GG (E:Env) (live roots:List Nat) (st:St):Option St :=
 (Uq live E.nils st).bind fun st =>
 let g:=Ac st.h
 let ids:=P1 g (Oe g (S_ live st.s++roots))
 cond (X0 (ids.map (Og E.free ids))&&(V6 ids (S_ live st.s)&&(V6 ids (inner g ids)&&Nat.ble ids.length 100000))) (some { s:=mn (Og E.free ids) live st.s,h:=sub g (Og E.free ids) ids }) none
inductive Hint where
 | leaf
 | node (live:List Nat) (a b:Hint)
 | join (live:List Nat) (a b:Hint)
def Hint.live:Hint→List Nat
 | .leaf=>[]
 | .node l _ _=>l
 | .join l _ _=>l
def Hint.a:Hint→Hint
 | .leaf=>.leaf
 | .node _ a _=>a
 | .join _ a _=>a
def Hint.b:Hint→Hint
 | .leaf=>.leaf
 | .node _ _ b=>b
 | .join _ _ b=>b
def Hint.isJoin:Hint→Bool
 | .join _ _ _=>true
 | _=>false
noncomputable def Ak {α:Type} (a:α):{ x:α // x=a }:=Classical.choice ⟨⟨a,rfl⟩⟩
noncomputable def mo {R:Type} (j:Bool) (f:St→O R):St→O R:=cond j (Ak f).1 f
theorem P2 {R:Type} (j:Bool) (f:St→O R):mo j f=f:=by cases j;rfl;exact(Ak f).2
noncomputable def lY {R:Type} (E:Env) (roots:List Nat) (H:Hint) (f:St→O R) (st:St):O R:=cond H.isJoin ((GG E H.live roots st).bind (mo true f)) (f st)
def X3 {R:Type} (cn:St→Option St) (body:(St→O R)→St→O R):Nat→St→O R
 | 0,_=>none
 | n+1,st=>body (fun st=>(cn st).bind (X3 cn body n)) st
noncomputable def Dg {R:Type} (E:Env) (roots:List Nat) (N:Nat):Code→Hint→(St→O R)→(Nat→St→O R)→(St→O R)→St→O R
 | .skip,_,k,_,_,st=>k st
 | .region _ ops draw,_,k,_,_,st=>AX E roots ops draw st k
 | .seq a b,H,k,x,r,st=>Dg E roots N a H.a (lY E roots H fun st=>Dg E roots N b H.b k x r st) x r st
 | .cond c a b,H,k,x,r,st=>match ev st.s c with
  | .bool t=>cond t (Dg E roots N a H.a k x r st) (Dg E roots N b H.b k x r st)
  | _=>none
 | .block id c,H,k,x,r,st=>Dg E roots N c H.a k (fun j st=>cond (Nat.beq j id) (k st) (x j st)) r st
 | .loop c,H,_,x,r,st=>(GG E H.live roots st).bind (mo true (X3 (GG E H.live roots) (fun k st=>Dg E roots N c H.a k x r st) N))
 | .exit id,_,_,x,_,st=>x id st
 | .ret,_,_,_,r,st=>r st
 | _,_,_,_,_,_=>none
def G9 {R:Type} (E:Env) (st:St):List ResultVar→LA→(LA→O R)→O R
 | [],acc,k=>k acc.reverse
 | .tmp t::r,acc,k=>G9 E st r (Dd st.s t::acc) k
 | .cell a t::r,acc,k=>SU E.P (Ac st.h) t (Dd st.s a) fun v=>G9 E st r (v::acc) k
def TD:AV→Bool
 | .imm ..=>true
 | .nsl=>true
 | _=>false
def qP (g:Ar) (i:Nat) (m:Nat×Nat) (v:AV):Option (AV×Bo) :=
 cond (Nat.beq m.1 0) (some (v,[]))
 (cond (Nat.beq m.1 1) (match v with
  | .nsl=>some (.imm [] 0 m.2 false false,[])
  | .imm c n sz _ o=>some (.imm c n sz false o,[])
  | .own b off n=>(CJ g (.own b off n)).bind fun q=>some (q.1,q.2.1)
  | .nd b (.whole n)=>(B9 g b).bind fun x=>cond (An x&&Nat.ble 3 x.sz) (some (.imm x.cells n 1 false false,[(b,none)])) none
  | _=>none)
 (cond (Nat.beq m.1 2) (match v with
  | .nsl=>cond (g (nid 90000+i)).isSome none (some (.own (nid 90000+i) 0 0,[(nid 90000+i,some (De m.2))]))
  | v=>some (v,[]))
 (match v with
  | .agg c=>(Oc g c).bind fun q=>some (.pagg q.1 q.2.2,q.2.1)
  | .pagg c o=>some (.pagg c o,[])
  | _=>none)))
def qQ (g:Ar) (m:Nat×Nat) (v:AV):Bool:=cond (Nat.beq m.1 1) (match v with | .nd b _=>(match B9 g b with | some x=>x.cells.all TD | none=>true) | _=>true) true
def e_ (h:Ag):Nat→List (Nat×Nat)→LA→Option (LA×Ag×Bool)
 | _,_,[]=>some ([],h,true)
 | i,ms,v::r=>(qP (Ac h) i (ms.headD (0,0)) v).bind fun p=>(e_ (Ab p.2 h) (i+1) ms.tail r).bind fun q=>some (p.1::q.1,q.2.1,qQ (Ac h) (ms.headD (0,0)) v&&q.2.2)
def qR (l:LA):AV:=match l with | [v]=>v | l=>.tup l
def Ni {R:Type} (E:Env) (fn:Func) (modes:List (Nat×Nat)) (outs:List Nat) (k:AV→Ag→O R) (st:St):O R :=
 G9 E st fn.results.toList [] fun l =>
 (e_ st.h 0 modes l).bind fun q=>cond q.2.2 (
 let v:=qR q.1
 let g:=Ac q.2.1
 let ids:=P1 g (Oe g (Df v++outs))
 cond (X0 (ids.map (Og E.free ids))&&(V6 ids (Df v)&&(V6 ids (inner g ids)&&Nat.ble ids.length 100000))) (k (Xy (Og E.free ids) v) (sub g (Og E.free ids) ids)) none) none
def bk:Nat→LA→Dy
 | _,[]=>[]
 | i,v::r=>(i,v)::bk (i+1) r
structure Hints where
 H:Hint
 nils:List (Nat×Nat):=[]
 modes:List (Nat×Nat):=[]
 free:List Nat:=[]
 cob:List Nat:=[]
def SK:Ag→Bool
 | []=>true
 | (b,_)::r=>TC b&&SK r
noncomputable def V7 {R:Type} (P:Program) (muts:Nat→List Bool) (T:List (Nat×Tw)) (hs:Hints) (N f:Nat) (args:LA) (h:Ag) (k:AV→Ag→O R):O R :=
 match P.funcs[f]? with
 | none=>none
 | some fn=>match fn.body with
  | none=>none
  | some c =>
   let E:Env:={ P,nt:=fn.ntmps,muts,nils:=hs.nils,free:=hs.free,cob:=hs.cob,tbl:=T }
   let outs:=h.map (·.1)
   let fin:=Ni E fn hs.modes outs k
   cond (Nat.ble args.length fn.ntmps&&SK h) (Dg E outs N c hs.H fin (fun _ _=>none) fin { s:=bk 0 args,h }) none
end Gx

namespace Gx
open Go
mutual
def RepC (J:Nat→Prop) (w:World):AV→Value→Prop
 | .int k n,v=>v=.int k n
 | .bool b,v=>v=.bool b
 | .str s,v=>v=.string ⟨⟨s⟩⟩
 | .nsl,v=>v=.slice none 0 0
 | .imm c len sz tight _,v=>c.length=len*sz∧∃ A cap,v=.slice A len cap∧len≤cap∧(tight=true→cap=len) ∧
   (len=0∨∃ a,A=some a∧J a.block∧RepCs J w c (fun j=>w.cell? (a.add j)) 0)
 | .iptr c _,v=>∃ a,v=.pointer (some a)∧J a.block∧RepCs J w c (fun j=>w.cell? (a.add j)) 0
 | .nilptr,v=>v=.pointer none
 | .nilfn,v=>v=.nilFunc
 | .fn f [],v=>v=.func (.func (f%1000000)) #[] #[]
 | _,_=>False
def RepCs (J:Nat→Prop) (w:World):List AV→(Nat→Option Value)→Nat→Prop
 | [],_,_=>True
 | x::r,rd,i=>(∃ u,rd i=some u∧RepC J w x u)∧RepCs J w r rd (i+1)
end
theorem Ay {J:Nat→Prop} {w:World}:∀ {c:LA} {rd:Nat→Option Value} {i:Nat},
  RepCs J w c rd i↔∀ j x,c[j]?=some x→∃ u,rd (i+j)=some u∧RepC J w x u:=by
 intro c
 induction c with
 | nil=>intro rd i;simp[RepCs]
 | cons x r ih =>
  intro rd i
  rw[RepCs,ih]
  constructor
  ·rintro⟨h0,h1⟩ j y hj
   cases j with
   | zero=>simp at hj;subst hj;simpa using h0
   | succ j=>have:=h1 j y (by simpa using hj);rwa [show i+1+j=i+(j+1) by omega] at this
  ·intro h
   refine⟨by simpa using h 0 x (by simp),fun j y hj=>?_⟩
   have:=h (j+1) y (by simpa using hj)
   rwa [show i+(j+1)=i+1+j by omega] at this
def M0 (J:Nat→Prop) (w w':World):Prop:=∀ k,J k→w'.heap[k]?=w.heap[k]?
theorem KL {J:Nat→Prop} {w w':World} (h:M0 J w w') {a:Addr} (ha:J a.block):w'.cell? a=w.cell? a:=by
 unfold World.cell?;rw[h a.block ha]
theorem Iu (a:Addr) (n:Nat):(a.add n).block=a.block:=by unfold Addr.add;split<;>rfl
mutual
theorem RepC.keep {J J':Nat→Prop} {w w':World} (hJ:∀ k,J k→J' k) (hk:M0 J w w'):∀ {x:AV} {v:Value},RepC J w x v→RepC J' w' x v
 | .int ..,_,h=>h
 | .bool _,_,h=>h
 | .str _,_,h=>h
 | .nsl,_,h=>h
 | .imm c _ _ _ _,_,h=>by
  rw[RepC] at h ⊢
  obtain⟨h1,A,cap,h2,h3,h4,h5⟩:=h
  refine⟨h1,A,cap,h2,h3,h4,?_⟩
  rcases h5 with h5 | ⟨a,ha,hj,hc⟩
  ·exact .inl h5
  ·refine .inr ⟨a,ha,hJ _ hj,RepCs.keep hJ hk (c:=c) (fun j=>?_) hc⟩
   exact KL hk (by rw[Iu];exact hj)
 | .iptr c _,_,h=>by
  rw[RepC] at h ⊢
  obtain⟨a,ha,hj,hc⟩:=h
  exact⟨a,ha,hJ _ hj,RepCs.keep hJ hk (c:=c) (fun j=>KL hk (by rw[Iu];exact hj)) hc⟩
 | .nilptr,_,h=>h
 | .nilfn,_,h=>h
 | .fn _ [],_,h=>h
 | .fn _ (_::_),_,h=>by simp[RepC] at h
 | .pagg ..,_,h=>by simp[RepC] at h
 | .agg _,_,h=>by simp[RepC] at h
 | .tup _,_,h=>by simp[RepC] at h
 | .own ..,_,h=>by simp[RepC] at h
 | .optr ..,_,h=>by simp[RepC] at h
 | .undef,_,h=>by simp[RepC] at h
 | .omap _,_,h=>by simp[RepC] at h
 | .nd ..,_,h=>by simp[RepC] at h
theorem RepCs.keep {J J':Nat→Prop} {w w':World} (hJ:∀ k,J k→J' k) (hk:M0 J w w'):∀ {c:List AV} {rd rd':Nat→Option Value} {i:Nat},(∀ j,rd' j=rd j)→RepCs J w c rd i→RepCs J' w' c rd' i
 | [],_,_,_,_,_=>trivial
 | x::r,rd,rd',i,he,h=>by
  rw[RepCs] at h ⊢
  obtain⟨⟨u,hu,hx⟩,hr⟩:=h
  exact⟨⟨u,by rw[he];exact hu,RepC.keep hJ hk (x:=x) hx⟩,RepCs.keep hJ hk (c:=r) he hr⟩
end
abbrev Aw:=Nat→Option (Nat×Nat)
def Am (w:World) (k:Nat):Nat:=match w.heap[k]? with | some (.cells cs _ _)=>cs.size | _=>0
def ee (sz k:Nat):Value:=match sz with | 0=>.map (some k) | _+1=>.pointer (some ⟨k,0,none⟩)
abbrev bn:=Option (Bool×Nat×Nat×Nat×Nat)
def KM:List Nat→Nat
 | []=>0
 | a::r=>2 ^ a*(2*KM r+1)
theorem k8:∀ {a b x y:Nat},2 ^ a*(2*x+1)=2 ^ b*(2*y+1)→a=b∧x=y
 | 0,0,x,y,h=>by simp at h;omega
 | 0,b+1,x,y,h=>by rw[Nat.pow_succ,Nat.mul_comm (2 ^ b) 2,Nat.mul_assoc] at h;omega
 | a+1,0,x,y,h=>by rw[Nat.pow_succ,Nat.mul_comm (2 ^ a) 2,Nat.mul_assoc] at h;omega
 | a+1,b+1,x,y,h=>by
  rw[Nat.pow_succ,Nat.pow_succ,Nat.mul_comm (2 ^ a) 2,Nat.mul_comm (2 ^ b) 2,Nat.mul_assoc,Nat.mul_assoc] at h
  have:=k8 (Nat.eq_of_mul_eq_mul_left (by omega) h)
  exact⟨by omega,this.2⟩
theorem TE:∀ {l m:List Nat},KM l=KM m→l=m
 | [],[],_=>rfl
 | [],b::m,h=>by
  rw[KM,KM] at h
  have:0<2 ^ b*(2*KM m+1):=Nat.mul_pos (Nat.pow_pos (by omega)) (by omega)
  omega
 | a::l,[],h=>by
  rw[KM,KM] at h
  have:0<2 ^ a*(2*KM l+1):=Nat.mul_pos (Nat.pow_pos (by omega)) (by omega)
  omega
 | a::l,b::m,h=>by
  rw[KM,KM] at h
  obtain⟨h1,h2⟩:=k8 h
  rw[h1,TE h2]
def ef:bn→Nat
 | none=>0
 | some (o,k,a,n,c)=>KM [o.toNat,k,a,n,c]+1
theorem mq:∀ {e f:bn},ef e=ef f→e=f
 | none,none,_=>rfl
 | none,some _,h=>by simp[ef] at h
 | some _,none,h=>by simp[ef] at h
 | some (o,k,a,n,c),some (o',k',a',n',c'),h=>by
  simp only[ef] at h
  have:=TE (Nat.succ.inj h)
  simp at this
  obtain⟨h1,h2,h3,h4,h5⟩:=this
  have:o=o':=by cases o<;>cases o'<;>simp_all
  rw[this,h2,h3,h4,h5]
theorem GH:∀ {l m:List bn},l.map ef=m.map ef→l=m
 | [],[],_=>rfl
 | [],_::_,h=>by simp at h
 | _::_,[],h=>by simp at h
 | a::l,b::m,h=>by simp at h;rw[mq h.1,GH h.2]
def enc (l:List bn):Nat:=KM (l.map ef)
open Classical in
noncomputable def dec (o:Nat):List bn:=if h:∃ l,enc l=o then choose h else []
theorem H5 (l:List bn):dec (enc l)=l:=by
 have h:∃ m,enc m=enc l:=⟨l,rfl⟩
 unfold dec
 rw[dif_pos h]
 exact GH (TE (Classical.choose_spec h))
def P3 (s:Nat) (e:bn):Value:=match s with
 | 0=>.map (e.map fun q=>q.2.1)
 | _+1=>match e with | none=>.slice none 0 0 | some (_,k,a,n,c)=>.slice (some ⟨k,a,none⟩) n c
def iL:NV→Value→Prop
 | .whole n,v=>∃ k,v=.slice (some ⟨k,0,none⟩) n n
 | .slot i,v=>∃ k,v=.pointer (some ⟨k,i,none⟩)
 | .ref _ _ n s,v=>(s=0→∃ m,v=.map m)∧(1≤s→∃ A c,v=.slice A n c∧(n=0∨∃ k a,A=some ⟨k,a,none⟩))
 | .elt _ _ off _,v=>∃ k a,v=.pointer (some ⟨k,a+off,none⟩)
 | .stamp ..,_=>True
def NRep (x:Blk) (p0:Option (Nat×Nat)):NV→Value→Prop
 | .whole n,v=>∃ k o,p0=some (k,o)∧An x=true∧x.cells.length=n∧v=.slice (some ⟨k,0,none⟩) n n
 | .slot i,v=>∃ k o,p0=some (k,o)∧An x=true∧i<x.cells.length∧v=.pointer (some ⟨k,i,none⟩)
 | .ref i g n s,v=>g≤x.gen∧An x=true∧x.sz=s+2∧(x.gen=g→∃ k o e,p0=some (k,o)∧(dec o)[i]?=some e∧v=P3 s e∧(1≤s→∀ q,e=some q→q.2.2.2.1=n))
 | .elt i g off s,v=>g≤x.gen∧An x=true∧(x.sz=s+2∧1≤s)∧(x.gen=g→∃ k o w kk a n c,p0=some (k,o)∧(dec o)[i]?=some (some (w,kk,a,n,c))∧v=.pointer (some ⟨kk,a+off,none⟩))
 | .stamp i g p,v=>g≤x.gen∧An x=true∧(x.gen=g→p≤x.pend∧(x.pend=p→∃ k o kk t n c,p0=some (k,o)∧(dec o)[i]?=some (some (true,kk,t+1,n,c))∧v=.int .i64 (t:Nat)))
def SameB (β β':Aw) (b:Nat) (x x':Blk):Prop:=(An x=false→β' b=β b) ∧
 (An x=true→(β' b).map (·.1)=(β b).map (·.1)∧x.gen≤x'.gen∧(x'.gen=x.gen→(∀ k o k' o',β b=some (k,o)→β' b=some (k',o')→(dec o').map (P3 (x.sz - 2))=(dec o).map (P3 (x.sz - 2)))∧x.pend≤x'.pend∧(x'.pend=x.pend→β' b=β b))∧x'.cells.length=x.cells.length)
theorem SameB.to {β β':Aw} {b:Nat} {x x':Blk} (h:β' b=β b) (hg:x.gen≤x'.gen) (hp:x'.gen=x.gen→x.pend≤x'.pend) (hl:An x=true→x'.cells.length=x.cells.length):SameB β β' b x x' :=
 ⟨fun _=>h,fun hn=>⟨by rw[h],hg,fun e=>⟨fun k o k' o' h1 h2=>by rw[h,h1] at h2;simp at h2;rw[h2.2],hp e,fun _=>h⟩,hl hn⟩⟩
theorem SameB.of {β β':Aw} {b:Nat} {x:Blk} (h:β' b=β b):SameB β β' b x x:=.to h (Nat.le_refl _) (fun _=>Nat.le_refl _) (fun _=>rfl)
theorem SameB.ord {β β':Aw} {b:Nat} {x x':Blk} (hm:x.mp=false) (h:β' b=β b):SameB β β' b x x':=⟨fun _=>h,fun hn=>by simp[An,hm] at hn⟩
theorem SameB.un {β β':Aw} {b:Nat} {x x':Blk} (hm:An x=false) (h:β' b=β b):SameB β β' b x x':=⟨fun _=>h,fun hn=>by simp[hm] at hn⟩
theorem SameB.eq {β β':Aw} {b:Nat} {x x':Blk} (h:SameB β β' b x x') (hm:x.mp=false):β' b=β b:=h.1 (by simp[An,hm])
theorem Ey {x x':Blk} (hm:x'.mp=x.mp) (hs:x'.sz=x.sz):An x'=An x:=by unfold An;rw[hm,hs]
theorem Jh {p:Option (Nat×Nat)} {k:Nat} (h:p.map (·.1)=some k):∃ o,p=some (k,o):=by
 cases p with
 | none=>simp at h
 | some q=>obtain⟨a,o⟩:=q;simp at h;exact⟨o,by rw[h]⟩
theorem SameB.trans {β β' β'':Aw} {b:Nat} {x x' x'':Blk} (h:SameB β β' b x x') (h':SameB β' β'' b x' x'') (he:An x'=An x) (hs:x'.sz=x.sz):SameB β β'' b x x'' :=
 ⟨fun hn=>(h'.1 (he.trans hn)).trans (h.1 hn),fun hn=>by
  obtain⟨h1,h2,h3,h4⟩:=h.2 hn
  obtain⟨g1,g2,g3,g4⟩:=h'.2 (he.trans hn)
  refine⟨g1.trans h1,by omega,fun e=>?_,g4.trans h4⟩
  obtain⟨f1,f2,f3⟩:=h3 (by omega)
  obtain⟨e1,e2,e3⟩:=g3 (by omega)
  refine⟨fun k o k' o' q1 q2=>?_,by omega,fun e=>(e3 (by omega)).trans (f3 (by omega))⟩
  rw[q1] at h1
  obtain⟨o1,q3⟩:=Jh h1
  rw[hs] at e1
  exact(e1 _ _ _ _ q3 q2).trans (f1 _ _ _ _ q1 q3)⟩
theorem TF {s i:Nat} {l m:List bn} (h:l.map (P3 s)=m.map (P3 s)) {e:bn} (he:m[i]?=some e):∃ e',l[i]?=some e'∧P3 s e'=P3 s e:=by
 have h1:=congrArg (fun q=>q[i]?) h
 simp only[List.getElem?_map,he,Option.map_some] at h1
 cases hl:l[i]? with
 | none=>rw[hl] at h1;simp at h1
 | some e'=>rw[hl] at h1;simp at h1;exact⟨e',rfl,h1⟩
theorem NRep.to {β β':Aw} {b:Nat} {x x':Blk} (h:SameB β β' b x x') (he:An x'=An x) (hs:x'.sz=x.sz):∀ {q:NV} {v:Value},NRep x (β b) q v→NRep x' (β' b) q v
 | .whole n,v,⟨k,o,h1,h2,h3,h4⟩=>by
  obtain⟨g1,g2,g3,g4⟩:=h.2 h2
  rw[h1] at g1
  obtain⟨o',g1⟩:=Jh g1
  exact⟨k,o',g1,he.trans h2,g4.trans h3,h4⟩
 | .slot i,v,⟨k,o,h1,h2,h3,h4⟩=>by
  obtain⟨g1,g2,g3,g4⟩:=h.2 h2
  rw[h1] at g1
  obtain⟨o',g1⟩:=Jh g1
  exact⟨k,o',g1,he.trans h2,by rw[g4];exact h3,h4⟩
 | .ref i g n s,v,⟨h1,h2,h3,h4⟩=>by
  obtain⟨g1,g2,g3,g4⟩:=h.2 h2
  refine⟨by omega,he.trans h2,by rw[hs];exact h3,fun e=>?_⟩
  obtain⟨k,o,en,q1,q2,q3,q4⟩:=h4 (by omega)
  rw[q1] at g1
  obtain⟨o',g1⟩:=Jh g1
  have g5:=(g3 (by omega)).1 _ _ _ _ q1 g1
  rw[h3,show s+2 - 2=s by omega] at g5
  obtain⟨e',q5,q6⟩:=TF g5 q2
  refine⟨k,o',e',g1,q5,by rw[q6];exact q3,fun hs1 q hq=>?_⟩
  obtain⟨m,rfl⟩:∃ m,s=m+1:=⟨s - 1,by omega⟩
  subst hq
  obtain⟨w1,k1,a1,n1,c1⟩:=q
  match en,q6,q4 with
  | none,q6,_=>simp[P3] at q6
  | some (w0,k0,a0,n0,c0),q6,q4 =>
   simp[P3] at q6
   have:=q4 hs1 _ rfl
   simp at this ⊢;omega
 | .elt i g off s,v,⟨h1,h2,h3,h4⟩=>by
  obtain⟨g1,g2,g3,g4⟩:=h.2 h2
  refine⟨by omega,he.trans h2,by rw[hs];exact h3,fun e=>?_⟩
  obtain⟨k,o,w,kk,a,n,c,q1,q2,q3⟩:=h4 (by omega)
  rw[q1] at g1
  obtain⟨o',g1⟩:=Jh g1
  have g5:=(g3 (by omega)).1 _ _ _ _ q1 g1
  rw[h3.1,show s+2 - 2=s by omega] at g5
  obtain⟨e',q5,q6⟩:=TF g5 q2
  obtain⟨m,rfl⟩:∃ m,s=m+1:=⟨s - 1,by omega⟩
  match e',q5,q6 with
  | none,_,q6=>simp[P3] at q6
  | some (w0,k0,a0,n0,c0),q5,q6 =>
   simp[P3] at q6
   obtain⟨⟨rfl,rfl⟩,rfl,rfl⟩:=q6
   exact⟨k,o',w0,_,_,_,_,g1,q5,q3⟩
 | .stamp i g p,v,⟨h1,h2,h3⟩=>by
  obtain⟨g1,g2,g3,g4⟩:=h.2 h2
  refine⟨by omega,he.trans h2,fun e=>?_⟩
  obtain⟨f1,f2,f3⟩:=g3 (by omega)
  obtain⟨e1,e2⟩:=h3 (by omega)
  exact⟨by omega,fun e3=>by rw[f3 (by omega)];exact e2 (by omega)⟩
mutual
def Rep (J:Bool→Nat→Prop) (β:Aw) (h:Ag) (w:World):AV→Value→Prop
 | .own b off n,v=>∃ x A cap,(Ac h b=some x∧x.mp=false)∧v=.slice A n cap∧n≤cap∧(cap=0∨∃ k o,A=some ⟨k,o+off,none⟩ ∧
   (x.dead=true∨(β b=some (k,o)∧o+off+cap*x.sz≤Am w k∧off+n*x.sz≤x.cells.length)))
 | .omap b,v=>∃ x k,(Ac h b=some x∧x.mp=true)∧(x.dead=true∨(An x=false∧β b=some (k,0)∧v=ee x.sz k))
 | .optr b off,v=>∃ x k o,(Ac h b=some x∧x.mp=false)∧v=.pointer (some ⟨k,o+off,none⟩)∧(x.dead=true∨β b=some (k,o))
 | .nd b q,v=>iL q v∧∃ x,(Ac h b=some x∧x.mp=true)∧(x.dead=true∨NRep x (β b) q v)
 | .pagg c org,v=>∃ cs,v=.agg ⟨cs⟩∧cs.length=c.length∧RepCs (J org) w c (fun j=>cs[j]?) 0
 | .agg c,v=>∃ cs,v=.agg ⟨cs⟩∧Reps J β h w c cs
 | .tup c,v=>∃ cs,v=.tuple ⟨cs⟩∧Reps J β h w c cs
 | .fn f c,v=>∃ cs:List Value,v=.func (.func (f%1000000)) ⟨cs.take (f/1000000)⟩ ⟨cs.drop (f/1000000)⟩∧Reps J β h w c cs
 | .undef,_=>True
 | .imm c n sz t org,v=>RepC (J org) w (.imm c n sz t org) v
 | .iptr c org,v=>RepC (J org) w (.iptr c org) v
 | .int k n,v=>v=.int k n
 | .bool b,v=>v=.bool b
 | .str s,v=>v=.string ⟨⟨s⟩⟩
 | .nsl,v=>v=.slice none 0 0
 | .nilptr,v=>v=.pointer none
 | .nilfn,v=>v=.nilFunc
def Reps (J:Bool→Nat→Prop) (β:Aw) (h:Ag) (w:World):List AV→List Value→Prop
 | [],cs=>cs=[]
 | x::r,cs=>∃ u us,cs=u::us∧Rep J β h w x u∧Reps J β h w r us
end
structure Ext (J:Bool→Nat→Prop) (β:Aw) (h:Ag) (w:World) (J':Bool→Nat→Prop) (β':Aw) (h':Ag) (w':World):Prop where
 jsub:∀ o k,J o k→J' o k
 keep:∀ o,M0 (J o) w w'
 blk:∀ b x,Ac h b=some x→∃ x',(Ac h' b=some x'∧x'.mp=x.mp)∧(x'.dead=true∨(x.dead=false∧SameB β β' b x x'∧x'.sz=x.sz∧(x.mp=false→x'.cells.length=x.cells.length)))
 size:∀ (_ k _:Nat),True→Am w k≤Am w' k
mutual
theorem Rep.ext {J J':Bool→Nat→Prop} {β β':Aw} {h h':Ag} {w w':World} (E:Ext J β h w J' β' h' w'):∀ {x:AV} {v:Value},Rep J β h w x v→Rep J' β' h' w' x v
 | .own b off n,v,hr=>by
  rw[Rep] at hr ⊢
  obtain⟨x,A,cap,⟨hx,hm⟩,h1,h2,hr⟩:=hr
  obtain⟨x',⟨hx',hm'⟩,hd⟩:=E.blk b x hx
  refine⟨x',A,cap,⟨hx',by rw[hm',hm]⟩,h1,h2,?_⟩
  rcases hr with hr | ⟨k,o,h3,hr⟩
  ·exact .inl hr
  ·refine .inr ⟨k,o,h3,?_⟩
   rcases hd with hd | ⟨hd,hβ,hs,hl⟩
   ·exact .inl hd
   ·rcases hr with hr | ⟨h4,h5,h6⟩
    ·simp[hd] at hr
    ·exact .inr ⟨by rw[hβ.eq hm];exact h4,by rw[hs];exact Nat.le_trans h5 (E.size b k o trivial),by rw[hs,hl hm];exact h6⟩
 | .optr b off,v,hr=>by
  rw[Rep] at hr ⊢
  obtain⟨x,k,o,⟨hx,hm⟩,h1,hr⟩:=hr
  obtain⟨x',⟨hx',hm'⟩,hd⟩:=E.blk b x hx
  refine⟨x',k,o,⟨hx',by rw[hm',hm]⟩,h1,?_⟩
  rcases hd with hd | ⟨hd,hβ,hs,hl⟩
  ·exact .inl hd
  ·rcases hr with hr | hr
   ·simp[hd] at hr
   ·exact .inr (by rw[hβ.eq hm];exact hr)
 | .omap b,v,hr=>by
  rw[Rep] at hr ⊢
  obtain⟨x,k,⟨hx,hm⟩,hr⟩:=hr
  obtain⟨x',⟨hx',hm'⟩,hd⟩:=E.blk b x hx
  refine⟨x',k,⟨hx',by rw[hm',hm]⟩,?_⟩
  rcases hd with hd | ⟨hd,hβ,hs,hl⟩
  ·exact .inl hd
  ·rcases hr with hr | ⟨hn,hr,hv⟩
   ·simp[hd] at hr
   ·exact .inr ⟨(Ey hm' hs).trans hn,by rw[hβ.1 hn];exact hr,by rw[hs];exact hv⟩
 | .nd b q,v,hr=>by
  rw[Rep] at hr ⊢
  obtain⟨h0,x,⟨hx,hm⟩,hr⟩:=hr
  obtain⟨x',⟨hx',hm'⟩,hd⟩:=E.blk b x hx
  refine⟨h0,x',⟨hx',by rw[hm',hm]⟩,?_⟩
  rcases hd with hd | ⟨hd,hβ,hs,hl⟩
  ·exact .inl hd
  ·rcases hr with hr | hr
   ·simp[hd] at hr
   ·exact .inr (NRep.to hβ (Ey hm' hs) hs hr)
 | .pagg c org,v,hr=>by
  rw[Rep] at hr ⊢
  obtain⟨cs,h1,h2,h3⟩:=hr
  exact⟨cs,h1,h2,RepCs.keep (E.jsub org) (E.keep org) (fun _=>rfl) h3⟩
 | .agg c,v,hr=>by
  rw[Rep] at hr ⊢
  obtain⟨cs,h1,h2⟩:=hr
  exact⟨cs,h1,Reps.ext E (c:=c) h2⟩
 | .tup c,v,hr=>by
  rw[Rep] at hr ⊢
  obtain⟨cs,h1,h2⟩:=hr
  exact⟨cs,h1,Reps.ext E (c:=c) h2⟩
 | .fn f c,v,hr=>by
  rw[Rep] at hr ⊢
  obtain⟨cs,h1,h2⟩:=hr
  exact⟨cs,h1,Reps.ext E (c:=c) h2⟩
 | .undef,_,_=>by rw[Rep];trivial
 | .imm c n sz t org,v,hr=>by rw[Rep] at hr ⊢;exact RepC.keep (E.jsub org) (E.keep org) hr
 | .iptr c org,v,hr=>by rw[Rep] at hr ⊢;exact RepC.keep (E.jsub org) (E.keep org) hr
 | .int ..,_,hr=>hr
 | .bool _,_,hr=>hr
 | .str _,_,hr=>hr
 | .nsl,_,hr=>hr
 | .nilptr,_,hr=>hr
 | .nilfn,_,hr=>hr
theorem Reps.ext {J J':Bool→Nat→Prop} {β β':Aw} {h h':Ag} {w w':World} (E:Ext J β h w J' β' h' w'):∀ {c:List AV} {cs:List Value},Reps J β h w c cs→Reps J' β' h' w' c cs
 | [],_,hr=>hr
 | x::r,cs,hr=>by
  rw[Reps] at hr ⊢
  obtain⟨u,us,h1,h2,h3⟩:=hr
  exact⟨u,us,h1,Rep.ext E (x:=x) h2,Reps.ext E (c:=r) h3⟩
end
end Gx

namespace Gx
open Go
def rD:List (Nat×List Value):=[]
def qS:List Nat:=[]
end Gx

namespace Gx
open Go
def CellsRep (J:Bool→Nat→Prop) (β:Aw) (h:Ag) (w:World) (x:Blk) (rd:Nat→Option Value):Prop :=
 (x.pure=true→RepCs (J x.taint) w x.cells rd 0) ∧
 (x.pure=false→∀ j c,x.cells[j]?=some c→∃ u,rd j=some u∧Rep J β h w c u∧u.oneCell'=true)
def FrOk (n:Nat) (fr:Nat×Nat):Prop:=fr.1=fr.2∨n≤fr.1
theorem FrOk.at {n:Nat} {fr:Nat×Nat} (h:FrOk n fr) (j:Nat) (hj:j<n):¬ (fr.1≤j∧j<fr.2):=by rcases h with h | h<;>omega
def TyOk (X:Option (Nat×Nat)) (ty:TypeId) (o n:Nat):Prop:=∀ t m,X=some (t,m)→ty=t∧o=0∧(m=0∨n=m∨(1073741824≤m∧n≤m))
def FrTy (X:Option (Nat×Nat)) (ty:TypeId) (o n:Nat) (fr:Nat×Nat):Prop:=FrOk n fr∧TyOk X ty o n
theorem TyOk.none {ty:TypeId} {o n:Nat}:TyOk .none ty o n:=fun _ _ h=>by cases h
theorem FrOk.un {n:Nat} {fr:Nat×Nat} (h:FrOk n fr) {ty:TypeId} {o:Nat}:FrTy .none ty o n fr:=⟨h,TyOk.none⟩
theorem FrTy.un0 {ty:TypeId} {o n a:Nat}:FrTy .none ty o n (a,a):=⟨.inl rfl,TyOk.none⟩
def iM (J:Bool→Nat→Prop) (β:Aw) (h:Ag) (w:World) (b:Nat) (x:Blk):Prop :=
 (β b=none∧x.cells=[])∨∃ k o cs ty fr,β b=some (k,o)∧w.heap[k]?=some (.cells cs ty fr) ∧
  FrTy x.ty ty o cs.size fr∧o+x.cells.length≤cs.size∧CellsRep J β h w x (fun j=>cs[o+j]?) ∧
  (x.sealed=false→∀ g,¬ J g k)∧(x.sealed=true→J x.taint k)
def EY (c:LA) (es:Array MapEntry) (clk:Nat):Prop:=(∃ l:List Int,c=l.map (fun n=>.int .i64 n)∧es.toList.map (fun e=>(e.key,e.val))=l.map (fun n=>(.int .i64 n,.bool true)))∧Go.MapKept.Stamped es clk
def qT (c:LA) (t:Nat) (es:Array MapEntry) (clk:Nat):Prop:=(∃ l:List Int,c=l.map (fun n=>.int .i64 n)∧es.toList.map (·.key)=l.map (fun n=>.int .i64 n))∧(∃ e ∈ es.toList,e.born=t)∧(∀ e ∈ es.toList,e.born≠t→e.val=.bool true)∧Go.MapKept.Stamped es clk
def Terr (β:Aw) (b:Nat) (x:Blk) (j:Nat):Prop:=∃ k o,β b=some (k,o)∧(j=k∨(An x=true∧∃ (i a n c:Nat),(dec o)[i]?=some (some (true,j,a,n,c))))
theorem Terr.at {β:Aw} {b:Nat} {x:Blk} {k o:Nat} (h:β b=some (k,o)):Terr β b x k:=⟨k,o,h,.inl rfl⟩
theorem Terr.un {β:Aw} {b:Nat} {x:Blk} {j:Nat} (h:Terr β b x j) (hn:An x=false):∃ o,β b=some (j,o):=by
 obtain⟨k,o,h1,h2 | ⟨h2,_⟩⟩:=h
 ·exact⟨o,by rw[h2];exact h1⟩
 ·rw[hn] at h2;cases h2
theorem Terr.ord {β:Aw} {b:Nat} {x:Blk} {j:Nat} (h:Terr β b x j) (hm:x.mp=false):∃ o,β b=some (j,o):=h.un (by simp[An,hm])
theorem Terr.to {β β':Aw} {b b':Nat} {x x':Blk} {j:Nat} (h:Terr β b x j) (hβ:β' b'=β b) (hn:An x'=An x):Terr β' b' x' j:=by
 obtain⟨k,o,h1,h2⟩:=h
 exact⟨k,o,by rw[hβ];exact h1,by rw[hn];exact h2⟩
def InnerIs (J:Nat→Prop) (w:World) (s:Nat) (e:bn) (c:AV):Prop:=match e with
 | none=>c=.nsl∨c=.undef
 | some (false,_,_,_,_)=>c=.undef
 | some (true,k,a,n,cap)=>match s with
  | 0=>∃ l es clk,w.heap[k]?=some (.map es clk)∧((a=0∧c=A6 l 0 0∧EY l es clk)∨(∃ t,a=t+1∧c=A6 l 1 0∧qT l t es clk))
  | s+1=>∃ l cs ty fr,c=A6 l n (s+1)∧l.length=n*(s+1)∧n≤cap∧w.heap[k]?=some (.cells cs ty fr)∧FrOk cs.size fr∧a+cap*(s+1)≤cs.size∧RepCs J w l (fun j=>cs[a+j]?) 0
def NestIs (J:Nat→Prop) (w:World) (k o:Nat) (x:Blk):Prop:=x.taint=false∧∃ cs ty fr,w.heap[k]?=some (.cells cs ty fr)∧FrOk cs.size fr∧cs.size=x.cells.length∧(dec o).length=x.cells.length ∧
 (∀ (i:Nat) (e:bn),(dec o)[i]?=some e→∃ c,x.cells[i]?=some c∧cs[i]?=some (P3 (x.sz - 2) e)∧InnerIs J w (x.sz - 2) e c) ∧
 (∀ (i j a n c:Nat),(dec o)[i]?=some (some (true,j,a,n,c))→j≠k∧∀ (i' a' n' c':Nat),(dec o)[i']?=some (some (true,j,a',n',c'))→i'=i)
def ObjIs (x:Blk) (ob:Obj):Prop:=(x.sz=0∧∃ es clk,ob=.map es clk∧EY x.cells es clk)∨(x.sz=1∧∃ s pos,ob=.stringIter ⟨⟨s⟩⟩ pos∧x.cells=[.str s,.int .i64 ((pos:Nat):Int)])
def MapRep (J:Bool→Nat→Prop) (β:Aw) (w:World) (b:Nat) (x:Blk):Prop :=
 x.pure=true∧x.sealed=false∧(∀ j,Terr β b x j→∀ g,¬ J g j)∧((∃ k ob,An x=false∧β b=some (k,0)∧w.heap[k]?=some ob∧ObjIs x ob)∨∃ k o,An x=true∧β b=some (k,o)∧NestIs (J false) w k o x)
theorem ObjIs.row {x:Blk} {ob:Obj} (h:ObjIs x ob) {cs:Array Value} {ty:TypeId} {fr:Nat×Nat}:ob≠.cells cs ty fr:=by
 rcases h with⟨_,es,clk,rfl,_⟩ | ⟨_,s,pos,rfl,_⟩<;>exact fun h=>by cases h
def GlobOk (J:Bool→Nat→Prop) (w:World):Prop:=(∀ p ∈ rD,J false p.1∧∃ ty fr,w.heap[p.1]?=some (.cells p.2.toArray ty fr))∧∀ g ∈ qS,J false g∧∃ m,w.cell? ⟨g,0,none⟩=some (.int .i64 m)
theorem GlobOk.to {J J':Bool→Nat→Prop} {w w':World} (h:GlobOk J w) (hj:∀ k,J false k→J' false k) (hk:M0 (J false) w w'):GlobOk J' w':=⟨fun p hp =>
 ⟨hj _ (h.1 p hp).1,by rw[hk _ (h.1 p hp).1];exact(h.1 p hp).2⟩,fun g hg=>⟨hj _ (h.2 g hg).1,by rw[KL hk (by exact(h.2 g hg).1)];exact(h.2 g hg).2⟩⟩
theorem GlobOk.ext {J J':Bool→Nat→Prop} {β β':Aw} {h h':Ag} {w w':World} (G:GlobOk J w) (E:Ext J β h w J' β' h' w'):GlobOk J' w':=G.to (E.jsub false) (E.keep false)
structure SimH (J:Bool→Nat→Prop) (β:Aw) (h:Ag) (w:World):Prop where
 jlt:∀ o k,J o k→k<w.heap.size
 jft:∀ k,J false k→J true k
 gl:GlobOk J w
 blk:∀ b x,Ac h b=some x→x.dead=false→x.mp=false→iM J β h w b x
 mblk:∀ b x,Ac h b=some x→x.dead=false→x.mp=true→MapRep J β w b x
 sepT:∀ b b' x x' j,Ac h b=some x→Ac h b'=some x'→x.dead=false→x'.dead=false→x.sealed=false→Terr β b x j→Terr β b' x' j→b=b'
theorem SimH.sep {J:Bool→Nat→Prop} {β:Aw} {h:Ag} {w:World} (S:SimH J β h w):∀ b b' x x' k o o',Ac h b=some x→Ac h b'=some x'→x.dead=false→x'.dead=false→x.sealed=false→β b=some (k,o)→β b'=some (k,o')→b=b' :=
 fun b b' x x' k _ _ h1 h2 h3 h4 h5 h6 h7=>S.sepT b b' x x' k h1 h2 h3 h4 h5 (Terr.at h6) (Terr.at h7)
mutual
theorem Ur {J:Bool→Nat→Prop} {β:Aw} {h:Ag} {w:World}:∀ v:Value,Rep J β h w (JV v) v
 | .int ..=>by simp[JV,Rep]
 | .bool _=>by simp[JV,Rep]
 | .string ⟨⟨s⟩⟩=>by simp[JV,Rep]
 | .slice none 0 0=>by simp[JV,Rep]
 | .slice none 0 (_+1)=>by simp[JV,Rep]
 | .slice none (_+1) _=>by simp[JV,Rep]
 | .slice (some _) _ _=>by simp[JV,Rep]
 | .pointer none=>by simp[JV,Rep]
 | .pointer (some _)=>by simp[JV,Rep]
 | .nilFunc=>by simp[JV,Rep]
 | .agg ⟨cs⟩=>by rw[JV,Rep];exact⟨cs,rfl,AY cs⟩
 | .float ..=>by simp[JV,Rep]
 | .complex ..=>by simp[JV,Rep]
 | .map _=>by simp[JV,Rep]
 | .chan _=>by simp[JV,Rep]
 | .func ..=>by simp[JV,Rep]
 | .iface ..=>by simp[JV,Rep]
 | .nilIface=>by simp[JV,Rep]
 | .tuple _=>by simp[JV,Rep]
theorem AY {J:Bool→Nat→Prop} {β:Aw} {h:Ag} {w:World}:∀ cs:List Value,Reps J β h w (Fr cs) cs
 | []=>by simp[Fr,Reps]
 | v::r=>by rw[Fr,Reps];exact⟨v,r,rfl,Ur v,AY r⟩
end
structure SimS (J:Bool→Nat→Prop) (β:Aw) (h:Ag) (w:World) (s:Dy) (t:Array Value):Prop where
 slot:∀ i v,t[i]?=some v→Rep J β h w (Dd s i) v
 out:∀ i,t.size≤i→Dd s i=.undef
theorem Aq {J:Bool→Nat→Prop} {β:Aw} {h:Ag} {w:World} {s:Dy} {a:Act} (H:SimS J β h w s a.tmps) (x:Operand):Rep J β h w (ev s x) (a.eval x):=by
 cases x with
 | tmp t =>
  rw[ev,Act.eval,Array.getD_eq_getD_getElem?]
  cases ht:a.tmps[t]? with
  | some v=>exact H.slot t v ht
  | none =>
   have:a.tmps.size≤t:=by simpa using ht
   rw[H.out t this];simp[Rep]
 | const v=>exact Ur v
 | global g=>simp[ev,Rep]
 | func f =>
  rw[ev]
  cases hf:Nat.blt f 1000000 with
  | false=>simp[Rep]
  | true =>
   have:f<1000000:=by simpa using hf
   simp[Rep,Act.eval,Reps,Nat.mod_eq_of_lt this]
section
variable {R:Type} {r:R} {P:Program} {J:Bool→Nat→Prop} {β:Aw} {h:Ag} {w:World}
theorem dG {t:TypeId} {op:BinOp} {k:IntKind} {a b:Int} {v:AV} (hv:JW op k a b=some v) :
  ∃ vc,(binOp op t (.int k a) (.int k b)).run P w=.ok vc w∧Rep J β h w v vc:=by
 cases op<;>simp[JW] at hv<;>subst hv<;>simp[binOp,Op.intArith,Op.intBits,Op.intCmp,Rep]
theorem iN {op:BinOp} {t:TypeId} {x y:AV} {k:AV→O R} {vx vy:Value} (hh:lS P t op x y k=some r) (hx:Rep J β h w x vx) (hy:Rep J β h w y vy) (ox oy:Operand) :
  ∃ v vc,k v=some r∧(do eqGuard op t ox oy vx vy;binOp op t vx vy:Sem Value).run P w=.ok vc w∧Rep J β h w v vc:=by
 unfold lS at hh
 split at hh
 ·rename_i k1 a k2 b
  rw[Rep] at hx hy;subst hx hy
  have hg:(eqGuard op t ox oy (.int k1 a) (.int k2 b)).run P w=.ok () w:=by
   unfold eqGuard;cases op<;>simp
  split at hh
  ·cases hb:decide (b<0)<;>rw[hb] at hh<;>simp at hh hb
   refine⟨_,_,hh,?_,by rw[Rep]⟩
   simp[hg,binOp,Op.shift];intro hc;omega
  ·cases hb:decide (b<0)<;>rw[hb] at hh<;>simp at hh hb
   refine⟨_,_,hh,?_,by rw[Rep]⟩
   simp[hg,binOp,Op.shift];intro hc;omega
  ·cases hk:Ho k1 k2<;>rw[hk] at hh<;>simp at hh
   have hk':k1=k2:=by simpa[Ho] using hk
   subst hk'
   cases hb:(b==0)<;>rw[hb] at hh<;>simp at hh hb
   refine⟨_,_,hh,?_,by rw[Rep]⟩
   simp[hg,binOp,Op.intDiv,hb]
  ·cases hk:Ho k1 k2<;>rw[hk] at hh<;>simp at hh
   have hk':k1=k2:=by simpa[Ho] using hk
   subst hk'
   cases hb:(b==0)<;>rw[hb] at hh<;>simp at hh hb
   refine⟨_,_,hh,?_,by rw[Rep]⟩
   simp[hg,binOp,Op.intDiv,hb]
  ·cases hk:Ho k1 k2<;>rw[hk] at hh<;>simp at hh
   have hk':k1=k2:=by simpa[Ho] using hk
   subst hk'
   cases hi:JW op k1 a b with
   | none=>rw[hi] at hh;simp at hh
   | some v =>
    rw[hi] at hh
    obtain⟨vc,h1,h2⟩:=dG (P:=P) (J:=J) (β:=β) (h:=h) (w:=w) (t:=t) hi
    exact⟨v,vc,by simpa using hh,by simp[hg,h1],h2⟩
 ·rename_i a b
  rw[Rep] at hx hy;subst hx hy
  split at hh
  ·cases hb:AR P t<;>rw[hb] at hh<;>simp at hh
   have ht:P.underlying t=some .bool:=by unfold AR at hb;split at hb<;>simp_all
   refine⟨_,_,hh,?_,by rw[Rep]⟩
   have he:(Op.equal t (.bool a) (.bool b)).run P w=.ok (a==b) w:=by
    have:∀ d,(Op.equalIn (d+1) t (.bool a) (.bool b)).run P w=.ok (a==b) w:=fun d=>by
     unfold Op.equalIn;simp only[Sem.run_bind,run_underlying ht,Result.andThen_ok,Sem.run_pure]
    exact this 9999
   have hg:∀ op,(eqGuard op t ox oy (.bool a) (.bool b)).run P w=.ok () w:=fun op=>by unfold eqGuard;cases op<;>simp
   simp only[Sem.run_bind,hg,Result.andThen_ok,binOp,he,Sem.run_pure]
  ·cases hb:AR P t<;>rw[hb] at hh<;>simp at hh
   have ht:P.underlying t=some .bool:=by unfold AR at hb;split at hb<;>simp_all
   refine⟨_,_,hh,?_,by rw[Rep]⟩
   have he:(Op.equal t (.bool a) (.bool b)).run P w=.ok (a==b) w:=by
    have:∀ d,(Op.equalIn (d+1) t (.bool a) (.bool b)).run P w=.ok (a==b) w:=fun d=>by
     unfold Op.equalIn;simp only[Sem.run_bind,run_underlying ht,Result.andThen_ok,Sem.run_pure]
    exact this 9999
   have hg:∀ op,(eqGuard op t ox oy (.bool a) (.bool b)).run P w=.ok () w:=fun op=>by unfold eqGuard;cases op<;>simp
   simp only[Sem.run_bind,hg,Result.andThen_ok,binOp,he,Sem.run_pure]
  ·simp at hh
 ·rename_i a b
  rw[Rep] at hx hy;subst hx hy
  have ea:(⟨⟨a⟩⟩:ByteArray).toList=a:=by simp[ByteArray.toList_eq]
  have eb:(⟨⟨b⟩⟩:ByteArray).toList=b:=by simp[ByteArray.toList_eq]
  have hg:∀ op,(eqGuard op t ox oy (.string ⟨⟨a⟩⟩) (.string ⟨⟨b⟩⟩)).run P w=.ok () w:=fun op=>by unfold eqGuard;cases op<;>simp
  split at hh
  ·cases hb:Nat.ble (a.length+b.length) 140737488355328<;>rw[hb] at hh<;>simp at hh hb
   refine⟨_,_,hh,?_,by rw[Rep]⟩
   have hl:¬ (((⟨⟨a⟩⟩:ByteArray).size+(⟨⟨b⟩⟩:ByteArray).size:Nat):Int)>IntKind.i64.max:=by
    show ¬ ((a.length+b.length:Nat):Int)>9223372036854775807
    omega
   have ec:(⟨⟨a⟩⟩:ByteArray)++⟨⟨b⟩⟩=⟨⟨a++b⟩⟩:=by
    apply ByteArray.ext;simp[ByteArray.data_append]
   simp only[Sem.run_bind,hg,Result.andThen_ok,binOp,Op.stringOp,if_neg hl,Sem.run_pure,ec]
  all_goals first
   | (refine⟨_,_,hh,?_,by rw[Rep]⟩;simp only[Sem.run_bind,hg,Result.andThen_ok,binOp,Op.stringOp,Sem.run_pure,ea,eb];done)
   | simp at hh
 ·simp at hh
end
end Gx

namespace Gx
open Go
section
variable {R:Type} {r:R} {P:Program} {J:Bool→Nat→Prop} {β:Aw} {h:Ag} {w:World}
theorem ub {α:Type} {o:Option α} {f:α→O R} (hh:o.bind f=some r):∃ x,o=some x∧f x=some r:=by
 cases o with
 | none=>simp at hh
 | some x=>exact⟨x,rfl,by simpa using hh⟩
theorem uc {b:Bool} {x:O R} (hh:cond b x none=some r):b=true∧x=some r:=by
 cases b<;>simp at hh;exact⟨rfl,hh⟩
theorem iO {b:Bool} {x:O R} (hh:cond b none x=some r):b=false∧x=some r:=by
 cases b<;>simp at hh;exact⟨rfl,hh⟩
theorem lZ {op:UnOp} {x v:AV} {vx:Value} (hh:rt op x=some v) (hx:Rep J β h w x vx) :
  ∃ vc,(Op.unary op vx).run P w=.ok vc w∧Rep J β h w v vc:=by
 unfold rt at hh
 split at hh
 ·rename_i k n
  rw[Rep] at hx;subst hx;simp at hh;subst hh
  refine⟨.int k (k.wrap (-n)),by simp[Op.unary,Op.intArith],?_⟩
  rw[Rep]
 ·rename_i k n
  rw[Rep] at hx;subst hx
  have hh':=hh
  rw[JW] at hh'
  simp only[Option.some.injEq] at hh';subst hh'
  refine⟨_,rfl,?_⟩
  rw[Rep];cases k.signed<;>rfl
 ·rename_i b
  rw[Rep] at hx;subst hx;simp at hh;subst hh
  exact⟨.bool (!b),by simp[Op.unary],by rw[Rep]⟩
 ·simp at hh
def CL (P:Program) (J:Bool→Nat→Prop) (β:Aw) (h:Ag) (w:World) (t:TypeId) (rd:Nat→Option Value) (v:AV):Prop :=
 (∃ d,P.underlying t=some d∧d.isRow=false∧∃ u,rd 0=some u∧Rep J β h w v u) ∨
 (∃ d,P.underlying t=some d∧d.isRow=true∧∃ us:List Value,(P.info? t).map (·.size)=some us.length∧(∀ j u,us[j]?=some u→rd j=some u)∧Rep J β h w v (.agg us.toArray))
theorem RepCs.at {J:Nat→Prop} {c:LA} {rd:Nat→Option Value} (hc:RepCs J w c rd 0) {j:Nat} {x:AV} (hj:c[j]?=some x):∃ u,rd j=some u∧RepC J w x u:=by
 have:=Ay.1 hc j x hj;simpa using this
theorem RepCs.drop {J:Nat→Prop} {c:LA} {rd:Nat→Option Value} (hc:RepCs J w c rd 0) (n:Nat):RepCs J w (c.drop n) (fun j=>rd (n+j)) 0:=by
 rw[Ay] at hc ⊢
 intro j x hj
 rw[List.getElem?_drop] at hj
 simpa using hc (n+j) x hj
theorem RepCs.take {J:Nat→Prop} {c:LA} {rd:Nat→Option Value} (hc:RepCs J w c rd 0) (n:Nat):RepCs J w (c.take n) rd 0:=by
 rw[Ay] at hc ⊢
 intro j x hj
 rw[List.getElem?_take] at hj
 split at hj
 ·exact hc j x hj
 ·simp at hj
theorem RepCs.list {J:Nat→Prop} {c:LA} {rd:Nat→Option Value} (hc:RepCs J w c rd 0) :
  ∃ us:List Value,us.length=c.length∧(∀ j u,us[j]?=some u→rd j=some u)∧RepCs J w c (fun j=>us[j]?) 0:=by
 refine⟨c.zipIdx.map fun p=>(rd p.2).getD undef,by simp,fun j u hj=>?_,?_⟩
 ·rw[List.getElem?_map,List.getElem?_zipIdx] at hj
  cases hx:c[j]? with
  | none=>rw[hx] at hj;simp at hj
  | some x =>
   rw[hx] at hj
   obtain⟨u',hu,_⟩:=hc.at hx
   simp[hu] at hj
   rw[hu,hj]
 ·rw[Ay]
  intro j x hj
  obtain⟨u,hu,hr⟩:=hc.at hj
  refine⟨u,?_,hr⟩
  simp[hj,hu]
theorem MI {J1 J2:Nat→Prop}:∀ {c:LA} {rd:Nat→Option Value} {i:Nat},Cf c=true→RepCs J1 w c rd i→RepCs J2 w c rd i
 | [],_,_,_,_=>trivial
 | x::r,rd,i,hp,hc=>by
  rw[RepCs] at hc ⊢
  obtain⟨⟨u,h1,h2⟩,h3⟩:=hc
  have hr:Cf r=true:=by unfold Cf at hp;split at hp<;>simp_all
  refine⟨⟨u,h1,?_⟩,MI hr h3⟩
  unfold Cf at hp
  split at hp<;>simp_all[RepC]
theorem CM {t:TypeId} {c:LA} {org:Bool} {k:Bool→O R} {rd:Nat→Option Value} {i:Nat} (hh:Lb P t c org k=some r) (hc:RepCs (J org) w c rd i):∃ o,k o=some r∧RepCs (J o) w c rd i:=by
 unfold Lb at hh
 cases hp:eW P t with
 | true=>rw[hp] at hh;exact⟨org,hh,hc⟩
 | false =>
  rw[hp,cond_false] at hh
  obtain⟨h1,h2⟩:=uc hh
  refine⟨false,h2,?_⟩
  cases org with
  | false=>exact hc
  | true=>exact MI (by simpa using h1) hc
theorem Iv {t:TypeId} {c:LA} {org:Bool} {k:AV→O R} {rd:Nat→Option Value} (hh:V4 P t c org k=some r) (hc:RepCs (J org) w c rd 0) :
  ∃ v,k v=some r∧CL P J β h w t rd v:=by
 unfold V4 at hh
 have agg:∀ {d:TypeDesc},P.underlying t=some d→d.isRow=true→((Az P t).bind fun n=>cond (Nat.ble n c.length) (Lb P t (c.take n) org fun o=>k (.pagg (c.take n) o)) none)=some r →
   ∃ v,k v=some r∧CL P J β h w t rd v:=by
  intro d hu hd hh
  obtain⟨n,hn,hh⟩:=ub hh
  obtain⟨hle,hh⟩:=uc hh
  have hle':n≤c.length:=by simpa using hle
  obtain⟨us,h1,h2,h3⟩:=(hc.take n).list
  have hl:us.length=n:=by rw[h1];simp;omega
  obtain⟨o,hh,h4⟩:=CM hh h3
  refine⟨_,hh,.inr ⟨d,hu,hd,us,?_,h2,?_⟩⟩
  ·rw[hl];exact hn
  ·rw[Rep];exact⟨us,rfl,by rw[h1],h4⟩
 split at hh
 ·rename_i kd hu
  obtain⟨x,hx,hh⟩:=ub hh
  obtain⟨n,hn,hh⟩:=ub hh
  obtain⟨u,h1,h2⟩:=hc.at (by rw[←List.head?_eq_getElem?];exact hx)
  refine⟨_,hh,.inl ⟨_,hu,rfl,u,h1,?_⟩⟩
  unfold asInt at hn
  split at hn
  ·obtain⟨hk,hn'⟩:=uc hn
   simp[Ho] at hk hn';subst hk;subst hn'
   rw[RepC] at h2;rw[Rep];exact h2
  ·simp at hn
 ·rename_i hu
  obtain⟨x,hx,hh⟩:=ub hh
  obtain⟨n,hn,hh⟩:=ub hh
  obtain⟨u,h1,h2⟩:=hc.at (by rw[←List.head?_eq_getElem?];exact hx)
  refine⟨_,hh,.inl ⟨_,hu,rfl,u,h1,?_⟩⟩
  unfold asBool at hn
  split at hn
  ·simp at hn;subst hn
   rw[RepC] at h2;rw[Rep];exact h2
  ·simp at hn
 ·rename_i hu
  obtain⟨x,hx,hh⟩:=ub hh
  obtain⟨n,hn,hh⟩:=ub hh
  obtain⟨u,h1,h2⟩:=hc.at (by rw[←List.head?_eq_getElem?];exact hx)
  refine⟨_,hh,.inl ⟨_,hu,rfl,u,h1,?_⟩⟩
  unfold bY at hn
  split at hn
  ·simp at hn;subst hn
   rw[RepC] at h2;rw[Rep];exact h2
  ·simp at hn
 ·rename_i e hu
  obtain⟨sz,hsz,hh⟩:=ub hh
  obtain⟨x,hx,hh⟩:=ub hh
  obtain⟨p,hp,hh⟩:=ub hh
  obtain⟨u,h1,h2⟩:=hc.at (by rw[←List.head?_eq_getElem?];exact hx)
  refine⟨_,hh,.inl ⟨_,hu,rfl,u,h1,?_⟩⟩
  unfold Je at hp
  rw[Rep,RepC]
  split at hp
  ·obtain⟨hk,hp'⟩:=uc hp
   simp at hk hp';subst hk;subst hp'
   rw[RepC] at h2
   obtain⟨h3,A,cap,h4,h5,h6,h7⟩:=h2
   exact⟨h3,A,cap,h4,h5,by simp,h7⟩
  ·simp at hp;subst hp
   rw[RepC] at h2
   exact⟨by simp,none,0,h2,by simp,by simp,.inl rfl⟩
  ·simp at hp
 ·rename_i hu;exact agg hu rfl hh
 ·rename_i hu;exact agg hu rfl hh
 ·simp at hh
theorem A7:∀ {c:LA} {cs:List Value},Reps J β h w c cs↔cs.length=c.length∧∀ (j:Nat) (x:AV) (u:Value),c[j]?=some x→cs[j]?=some u→Rep J β h w x u
 | [],cs=>by rw[Reps];simp
 | x::r,cs=>by
  rw[Reps]
  constructor
  ·rintro⟨u,us,rfl,h2,h3⟩
   rw[A7] at h3
   refine⟨by simp[h3.1],fun j y v hy hv=>?_⟩
   cases j with
   | zero=>simp at hy hv;subst hy hv;exact h2
   | succ j=>exact h3.2 j y v (by simpa using hy) (by simpa using hv)
  ·rintro⟨h1,h2⟩
   cases cs with
   | nil=>simp at h1
   | cons u us =>
    refine⟨u,us,rfl,h2 0 x u (by simp) (by simp),?_⟩
    rw[A7]
    exact⟨by simpa using h1,fun j y v hy hv=>h2 (j+1) y v (by simpa using hy) (by simpa using hv)⟩
theorem X4 {t:TypeId} {c:LA} {k:AV→O R} {rd:Nat→Option Value} (hh:MD P t c k=some r)
  (hc:∀ j x,c[j]?=some x→∃ u,rd j=some u∧Rep J β h w x u) :
  ∃ v,k v=some r∧CL P J β h w t rd v:=by
 unfold MD at hh
 have agg:∀ {d:TypeDesc},P.underlying t=some d→d.isRow=true→((Az P t).bind fun n=>cond (Nat.ble n c.length) (k (.agg (c.take n))) none)=some r →
   ∃ v,k v=some r∧CL P J β h w t rd v:=by
  intro d hu hd hh
  obtain⟨n,hn,hh⟩:=ub hh
  obtain⟨hle,hh⟩:=uc hh
  have hle':n≤c.length:=by simpa using hle
  refine⟨_,hh,.inr ⟨d,hu,hd,(c.take n).zipIdx.map fun p=>(rd p.2).getD undef,?_,fun j u hj=>?_,?_⟩⟩
  ·simp;rw[Nat.min_eq_left hle'];exact Option.map_eq_some_iff.1 hn
  ·rw[List.getElem?_map,List.getElem?_zipIdx] at hj
   cases hx:(c.take n)[j]? with
   | none=>rw[hx] at hj;simp at hj
   | some x =>
    rw[hx] at hj
    rw[List.getElem?_take] at hx
    split at hx
    ·obtain⟨u',hu',_⟩:=hc j x hx
     simp[hu'] at hj
     rw[hu',hj]
    ·simp at hx
  ·rw[Rep]
   refine⟨_,rfl,A7.2 ⟨by simp,fun j x u hx hu=>?_⟩⟩
   simp[hx] at hu
   rw[List.getElem?_take] at hx
   split at hx
   ·obtain⟨u',hu',hr⟩:=hc j x hx
    simp[hu'] at hu;subst hu;exact hr
   ·simp at hx
 split at hh
 ·rename_i hu;exact agg hu rfl hh
 ·rename_i hu;exact agg hu rfl hh
 ·rename_i d _ _ hu
  obtain⟨x,hx,hh⟩:=ub hh
  obtain⟨u,h1,h2⟩:=hc 0 x (by rw[←List.head?_eq_getElem?];exact hx)
  refine⟨x,hh,.inl ⟨d,hu,?_,u,h1,h2⟩⟩
  cases d<;>simp_all
 ·simp at hh
theorem bo {n:Nat} {k:AV→O R}:∀ {c:LA} {i:Nat},Ui n k c i=some r→i≤n∧∃ x,c[n - i]?=some x∧k x=some r
 | [],i,hh=>by simp[Ui] at hh
 | v::c,i,hh=>by
  rw[Ui] at hh
  cases hb:Nat.beq n i with
  | true =>
   rw[hb] at hh
   have:n=i:=Nat.eq_of_beq_eq_true hb
   subst this
   exact⟨Nat.le_refl _,v,by simp,hh⟩
  | false =>
   rw[hb] at hh
   obtain⟨h1,x,h2,h3⟩:=bo (c:=c) hh
   refine⟨by omega,x,?_,h3⟩
   rw[show n - i=(n - (i+1))+1 by omega];simpa using h2
theorem GI {t:TypeId} {c:LA} {off:Nat} {k:AV→O R} (hh:Xv P t c off k=some r):MD P t (c.drop off) k=some r:=by
 unfold Xv at hh
 unfold MD
 split at hh
 ·exact hh
 ·exact hh
 ·rename_i d h1 h2 hu
  obtain⟨_,x,h3,h4⟩:=bo hh
  have h5:(c.drop off).head?=some x:=by rw[List.head?_eq_getElem?,List.getElem?_drop];simpa using h3
  rw[h5];exact h4
 ·simp at hh
theorem AZ {t:TypeId} {d:TypeDesc} (hu:P.underlying t=some d):(isAgg t).run P w=.ok d.isRow w:=by
 unfold isAgg
 rw[Sem.run_bind,run_underlying hu w]
 cases d<;>simp
theorem Ld {t:TypeId} {a:Addr} {v:AV} (hr:CL P J β h w t (fun j=>w.cell? (a.add j)) v):∃ vc,(loadVar t a).run P w=.ok vc w∧Rep J β h w v vc:=by
 rcases hr with⟨d,hu,hd,u,h1,h2⟩ | ⟨d,hu,hd,us,h1,h2,h3⟩
 ·refine⟨u,?_,h2⟩
  have h1':w.cell? a=some u:=by simpa[Addr.add] using h1
  simp[loadVar,AZ hu,hd,h1']
 ·refine⟨_,?_,h3⟩
  have hl:=run_loadCells_list (P:=P) w a us h2
  cases hq:P.info? t with
  | none=>simp[hq] at h1
  | some i =>
   have hs:i.size=us.length:=by simpa[hq] using h1
   simp[loadVar,Sem.run_bind,AZ hu,hd,Go.sizeOf,typeInfo,hq,hs,hl]
theorem Le {t:TypeId} {cs:List Value} {off:Nat} {v:AV} (hr:CL P J β h w t (fun j=>cs[off+j]?) v):∃ vc,(part t ⟨cs⟩ off).run P w=.ok vc w∧Rep J β h w v vc:=by
 rcases hr with⟨d,hu,hd,u,h1,h2⟩ | ⟨d,hu,hd,us,h1,h2,h3⟩
 ·refine⟨u,?_,h2⟩
  simp at h1
  simp[part,AZ hu,hd,h1]
 ·refine⟨_,?_,h3⟩
  cases hq:P.info? t with
  | none=>simp[hq] at h1
  | some i =>
   have hs:i.size=us.length:=by simpa[hq] using h1
   have:(⟨cs⟩:Array Value).extract off (off+us.length)=us.toArray:=by
    apply Array.ext'
    simp
    apply List.ext_getElem?
    intro j
    rw[List.getElem?_take,List.getElem?_drop]
    split
    ·rename_i hj
     rw[List.getElem?_eq_getElem hj]
     exact h2 j _ (List.getElem?_eq_getElem hj)
    ·rename_i hj
     rw[List.getElem?_eq_none (by omega)]
   simp only[part,Sem.run_bind,AZ hu,hd,Go.sizeOf,typeInfo,run_program,Result.andThen_ok,hq,Sem.run_pure,hs,if_true,this]
end
end Gx

namespace Gx
open Go
section
variable {R:Type} {r:R} {P:Program} {J:Bool→Nat→Prop} {β:Aw} {h:Ag} {w:World} {g:Ar}
theorem D1 {k:Nat} {cs:Array Value} {ty:TypeId} {fr:Nat×Nat} (hk:w.heap[k]?=some (.cells cs ty fr)) (i:Nat):w.cell? ⟨k,i,none⟩=cs[i]?:=by
 simp[World.cell?,hk]
def Looks (g:Ar) (h:Ag):Prop:=∀ b x,g b=some x→Ac h b=some x
theorem A1 {b:Nat} {x:Blk} (hl:Looks g h) (hv:B9 g b=some x):Ac h b=some x∧x.dead=false:=by
 unfold B9 at hv
 obtain⟨y,hy,hv⟩:=ub hv
 obtain⟨hd,hv⟩:=iO hv
 simp at hv;subst hv
 exact⟨hl b _ hy,hd⟩
theorem dH {b off:Nat} {x:Blk} {v:Value} (S:SimH J β h w) (hb:Ac h b=some x) (hd:x.dead=false) (hr:Rep J β h w (.optr b off) v) :
  ∃ k o cs ty fr,β b=some (k,o)∧v=.pointer (some ⟨k,o+off,none⟩)∧w.heap[k]?=some (.cells cs ty fr) ∧
  FrTy x.ty ty o cs.size fr∧o+x.cells.length≤cs.size∧CellsRep J β h w x (fun j=>cs[o+j]?) ∧
  (x.sealed=false→∀ g,¬ J g k)∧(x.sealed=true→J x.taint k):=by
 rw[Rep] at hr
 obtain⟨y,k,o,⟨hy,hm⟩,hv,hr⟩:=hr
 rw[hb] at hy;simp at hy;subst hy
 rcases hr with hr | hβ
 ·simp[hd] at hr
 ·rcases S.blk b x hb hd hm with⟨hn,_⟩ | ⟨k',o',cs,ty,fr,hβ',h1,h2,h3,h4,h5,h6⟩
  ·rw[hβ] at hn;simp at hn
  ·rw[hβ] at hβ';simp at hβ';obtain⟨rfl,rfl⟩:=hβ'
   exact⟨k,o,cs,ty,fr,hβ,hv,h1,h2,h3,h4,h5,h6⟩
theorem CellsRep.reads {t:TypeId} {x:Blk} {cs:Array Value} {o off:Nat} {k:AV→O R} (hc:CellsRep J β h w x (fun j=>cs[o+j]?))
  (hh:cond x.pure (V4 P t (x.cells.drop off) x.taint k) (Xv P t x.cells off k)=some r) :
  ∃ v,k v=some r∧CL P J β h w t (fun j=>cs[o+off+j]?) v:=by
 cases hp:x.pure with
 | true =>
  rw[hp] at hh
  have:=(hc.1 hp).drop off
  obtain⟨v,h1,h2⟩:=Iv (β:=β) (h:=h) hh this
  exact⟨v,h1,by simpa[Nat.add_assoc] using h2⟩
 | false =>
  rw[hp] at hh
  obtain⟨v,h1,h2⟩:=X4 (J:=J) (β:=β) (h:=h) (w:=w) (rd:=fun j=>cs[o+(off+j)]?) (GI hh) (fun j y hj=>by
   rw[List.getElem?_drop] at hj
   obtain⟨u,hu,hr,_⟩:=hc.2 hp _ _ hj
   exact⟨u,hu,hr⟩)
  exact⟨v,h1,by simpa[Nat.add_assoc] using h2⟩
theorem Ji {b:Nat} {x:Blk} (S:SimH J β h w) (hb:Ac h b=some x) (hd:x.dead=false) (hn:An x=true) :
  ∃ k o,β b=some (k,o)∧NestIs (J false) w k o x∧x.pure=true∧x.sealed=false∧x.mp=true∧(∀ j,Terr β b x j→∀ g,¬ J g j):=by
 have hm:x.mp=true:=by unfold An at hn;simp at hn;exact hn.1
 obtain⟨h1,h2,h3,h4⟩:=S.mblk b x hb hd hm
 rcases h4 with⟨k,ob,h5,_⟩ | ⟨k,o,_,h5,h6⟩
 ·rw[hn] at h5;cases h5
 ·exact⟨k,o,h5,h6,h1,h2,hm,h3⟩
theorem MJ {b:Nat} {q:NV} {x:Blk} {v:Value} (hb:Ac h b=some x) (hd:x.dead=false) (hr:Rep J β h w (.nd b q) v):iL q v∧NRep x (β b) q v:=by
 rw[Rep] at hr
 obtain⟨h1,y,⟨hy,_⟩,h2⟩:=hr
 rw[hb] at hy;simp at hy;subst hy
 rcases h2 with h2 | h2
 ·rw[hd] at h2;cases h2
 ·exact⟨h1,h2⟩
theorem Us {s i:Nat} {c:LA} {k:LA→Nat→O R} (hh:Ht s c i k=some r):∃ y p,c[i]?=some y∧Je s y=some p∧k p.1 p.2=some r:=by
 unfold Ht at hh
 obtain⟨y,h1,h2⟩:=ub hh
 obtain⟨p,h3,h4⟩:=ub h2
 exact⟨y,p,by rw[List.head?_drop] at h1;exact h1,h3,h4⟩
theorem Sp {J:Nat→Prop} {s:Nat} {e:bn} {c:AV} {p:LA×Nat} (hs:1≤s) (hI:InnerIs J w s e c) (hp:Je s c=some p) :
  (e=none∧c=.nsl∧p=([],0))∨∃ k a cap cs ty fr,e=some (true,k,a,p.2,cap)∧c=A6 p.1 p.2 s∧p.1.length=p.2*s∧p.2≤cap∧w.heap[k]?=some (.cells cs ty fr)∧FrOk cs.size fr∧a+cap*s≤cs.size∧RepCs J w p.1 (fun j=>cs[a+j]?) 0:=by
 obtain⟨s,rfl⟩:∃ m,s=m+1:=⟨s - 1,by omega⟩
 match e,hI with
 | none,hI =>
  rcases hI with rfl | rfl
  ·simp[Je] at hp;exact .inl ⟨rfl,rfl,hp.symm⟩
  ·simp[Je] at hp
 | some (false,_,_,_,_),hI=>simp[InnerIs] at hI;subst hI;simp[Je] at hp
 | some (true,k,a,n,cap),hI =>
  obtain⟨l,cs,ty,fr,h1,h2,h3,h4,h5,h6,h7⟩:=hI
  subst h1
  simp[Je,A6] at hp
  subst hp
  exact .inr ⟨k,a,cap,cs,ty,fr,rfl,rfl,h2,h3,h4,h5,h6,h7⟩
theorem eg {t:TypeId} {b:Nat} {q:NV} {x:Blk} {vp:Value} {k:AV→O R} (S:SimH J β h w) (hb:Ac h b=some x) (hd:x.dead=false) (hn:An x=true) (hh:Xw P t b x q k=some r) (hp:Rep J β h w (.nd b q) vp) :
  ∃ v vc,k v=some r∧(Instr.loadAt t vp).run P w=.ok vc w∧Rep J β h w v vc:=by
 obtain⟨kk,o,hβ,⟨ht,cs,ty,fr,hk,hfr,hcs,hdl,hall,hsep⟩,_,_,hm,_⟩:=Ji S hb hd hn
 obtain⟨hsh,hnr⟩:=MJ hb hd hp
 cases q with
 | whole n=>simp[Xw] at hh
 | ref i g n s=>simp[Xw] at hh
 | stamp i g p=>simp[Xw] at hh
 | slot i =>
  rw[Xw] at hh
  obtain⟨k',o',h1,_,hi,rfl⟩:=hnr
  rw[hβ] at h1;simp at h1;obtain⟨rfl,rfl⟩:=h1
  obtain⟨hT,hh⟩:=uc hh
  obtain⟨e,he⟩:∃ e,(dec o)[i]?=some e:=⟨_,List.getElem?_eq_getElem (by omega)⟩
  obtain⟨c,hc,hv,hI⟩:=hall i e he
  have fin:∀ n s,x.sz=s+2→iL (.ref i x.gen n s) (P3 s e)→(1≤s→∀ q,e=some q→q.2.2.2.1=n)→k (.nd b (.ref i x.gen n s))=some r→∃ v vc,k v=some r∧(Instr.loadAt t (.pointer (some ⟨kk,i,none⟩))).run P w=.ok vc w∧Rep J β h w v vc:=by
   intro n s hs h1 h2 h3
   have hd':∃ d,P.underlying t=some d∧d.isRow=false:=by
    unfold ma at hT
    split at hT
    ·rename_i hu;exact⟨_,hu,rfl⟩
    ·rename_i hu;exact⟨_,hu,rfl⟩
    ·cases hT
   obtain⟨d,hu,hdr0⟩:=hd'
   have hR:Rep J β h w (.nd b (.ref i x.gen n s)) (P3 s e):=by
    rw[Rep]
    exact⟨h1,x,⟨hb,hm⟩,.inr ⟨Nat.le_refl _,hn,hs,fun _=>⟨kk,o,e,hβ,he,rfl,h2⟩⟩⟩
   have hrd:CL P J β h w t (fun j=>w.cell? ((⟨kk,i,none⟩:Addr).add j)) (.nd b (.ref i x.gen n s)):=.inl ⟨d,hu,hdr0,P3 s e,by
    show w.cell? ((⟨kk,i,none⟩:Addr).add 0)=_
    rw[Addr.add_mid,D1 hk,Nat.add_zero,hv,hs];rfl,hR⟩
   obtain⟨vc,h4,h5⟩:=Ld hrd
   exact⟨_,vc,h3,by simp[Instr.loadAt,Instr.sureAddr,h4],h5⟩
  cases h2:Nat.beq x.sz 2 with
  | true =>
   rw[h2,cond_true] at hh
   exact fin 0 0 (Nat.eq_of_beq_eq_true h2) ⟨fun _=>⟨_,rfl⟩,fun h=>by omega⟩ (fun h=>by omega) hh
  | false =>
   rw[h2,cond_false] at hh
   have hz:3≤x.sz:=by
    have h3:x.sz≠2:=fun e=>by rw[e] at h2;simp at h2
    unfold An at hn;simp at hn;omega
   obtain⟨y,p,h3,h4,h5⟩:=Us hh
   rw[hc] at h3;simp at h3;subst h3
   refine fin p.2 (x.sz - 2) (by omega) ?_ ?_ h5
   ·refine⟨fun h=>by omega,fun _=>?_⟩
    rcases Sp (by omega) hI h4 with⟨rfl,rfl,rfl⟩ | ⟨k,a,cap,cs2,ty2,fr2,rfl,_⟩
    ·obtain⟨m,hm'⟩:∃ m,x.sz - 2=m+1:=⟨x.sz - 3,by omega⟩
     rw[hm'];exact⟨none,0,rfl,.inl rfl⟩
    ·obtain⟨m,hm'⟩:∃ m,x.sz - 2=m+1:=⟨x.sz - 3,by omega⟩
     rw[hm'];exact⟨_,cap,rfl,.inr ⟨k,a,rfl⟩⟩
   ·intro _ q hq
    rcases Sp (by omega) hI h4 with⟨rfl,rfl,rfl⟩ | ⟨k,a,cap,cs2,ty2,fr2,rfl,_⟩
    ·cases hq
    ·simp at hq;subst hq;rfl
 | elt i g off s =>
  rw[Xw] at hh
  obtain⟨hg,hh⟩:=uc hh
  have hg:=Nat.eq_of_beq_eq_true hg
  obtain⟨_,_,⟨hs,hs1⟩,hnr⟩:=hnr
  obtain⟨k',o',w',k2,a,n,c,h1,he,rfl⟩:=hnr hg
  rw[hβ] at h1;simp at h1;obtain⟨rfl,rfl⟩:=h1
  obtain⟨cell,hc,hv,hI⟩:=hall i _ he
  obtain⟨y,p,h3,h4,h5⟩:=Us hh
  rw[hc] at h3;simp at h3;subst h3
  rcases Sp (by omega) hI h4 with⟨h6,_⟩ | ⟨k,a',cap,cs2,ty2,fr2,h6,_,h7,h8,h9,h10,h11,h12⟩
  ·cases h6
  ·simp at h6;obtain⟨rfl,rfl,rfl,rfl,rfl⟩:=h6
   obtain⟨v,g1,g2⟩:=Iv (β:=β) (h:=h) h5 (h12.drop off)
   have g3:CL P J β h w t (fun j=>w.cell? ((⟨k2,a+off,none⟩:Addr).add j)) v:=by
    simpa only[Addr.add_mid,D1 h9,Nat.add_assoc] using g2
   obtain⟨vc,g4,g5⟩:=Ld g3
   exact⟨v,vc,g1,by simp[Instr.loadAt,Instr.sureAddr,g4],g5⟩
theorem MK {t:TypeId} {p:AV} {vp:Value} {k:AV→O R} (S:SimH J β h w) (hl:Looks g h) (hh:SU P g t p k=some r) (hp:Rep J β h w p vp) :
  ∃ v vc,k v=some r∧(Instr.loadAt t vp).run P w=.ok vc w∧Rep J β h w v vc:=by
 unfold SU at hh
 split at hh
 ·rename_i c org
  rw[Rep,RepC] at hp
  obtain⟨a,rfl,_,hc⟩:=hp
  obtain⟨v,h1,h2⟩:=Iv (β:=β) (h:=h) hh hc
  obtain⟨vc,h3,h4⟩:=Ld h2
  exact⟨v,vc,h1,by simp[Instr.loadAt,Instr.sureAddr,h3],h4⟩
 ·rename_i b off
  obtain⟨x,hx,hh⟩:=ub hh
  obtain⟨hb,hd⟩:=A1 hl hx
  obtain⟨kk,o,cs,ty,fr,hβ,rfl,hk,_,_,hc,_⟩:=dH S hb hd hp
  obtain⟨v,h1,h2⟩:=hc.reads hh
  have h2':CL P J β h w t (fun j=>w.cell? ((⟨kk,o+off,none⟩:Addr).add j)) v:=by
   simpa only[Addr.add_mid,D1 hk] using h2
  obtain⟨vc,h3,h4⟩:=Ld h2'
  exact⟨v,vc,h1,by simp[Instr.loadAt,Instr.sureAddr,h3],h4⟩
 ·obtain⟨x,hx,hh⟩:=ub hh
  obtain⟨hn,hh⟩:=uc hh
  obtain⟨hb,hd⟩:=A1 hl hx
  exact eg S hb hd hn hh hp
 ·simp at hh
theorem Bp {t:TypeId} {n:Nat} (hs:Az P t=some n) (w:World):(Go.sizeOf t).run P w=.ok n w:=by
 unfold Az at hs
 cases hq:P.info? t with
 | none=>simp[hq] at hs
 | some i=>simp[hq] at hs;simp[Go.sizeOf,typeInfo,hq,hs]
theorem Fz {i:Int} {n:Nat} (hi:Af i n=true):0≤i∧i<(n:Int):=by simpa[Af] using hi
theorem GJ {J:Nat→Prop} {c:LA} {a:Addr} (hc:RepCs J w c (fun j=>w.cell? (a.add j)) 0) (n:Nat):RepCs J w (c.drop n) (fun j=>w.cell? ((a.add n).add j)) 0:=by
 have e:∀ j,(a.add n).add j=a.add (n+j):=fun j=>by
  unfold Addr.add
  by_cases h1:n=0<;>by_cases h2:j=0<;>simp[h1,h2,Nat.add_assoc]
 simpa[e] using hc.drop n
theorem pA {b off n:Nat} {v:Value} (m:Nat) (hr:Rep J β h w (.own b off n) v) (hn:n≠0) :
  ∃ k o cap,v=.slice (some ⟨k,o,none⟩) n cap∧Rep J β h w (.optr b (off+m)) (.pointer (some ⟨k,o+m,none⟩)):=by
 rw[Rep] at hr
 obtain⟨x,A,cap,hx,rfl,h2,hr⟩:=hr
 rcases hr with hr | ⟨k,o,rfl,hr⟩
 ·omega
 ·refine⟨k,o+off,cap,rfl,?_⟩
  rw[Rep];exact⟨x,k,o,hx,by rw[Nat.add_assoc],hr.imp id (·.1)⟩
theorem Lf {t el:TypeId} {kd:IntKind} {i:Int} {len cap sz:Nat} {a:Addr} (hu:P.underlying t=some (.slice el)) (hs:Az P el=some sz) (hb:Af i len=true) :
  (Instr.indexAt t (.slice (some a) len cap) (.int kd i)).run P w=.ok (.pointer (some (a.add (i.toNat*sz)))) w:=by
 obtain⟨h0,h1⟩:=Fz hb
 simp[Instr.indexAt,asIntOf,run_underlying hu,h0,h1,Bp hs]
theorem CN {t el:TypeId} {kd:IntKind} {i:Int} {len sz:Nat} {a:Addr} (hu:P.underlying t=some (.array len el)) (hs:Az P el=some sz) (hb:Af i len=true) :
  (Instr.indexAt t (.pointer (some a)) (.int kd i)).run P w=.ok (.pointer (some (a.add (i.toNat*sz)))) w:=by
 obtain⟨h0,h1⟩:=Fz hb
 simp[Instr.indexAt,asIntOf,run_underlying hu,h0,h1,Bp hs,Instr.sureAddr]
theorem KN {t:TypeId} {x i:AV} {vx vi:Value} {k:AV→O R} (hh:Kl P t x i k=some r) (hx:Rep J β h w x vx) (hi:Rep J β h w i vi) :
  ∃ v vc,k v=some r∧(Instr.indexAt t vx vi).run P w=.ok vc w∧Rep J β h w v vc:=by
 unfold Kl at hh
 split at hh
 ·rename_i el c len sz tight org kd i hu
  obtain⟨sz',hs,h1⟩:=ub hh
  obtain⟨he,h2⟩:=uc h1
  obtain⟨hb,h3⟩:=uc h2
  have he':sz'=sz:=by simp at he;exact he.symm
  subst he'
  rw[Rep] at hi;subst hi
  rw[Rep,RepC] at hx
  obtain⟨hlen,A,cap,rfl,hcap,_,hA⟩:=hx
  rcases hA with hA | ⟨a,rfl,hj,hc⟩
  ·have:=Fz hb;omega
  refine⟨_,_,h3,Lf hu hs hb,?_⟩
  rw[Rep,RepC]
  exact⟨_,rfl,by rw[Iu];exact hj,GJ hc _⟩
 ·rename_i el b off len kd i hu
  obtain⟨sz,hs,h1⟩:=ub hh
  obtain⟨hb,h3⟩:=uc h1
  rw[Rep] at hi;subst hi
  obtain⟨kk,o,cap,rfl,h4⟩:=pA (i.toNat*sz) hx (by have:=Fz hb;omega)
  exact⟨_,_,h3,Lf hu hs hb,by rw[Addr.add_mid];exact h4⟩
 ·rename_i len el c org kd i hu
  obtain⟨sz,hs,h1⟩:=ub hh
  obtain⟨hb,h3⟩:=uc h1
  rw[Rep] at hi;subst hi
  rw[Rep,RepC] at hx
  obtain⟨a,rfl,hj,hc⟩:=hx
  refine⟨_,_,h3,CN hu hs hb,?_⟩
  rw[Rep,RepC]
  exact⟨_,rfl,by rw[Iu];exact hj,GJ hc _⟩
 ·rename_i len el b off kd i hu
  obtain⟨sz,hs,h1⟩:=ub hh
  obtain⟨hb,h3⟩:=uc h1
  rw[Rep] at hi;subst hi
  rw[Rep] at hx
  obtain⟨y,kk,o,hy,rfl,h4⟩:=hx
  refine⟨_,_,h3,CN hu hs hb,?_⟩
  rw[Rep,Addr.add_mid]
  exact⟨y,kk,o,hy,by rw[Nat.add_assoc],h4⟩
 ·rename_i el b q kd i hu
  obtain⟨sz,hs,h1⟩:=ub hh
  rw[Rep] at hi;subst hi
  rw[Rep] at hx
  obtain⟨hsh,y,⟨hy,hm⟩,h4⟩:=hx
  cases q with
  | slot i=>simp[Uj] at h1
  | elt i g off s=>simp[Uj] at h1
  | stamp i g p=>simp[Uj] at h1
  | whole n =>
   rw[Uj] at h1
   obtain⟨hb,h3⟩:=uc h1
   simp only[Bool.and_eq_true] at hb
   obtain⟨hz,hb⟩:=hb
   have hz:=Nat.eq_of_beq_eq_true hz;subst hz
   obtain⟨k0,rfl⟩:=hsh
   refine⟨_,_,h3,Lf hu hs hb,?_⟩
   rw[Rep,Addr.add_mid,Nat.zero_add,Nat.mul_one]
   refine⟨⟨k0,rfl⟩,y,⟨hy,hm⟩,h4.imp id ?_⟩
   rintro⟨k1,o,g1,g2,g3,g4⟩
   simp at g4;subst g4
   have:=Fz hb
   exact⟨k0,o,g1,g2,by omega,rfl⟩
  | ref j g n s =>
   rw[Uj] at h1
   obtain⟨hb,h3⟩:=uc h1
   simp only[Bool.and_eq_true] at hb
   obtain⟨hz,hb⟩:=hb
   have hz:1≤s:=Nat.le_of_ble_eq_true hz
   obtain⟨A,c,rfl,hA⟩:=hsh.2 hz
   have:=Fz hb
   obtain⟨k0,a,rfl⟩:∃ k a,A=some ⟨k,a,none⟩:=by rcases hA with hA | hA;omega;exact hA
   refine⟨_,_,h3,Lf hu hs hb,?_⟩
   rw[Rep,Addr.add_mid]
   refine⟨⟨k0,a,rfl⟩,y,⟨hy,hm⟩,h4.imp id ?_⟩
   rintro⟨g1,g2,g3,g4⟩
   refine⟨g1,g2,⟨g3,hz⟩,fun e=>?_⟩
   obtain⟨k1,o,en,g5,g6,g7,_⟩:=g4 e
   obtain⟨m,rfl⟩:∃ m,s=m+1:=⟨s - 1,by omega⟩
   match en,g6,g7 with
   | none,g6,g7=>simp[P3] at g7
   | some (w0,k2,a2,n2,c2),g6,g7 =>
    simp[P3] at g7
    obtain⟨⟨rfl,rfl⟩,rfl,rfl⟩:=g7
    exact⟨k1,o,w0,_,_,_,_,g5,g6,rfl⟩
 ·simp at hh
theorem GK {t:TypeId} {f:Nat} {p:Nat×TypeId} (hf:SI P t f=some p):∃ fs fd,P.underlying t=some (.struct fs)∧fs[f]?=some fd∧fd.offset=p.1∧fd.type=p.2:=by
 unfold SI at hf
 split at hf
 ·rename_i fs hu
  cases hq:fs[f]? with
  | none=>simp[hq] at hf
  | some fd=>simp[hq] at hf;subst hf;exact⟨fs,fd,hu,hq,rfl,rfl⟩
 ·simp at hf
theorem KO {t:TypeId} {x:AV} {f:Nat} {vx:Value} {k:AV→O R} (hh:Km P t x f k=some r) (hx:Rep J β h w x vx) :
  ∃ v vc,k v=some r∧(Instr.fieldAt t vx f).run P w=.ok vc w∧Rep J β h w v vc:=by
 unfold Km at hh
 obtain⟨p,hp,h1⟩:=ub hh
 obtain⟨n,hn,h2⟩:=ub h1
 obtain⟨h0,h3⟩:=iO h2
 obtain⟨fs,fd,hu,hf,ho,ht⟩:=GK hp
 have hn0:n≠0:=by intro e;subst e;simp at h0
 have run:∀ a:Addr,(Instr.fieldAt t (.pointer (some a)) f).run P w=.ok (.pointer (some (a.add p.1))) w:=fun a=>by
  simp[Instr.fieldAt,run_underlying hu,hf,Instr.sureAddr,fieldPlace,ht,Bp hn,hn0,ho]
 split at h3
 ·rw[Rep,RepC] at hx
  obtain⟨a,rfl,hj,hc⟩:=hx
  refine⟨_,_,h3,run a,?_⟩
  rw[Rep,RepC]
  exact⟨_,rfl,by rw[Iu];exact hj,GJ hc _⟩
 ·rw[Rep] at hx
  obtain⟨y,kk,o,hy,rfl,h4⟩:=hx
  refine⟨_,_,h3,run _,?_⟩
  rw[Rep,Addr.add_mid]
  exact⟨y,kk,o,hy,by rw[Nat.add_assoc],h4⟩
 ·simp at h3
theorem dI {t:TypeId} {x:AV} {f:Nat} {vx:Value} {k:AV→O R} (hh:JX P t x f k=some r) (hx:Rep J β h w x vx) :
  ∃ v vc,k v=some r∧(Instr.field t vx f).run P w=.ok vc w∧Rep J β h w v vc:=by
 unfold JX at hh
 obtain⟨p,hp,h1⟩:=ub hh
 obtain⟨fs,fd,hu,hf,ho,ht⟩:=GK hp
 split at h1
 ·rename_i c org
  rw[Rep] at hx
  obtain⟨cs,rfl,hl,hc⟩:=hx
  obtain⟨v,h2,h3⟩:=Iv (β:=β) (h:=h) h1 (hc.drop p.1)
  obtain⟨vc,h4,h5⟩:=Le h3
  exact⟨v,vc,h2,by simp[Instr.field,run_underlying hu,hf,asAgg,ht,ho,h4],h5⟩
 ·rename_i c
  rw[Rep] at hx
  obtain⟨cs,rfl,hc⟩:=hx
  rw[A7] at hc
  obtain⟨v,h2,h3⟩:=X4 (J:=J) (β:=β) (h:=h) (w:=w) (rd:=fun j=>cs[p.1+j]?) h1 (fun j y hj=>by
   rw[List.getElem?_drop] at hj
   have:p.1+j<cs.length:=by
    rw[hc.1];exact(List.getElem?_eq_some_iff.1 hj).1
   exact⟨cs[p.1+j],List.getElem?_eq_getElem this,hc.2 _ _ _ hj (List.getElem?_eq_getElem this)⟩)
  obtain⟨vc,h4,h5⟩:=Le h3
  exact⟨v,vc,h2,by simp[Instr.field,run_underlying hu,hf,asAgg,ht,ho,h4],h5⟩
 ·simp at h1
theorem dJ {t:TypeId} {x i:AV} {vx vi:Value} {k:AV→O R} (hh:JY P t x i k=some r) (hx:Rep J β h w x vx) (hi:Rep J β h w i vi) :
  ∃ v vc,k v=some r∧(Instr.index t vx vi).run P w=.ok vc w∧Rep J β h w v vc:=by
 unfold JY at hh
 split at hh
 ·rename_i s kd i hu
  obtain⟨hb,h1⟩:=uc hh
  obtain⟨h0,h2⟩:=Fz hb
  rw[Rep] at hi;rw[Rep] at hx;subst hi hx
  have hlt:i.toNat<s.length:=by omega
  refine⟨_,.int .u8 ((s.getD i.toNat 0).toNat:Int),h1,?_,by rw[Rep]⟩
  have hg:(⟨⟨s⟩⟩:ByteArray)[i.toNat]?=some s[i.toNat]:=by
   have:i.toNat<(⟨⟨s⟩⟩:ByteArray).size:=hlt
   rw[getElem?_pos (⟨⟨s⟩⟩:ByteArray) i.toNat this];rfl
  simp only[Instr.index,asIntOf,Sem.run_bind,Sem.run_pure,Result.andThen_ok,run_underlying hu,h0,if_true,hg,List.getD_eq_getElem?_getD,List.getElem?_eq_getElem hlt,Option.getD_some]
 ·rename_i len el c org kd i hu
  obtain⟨sz,hs,h1⟩:=ub hh
  obtain⟨hb,h2⟩:=uc h1
  obtain⟨h0,h3⟩:=Fz hb
  rw[Rep] at hi;rw[Rep] at hx;subst hi
  obtain⟨cs,rfl,hl,hc⟩:=hx
  obtain⟨v,h4,h5⟩:=Iv (β:=β) (h:=h) h2 (hc.drop (i.toNat*sz))
  obtain⟨vc,h6,h7⟩:=Le h5
  exact⟨v,vc,h4,by simp[Instr.index,asIntOf,run_underlying hu,h0,h3,Bp hs,h6],h7⟩
 ·rename_i len el c kd i hu
  obtain⟨sz,hs,h1⟩:=ub hh
  obtain⟨hb,h2⟩:=uc h1
  obtain⟨h0,h3⟩:=Fz hb
  rw[Rep] at hi;rw[Rep] at hx;subst hi
  obtain⟨cs,rfl,hc⟩:=hx
  rw[A7] at hc
  obtain⟨v,h4,h5⟩:=X4 (J:=J) (β:=β) (h:=h) (w:=w) (rd:=fun j=>cs[i.toNat*sz+j]?) (GI h2) (fun j y hj=>by
   rw[List.getElem?_drop] at hj
   have:i.toNat*sz+j<cs.length:=by
    rw[hc.1];exact(List.getElem?_eq_some_iff.1 hj).1
   exact⟨cs[i.toNat*sz+j],List.getElem?_eq_getElem this,hc.2 _ _ _ hj (List.getElem?_eq_getElem this)⟩)
  obtain⟨vc,h6,h7⟩:=Le h5
  exact⟨v,vc,h4,by simp[Instr.index,asIntOf,run_underlying hu,h0,h3,Bp hs,h6],h7⟩
 ·simp at hh
end
end Gx

namespace Gx
open Go
section
variable {R:Type} {r:R} {P:Program} {J:Bool→Nat→Prop} {β:Aw} {h:Ag} {w:World} {g:Ar}
def Py (J:Bool→Nat→Prop) (β:Aw) (h:Ag) (w:World):Option AV→Option Value→Prop
 | none,none=>True
 | some x,some v=>Rep J β h w x v
 | _,_=>False
theorem X5 {o:Option AV} {vo:Option Value} {d:Nat} {i:Int} (hb:FZ o d=some i) (ho:Py J β h w o vo) :
  (o=none∧vo=none∧i=d)∨∃ k,vo=some (.int k i):=by
 unfold FZ at hb
 split at hb
 ·simp at hb;subst hb
  cases vo with
  | none=>exact .inl ⟨rfl,rfl,rfl⟩
  | some v=>simp[Py] at ho
 ·rename_i k j
  simp at hb;subst hb
  cases vo with
  | none=>simp[Py] at ho
  | some v=>rw[Py,Rep] at ho;subst ho;exact .inr ⟨k,rfl⟩
 ·simp at hb
theorem Lg {lo hi mx:Option AV} {vlo vhi vmx:Option Value} {n cap:Nat} {k:Nat→Nat→O R} {isSlice:Bool} (hh:Nh lo hi mx n k=some r)
  (hlo:Py J β h w lo vlo)
  (hhi:Py J β h w hi vhi)
  (hmx:Py J β h w mx vmx) (hcap:n≤cap) :
  ∃ l hh' m,k l hh'=some r∧l≤hh'∧hh'≤n∧hh'≤m∧m≤cap∧(mx=none→m=cap)∧(∀ kd i,vmx=some (.int kd i)→(m:Int)=i)∧(∀ kd i,vhi=some (.int kd i)→(hh':Int)=i)∧(hi=none→hh'=n) ∧
   (Instr.sliceBounds isSlice n cap vlo vhi vmx).run P w=.ok (l,hh',m) w:=by
 unfold Nh at hh
 obtain⟨l,h1,h2⟩:=ub hh
 obtain⟨hi',h3,h4⟩:=ub h2
 obtain⟨m,h5,h6⟩:=ub h4
 obtain⟨hm,h6⟩:=iO h6
 obtain⟨hc,h7⟩:=uc h6
 simp at hc hm
 obtain⟨c1,c2,c3,c4⟩:=hc
 have run:∀ (kd:IntKind) (i:Int) (y:Nat) (code:BoundsCode),0≤i→i≤(y:Int)→(Instr.sliceBound (.int kd i) y code).run P w=.ok i.toNat w:=fun kd i y code a b=>by
  simp[Instr.sliceBound,asIntOf,a,b]
 have bl:=X5 (J:=J) (β:=β) (h:=h) (w:=w) h1 hlo
 have bh:=X5 (J:=J) (β:=β) (h:=h) (w:=w) h3 hhi
 have bm:=X5 (J:=J) (β:=β) (h:=h) (w:=w) h5 hmx
 rcases bm with⟨rfl,rfl,rfl⟩ | ⟨km,rfl⟩
 ·refine⟨l.toNat,hi'.toNat,cap,h7,by omega,by omega,by omega,by omega,fun _=>rfl,by simp,?_,?_,?_⟩
  ·intro kd i hv
   rcases bh with⟨_,rfl,_⟩ | ⟨kh,rfl⟩
   ·simp at hv
   ·simp at hv;omega
  ·intro hn
   rcases bh with⟨_,_,rfl⟩ | ⟨kh,rfl⟩
   ·simp
   ·subst hn;simp[Py] at hhi
  ·rcases bh with⟨_,rfl,rfl⟩ | ⟨kh,rfl⟩<;>rcases bl with⟨_,rfl,rfl⟩ | ⟨kl,rfl⟩
   ·simp[Instr.sliceBounds]
   ·simp[Instr.sliceBounds,run _ l n _ c1 (by omega)]
   ·simp[Instr.sliceBounds,run _ hi' cap _ (by omega) (by omega)]
   ·simp[Instr.sliceBounds,run _ hi' cap _ (by omega) (by omega),run _ l hi'.toNat _ c1 (by omega)]
 ·rcases bh with⟨rfl,rfl,rfl⟩ | ⟨kh,rfl⟩
  ·have:mx.isSome=true:=by
    cases mx with
    | none=>simp[Py] at hmx
    | some _=>rfl
   have:=hm this;simp at this
  ·refine⟨l.toNat,hi'.toNat,m.toNat,h7,by omega,by omega,by omega,by omega,?_,?_,?_,?_,?_⟩
   ·intro hn;subst hn;simp[Py] at hmx
   ·intro kd i hv;simp at hv;omega
   ·intro kd i hv;simp at hv;omega
   ·intro hn;subst hn;simp[Py] at hhi
   ·rcases bl with⟨_,rfl,rfl⟩ | ⟨kl,rfl⟩
    ·simp[Instr.sliceBounds,run _ m cap _ (by omega) (by omega),run _ hi' m.toNat _ (by omega) (by omega)]
    ·simp[Instr.sliceBounds,run _ m cap _ (by omega) (by omega),run _ hi' m.toNat _ (by omega) (by omega),run _ l hi'.toNat _ c1 (by omega)]
theorem dK {t:TypeId} {x:AV} {lo hi mx:Option AV} {vx:Value} {vlo vhi vmx:Option Value} {k:AV→O R} (hl:Looks g h) (hh:JZ P g t x lo hi mx k=some r)
  (hx:Rep J β h w x vx) (hlo:Py J β h w lo vlo) (hhi:Py J β h w hi vhi) (hmx:Py J β h w mx vmx) :
  ∃ v vc,k v=some r∧(Instr.sliceAt t vx vlo vhi vmx).run P w=.ok vc w∧Rep J β h w v vc:=by
 unfold JZ at hh
 split at hh
 ·rename_i s hu
  obtain⟨hm,h1⟩:=iO hh
  have hmn:mx=none:=by cases mx<;>simp_all
  subst hmn
  have hv:vmx=none:=by cases vmx<;>simp_all[Py]
  subst hv
  rw[Rep] at hx;subst hx
  obtain⟨l,hh',m,h2,h3,h4,_,_,h5,_,_,_,h6⟩:=Lg (P:=P) (isSlice:=false) h1 hlo hhi (vmx:=none) (by simp[Py]) (Nat.le_refl _)
  refine⟨_,_,h2,?_,by rw[Rep]⟩
  have hs:(⟨⟨s⟩⟩:ByteArray).size=s.length:=rfl
  have he:(⟨⟨s⟩⟩:ByteArray).extract l hh'=⟨⟨(s.drop l).take (hh' - l)⟩⟩:=by
   apply ByteArray.ext
   rw[ByteArray.data_extract]
   simp
  simp[Instr.sliceAt,Instr.slice,run_underlying hu,hs,h6,he]
 ·rename_i el hu
  rw[Rep] at hx;subst hx
  obtain⟨sz,hs,hh⟩:=ub hh
  obtain⟨l,hh',m,h2,h3,h4,h5,h6,_,_,_,_,h7⟩:=Lg (P:=P) (isSlice:=true) hh hlo hhi hmx (Nat.le_refl _)
  have:l=0:=by omega
  have:hh'=0:=by omega
  have:m=0:=by omega
  subst l;subst hh';subst m
  refine⟨_,.slice none 0 0,h2,?_,by rw[Rep]⟩
  simp[Instr.sliceAt,Instr.slice,run_underlying hu,h7,Bp hs]
 ·rename_i el c n sz tight org hu
  obtain⟨sz',hs,h1⟩:=ub hh
  obtain⟨he,h2⟩:=uc h1
  have he':sz'=sz:=by simp at he;exact he.symm
  subst he'
  rw[Rep,RepC] at hx
  obtain⟨hlen,A,cap,rfl,hcap,ht,hA⟩:=hx
  obtain⟨l,hh',m,h3,h4,h5,h6,h7,h8,h9,h10,h11,h12⟩:=Lg (P:=P) (isSlice:=true) h2 hlo hhi hmx hcap
  refine⟨_,.slice (if m=l then A else A.map (·.add (l*sz'))) (hh' - l) (m - l),h3,?_,?_⟩
  ·simp[Instr.sliceAt,Instr.slice,run_underlying hu,h12,Bp hs]
  ·rw[Rep,RepC]
   refine⟨?_,_,_,rfl,by omega,?_,?_⟩
   ·simp;rw[hlen,←Nat.sub_mul]
    exact Nat.min_eq_left (Nat.mul_le_mul_right _ (by omega))
   ·intro hti
    unfold kU at hti
    split at hti
    ·have:=ht hti
     have:=h8 rfl
     have:=h11 rfl
     omega
    ·rename_i ka a kb b
     cases vhi with
     | none=>simp[Py] at hhi
     | some u1=>cases vmx with
      | none=>simp[Py] at hmx
      | some u2 =>
       rw[Py,Rep] at hhi hmx;subst hhi hmx
       have e1:=h10 _ _ rfl
       have e2:=h9 _ _ rfl
       simp at hti
       omega
    ·simp at hti
   ·by_cases hz:hh' - l=0
    ·exact .inl hz
    ·right
     rcases hA with hA | ⟨a,rfl,hj,hc⟩
     ·omega
     ·refine⟨a.add (l*sz'),by rw[if_neg (by omega)];rfl,by rw[Iu];exact hj,(GJ hc _).take _⟩
 ·rename_i el b off n hu
  obtain⟨sz,hs,h1⟩:=ub hh
  obtain⟨y,hy,h2⟩:=ub h1
  obtain⟨he,h3⟩:=uc h2
  obtain⟨hb,hd⟩:=A1 hl hy
  have he':sz=y.sz:=by simpa using he
  rw[Rep] at hx
  obtain⟨x,A,cap,⟨hx1,hmp⟩,rfl,hcap,hr⟩:=hx
  rw[hb] at hx1;simp at hx1;subst hx1
  obtain⟨l,hh',m,h4,h5,h6,h7,h8,_,_,_,_,h9⟩:=Lg (P:=P) (isSlice:=true) h3 hlo hhi hmx hcap
  refine⟨_,.slice (if m=l then A else A.map (·.add (l*sz))) (hh' - l) (m - l),h4,?_,?_⟩
  ·simp[Instr.sliceAt,Instr.slice,run_underlying hu,h9,Bp hs]
  ·rw[Rep]
   refine⟨y,_,_,⟨hb,hmp⟩,rfl,by omega,?_⟩
   by_cases hz:m - l=0
   ·exact .inl hz
   ·right
    rcases hr with hr | ⟨kk,o,rfl,hr⟩
    ·omega
    ·refine⟨kk,o,by rw[if_neg (by omega)];simp[Addr.add_mid,Nat.add_assoc],?_⟩
     rcases hr with hr | ⟨r1,r2,r3⟩
     ·simp[hd] at hr
     ·refine .inr ⟨r1,?_,?_⟩
      ·have:l*sz+(m - l)*y.sz≤cap*y.sz:=by
        rw[he',←Nat.add_mul];exact Nat.mul_le_mul_right _ (by omega)
       omega
      ·have:l*sz+(hh' - l)*y.sz≤n*y.sz:=by
        rw[he',←Nat.add_mul];exact Nat.mul_le_mul_right _ (by omega)
       omega
 ·simp at hh
theorem iP {t:TypeId} {x v:AV} {vx:Value} {ty:TypeId} (hh:qO P t x=some v) (hx:Rep J β h w x vx) :
  ∃ vc,(Builtin.len_ #[t] ty #[vx]).run P w=.ok vc w∧Rep J β h w v vc:=by
 unfold qO at hh
 split at hh
 ·rename_i hu
  simp at hh;subst hh;rw[Rep] at hx;subst hx
  exact⟨.int .i64 0,by simp[Builtin.len_,run_underlying hu,goInt],by rw[Rep]⟩
 ·rename_i n _ _ _ hu
  simp at hh;subst hh;rw[Rep,RepC] at hx
  obtain⟨_,A,cap,rfl,_⟩:=hx
  exact⟨.int .i64 n,by simp[Builtin.len_,run_underlying hu,goInt],by rw[Rep]⟩
 ·rename_i n hu
  simp at hh;subst hh;rw[Rep] at hx
  obtain⟨_,A,cap,_,rfl,_⟩:=hx
  exact⟨.int .i64 n,by simp[Builtin.len_,run_underlying hu,goInt],by rw[Rep]⟩
 ·rename_i s hu
  simp at hh;subst hh;rw[Rep] at hx;subst hx
  refine⟨.int .i64 s.length,?_,by rw[Rep]⟩
  have hs:(⟨⟨s⟩⟩:ByteArray).size=s.length:=rfl
  simp[Builtin.len_,run_underlying hu,goInt,hs]
 ·rename_i n _ hu
  simp at hh;subst hh
  exact⟨.int .i64 n,by simp[Builtin.len_,run_underlying hu,goInt],by rw[Rep]⟩
 ·simp at hh
theorem GL {J:Nat→Prop}:∀ {x:AV} {u:Value},RepC J w x u→u.oneCell'=true
 | .int ..,_,hr=>by rw[RepC] at hr;subst hr;rfl
 | .bool _,_,hr=>by rw[RepC] at hr;subst hr;rfl
 | .str _,_,hr=>by rw[RepC] at hr;subst hr;rfl
 | .nsl,_,hr=>by rw[RepC] at hr;subst hr;rfl
 | .imm ..,_,hr=>by rw[RepC] at hr;obtain⟨_,A,cap,rfl,_⟩:=hr;rfl
 | .iptr ..,_,hr=>by rw[RepC] at hr;obtain⟨a,rfl,_⟩:=hr;rfl
 | .nilptr,_,hr=>by rw[RepC] at hr;subst hr;rfl
 | .nilfn,_,hr=>by rw[RepC] at hr;subst hr;rfl
 | .fn _ [],_,hr=>by rw[RepC] at hr;subst hr;rfl
 | .fn _ (_::_),_,hr=>by simp[RepC] at hr
 | .pagg ..,_,hr=>by simp[RepC] at hr
 | .agg _,_,hr=>by simp[RepC] at hr
 | .tup _,_,hr=>by simp[RepC] at hr
 | .own ..,_,hr=>by simp[RepC] at hr
 | .optr ..,_,hr=>by simp[RepC] at hr
 | .undef,_,hr=>by simp[RepC] at hr
 | .omap _,_,hr=>by simp[RepC] at hr
 | .nd ..,_,hr=>by simp[RepC] at hr
theorem RepCs.one {J:Nat→Prop} {c:LA} {us:List Value} (hc:RepCs J w c (fun j=>us[j]?) 0) (hl:us.length=c.length):∀ u ∈ us,u.oneCell'=true:=by
 intro u hu
 obtain⟨j,hj,rfl⟩:=List.getElem_of_mem hu
 have hj':j<c.length:=by omega
 obtain⟨u',hu',hr⟩:=hc.at (List.getElem?_eq_getElem hj')
 simp[List.getElem?_eq_getElem hj] at hu'
 rw[hu'];exact GL hr
structure Yield (P:Program) (w:World) (sz:Nat) (vx:Value) (n:Nat) (us:List Value):Prop where
 len:∀ w':World,(Builtin.lenOf vx).run P w'=.ok n w'
 cells:∀ (w':World) (m:Nat),(∀ a,w'.cell? a=w.cell? a)→m≤n→(Builtin.firstCells sz m vx).run P w'=.ok (us.take (m*sz)).toArray w'
 length:us.length=n*sz
theorem ML {sz:Nat} {x:AV} {vx:Value} {q:LA×Nat×Bool} (S:SimH J β h w) (hl:Looks g h) (hh:V5 g sz x=some q) (hx:Rep J β h w x vx) :
  ∃ us:List Value,Yield P w sz vx q.2.1 us∧q.1.length=us.length∧RepCs (J q.2.2) w q.1 (fun j=>us[j]?) 0:=by
 have ofSlice:∀ (a:Addr) (n cap:Nat) (us:List Value),us.length=n*sz→(∀ j u,us[j]?=some u→w.cell? (a.add j)=some u)→Yield P w sz (.slice (some a) n cap) n us:=fun a n cap us hlen hu =>
  ⟨fun _=>rfl,fun w' m he hm=>by
   have hle:m*sz≤n*sz:=Nat.mul_le_mul_right _ hm
   refine run_firstCells_some (P:=P) w' sz m a n cap (us.take (m*sz)) (by simp;omega) (fun j v hv=>?_)
   rw[he]
   rw[List.getElem?_take] at hv
   split at hv
   ·exact hu j v hv
   ·simp at hv,hlen⟩
 have ofEmpty:∀ (A:Option Addr) (cap:Nat),Yield P w sz (.slice A 0 cap) 0 []:=fun A cap =>
  ⟨fun _=>rfl,fun w' m he hm=>by
   have:m=0:=by omega
   subst this
   cases A with
   | none=>simp[run_firstCells_none]
   | some a=>have:=run_firstCells_some (P:=P) w' sz 0 a 0 cap [] (by simp) (fun j v hv=>by simp at hv);simpa using this,by simp⟩
 unfold V5 at hh
 split at hh
 ·simp at hh;subst hh;rw[Rep] at hx;subst hx
  exact⟨[],ofEmpty _ _,rfl,by simp[RepCs]⟩
 ·rename_i c n sz' tight org
  obtain⟨he,h1⟩:=uc hh
  have he':sz'=sz:=by simp at he;exact he.symm
  subst he'
  simp at h1;subst h1
  rw[Rep,RepC] at hx
  obtain⟨hlen,A,cap,rfl,hcap,ht,hA⟩:=hx
  rcases hA with rfl | ⟨a,rfl,hj,hc⟩
  ·have:c=[]:=by simpa using hlen
   subst this
   exact⟨[],ofEmpty _ _,rfl,by simp[RepCs]⟩
  ·obtain⟨us,h2,h3,h4⟩:=hc.list
   exact⟨us,ofSlice a n cap us (by rw[h2,hlen]) h3,h2.symm,h4⟩
 ·rename_i b off n
  obtain⟨y,hy,h1⟩:=ub hh
  obtain⟨he,h2⟩:=uc h1
  obtain⟨hb,hd⟩:=A1 hl hy
  simp at he h2
  obtain⟨hp,he⟩:=he
  subst h2;subst he
  rw[Rep] at hx
  obtain⟨x,A,cap,⟨hx1,hmp⟩,rfl,hcap,hr⟩:=hx
  rw[hb] at hx1;simp at hx1;subst hx1
  rcases hr with hr | ⟨kk,o,rfl,hr⟩
  ·have:n=0:=by omega
   subst this
   exact⟨[],ofEmpty _ _,by simp,by simp[RepCs]⟩
  ·rcases hr with hr | ⟨r1,r2,r3⟩
   ·simp[hd] at hr
   ·rcases S.blk b y hb hd hmp with⟨hn,_⟩ | ⟨k',o',cs,ty,fr,hβ',g1,g2,g3,g4,g5,g6⟩
    ·rw[r1] at hn;simp at hn
    ·rw[r1] at hβ';simp at hβ';obtain⟨rfl,rfl⟩:=hβ'
     obtain⟨us,h2,h3,h4⟩:=(((g4.1 hp).drop off).take (n*y.sz)).list
     have hlen:us.length=n*y.sz:=by rw[h2];simp;omega
     refine⟨us,ofSlice _ n cap us hlen (fun j u hj=>?_),h2.symm,h4⟩
     have:=h3 j u hj
     rw[Addr.add_mid,D1 g1,Nat.add_assoc];exact this
 ·rename_i s
  obtain⟨he,h1⟩:=uc hh
  simp at he h1
  subst he;subst h1
  rw[Rep] at hx;subst hx
  refine⟨s.map fun b=>.int .u8 (b.toNat:Int),⟨fun _=>rfl,fun w' m _ hm=>?_,by simp⟩,by simp,?_⟩
  ·simp[Builtin.firstCells]
  ·rw[Ay]
   intro j x hj
   simp at hj
   obtain⟨b,hb,rfl⟩:=hj
   exact⟨_,by simp[hb];rfl,by rw[RepC]⟩
 ·simp at hh
theorem Ut {el:TypeId} {sz:Nat} {x:AV} {vx:Value} {k:LA×Nat×Bool→O R} (S:SimH J β h w) (hl:Looks g h) (hh:Uk P el g sz x k=some r) (hx:Rep J β h w x vx) :
  ∃ (q:LA×Nat×Bool) (us:List Value),k q=some r∧Yield P w sz vx q.2.1 us∧q.1.length=us.length∧RepCs (J q.2.2) w q.1 (fun j=>us[j]?) 0:=by
 unfold Uk at hh
 obtain⟨q,hq,h1⟩:=ub hh
 obtain⟨us,Y,hul,hur⟩:=ML (P:=P) S hl hq hx
 obtain⟨o,h2,h3⟩:=CM h1 hur
 exact⟨_,us,h2,Y,hul,h3⟩
end
end Gx

namespace Gx
open Go
theorem Sq {a b:Nat} (h:a≠b):Nat.beq a b=false:=by
 cases hb:Nat.beq a b with
 | false=>rfl
 | true=>exact absurd (Nat.eq_of_beq_eq_true hb) h
theorem Hl {a b:Nat} (h:Nat.beq a b=false):a≠b:=fun e=>by subst e;rw[Nat.beq_refl] at h;cases h
theorem Aa:∀ (h:Ag) (b:Nat) (y:Blk) (c:Nat),Ac (Cb h b y) c=if c=b then some y else Ac h c
 | [],b,y,c=>by
  by_cases e:c=b
  ·subst e;simp[Cb,Ac]
  ·have:Nat.beq b c=false:=Sq (fun e'=>e e'.symm)
   simp[Cb,Ac,e,this]
 | (i,x)::r,b,y,c=>by
  rw[Cb]
  cases h1:Nat.beq i b with
  | true =>
   have h1':i=b:=by simpa using h1
   subst h1'
   by_cases e:c=i
   ·subst e;simp[Ac]
   ·have:Nat.beq i c=false:=Sq (fun e'=>e e'.symm)
    simp[Ac,e,this]
  | false =>
   have h1':i≠b:=Hl h1
   cases h2:Nat.blt b i with
   | true =>
    by_cases e:c=b
    ·subst e;simp[Ac]
    ·have:Nat.beq b c=false:=Sq (fun e'=>e e'.symm)
     simp[Ac,e,this]
   | false =>
    simp only[cond_false]
    rw[Ac]
    cases h3:Nat.beq i c with
    | true =>
     have h3':i=c:=by simpa using h3
     subst h3'
     simp[Ac,h1']
    | false=>simp[Ac,h3,Aa r b y c]
theorem Ha:∀ (h:Dy) (b:Nat) (y:AV) (c:Nat),Dd (EU h b y) c=if c=b then y else Dd h c
 | [],b,y,c=>by
  by_cases e:c=b
  ·subst e;simp[EU,Dd]
  ·have:Nat.beq b c=false:=Sq (fun e'=>e e'.symm)
   simp[EU,Dd,e,this]
 | (i,x)::r,b,y,c=>by
  rw[EU]
  cases h1:Nat.beq i b with
  | true =>
   have h1':i=b:=by simpa using h1
   subst h1'
   by_cases e:c=i
   ·subst e;simp[Dd]
   ·have:Nat.beq i c=false:=Sq (fun e'=>e e'.symm)
    simp[Dd,e,this]
  | false =>
   have h1':i≠b:=Hl h1
   cases h2:Nat.blt b i with
   | true =>
    by_cases e:c=b
    ·subst e;simp[Dd]
    ·have:Nat.beq b c=false:=Sq (fun e'=>e e'.symm)
     simp[Dd,e,this]
   | false =>
    simp only[cond_false]
    rw[Dd]
    cases h3:Nat.beq i c with
    | true =>
     have h3':i=c:=by simpa using h3
     subst h3'
     simp[Dd,h1']
    | false=>simp[Dd,h3,Ha r b y c]
def eV (β:Aw) (h:Ag) (k:Nat):Prop:=∃ b x,Ac h b=some x∧x.dead=false∧x.sealed=false∧Terr β b x k
structure Step (J:Bool→Nat→Prop) (β:Aw) (h:Ag) (w:World) (J':Bool→Nat→Prop) (β':Aw) (h':Ag) (w':World):Prop where
 ext:Ext J β h w J' β' h' w'
 sim:SimH J' β' h' w'
 os:w'.os=w.os
 tape:w'.tape=w.tape
 output:w'.output=w.output
 size:w.heap.size≤w'.heap.size
 frame:∀ k,k<w.heap.size→¬ eV β h k→w'.heap[k]?=w.heap[k]?
 wr:∀ k,eV β' h' k→k<w.heap.size→eV β h k
 jup:∀ o k,J' o k→J o k∨eV β h k∨w.heap.size≤k
section
variable {J J' J'':Bool→Nat→Prop} {β β' β'':Aw} {h h' h'':Ag} {w w' w'':World}
theorem X6 {b:Nat} {x:Blk}:x.dead=true∨(x.dead=false∧SameB β β b x x∧x.sz=x.sz∧(x.mp=false→x.cells.length=x.cells.length)):=by
 cases hd:x.dead
 ·exact .inr ⟨rfl,.of rfl,rfl,fun _=>rfl⟩
 ·exact .inl rfl
theorem Ext.refl:Ext J β h w J β h w:=⟨fun _ _ hj=>hj,fun _ _ _=>rfl,fun b x hb=>⟨x,⟨hb,rfl⟩,X6⟩,fun _ _ _ _=>Nat.le_refl _⟩
theorem Ext.trans (A:Ext J β h w J' β' h' w') (B:Ext J' β' h' w' J'' β'' h'' w'') (hs:∀ (_ k _:Nat),True→Am w k≤Am w'' k):Ext J β h w J'' β'' h'' w'' where
 jsub o k hj:=B.jsub o k (A.jsub o k hj)
 keep o k hj:=(B.keep o k (A.jsub o k hj)).trans (A.keep o k hj)
 blk b x hb:=by
  obtain⟨x',⟨h1,m1⟩,h2⟩:=A.blk b x hb
  obtain⟨x'',⟨h3,m3⟩,h4⟩:=B.blk b x' h1
  refine⟨x'',⟨h3,m3.trans m1⟩,?_⟩
  rcases h4 with h4 | ⟨h4,h5,h6,h7⟩
  ·exact .inl h4
  ·rcases h2 with h2 | ⟨g1,g2,g3,g4⟩
   ·simp[h4] at h2
   ·exact .inr ⟨g1,g2.trans h5 (Ey m1 g3) g3,h6.trans g3,fun hm=>(h7 (m1.trans hm)).trans (g4 hm)⟩
 size:=hs
theorem Step.refl (S:SimH J β h w):Step J β h w J β h w:=⟨Ext.refl,S,rfl,rfl,rfl,Nat.le_refl _,fun _ _ _=>rfl,fun _ hm _=>hm,fun _ _ hj=>.inl hj⟩
theorem Step.trans (A:Step J β h w J' β' h' w') (B:Step J' β' h' w' J'' β'' h'' w'') (hs:∀ (_ k _:Nat),True→Am w k≤Am w'' k):Step J β h w J'' β'' h'' w'' where
 ext:=A.ext.trans B.ext hs
 sim:=B.sim
 os:=B.os.trans A.os
 tape:=B.tape.trans A.tape
 output:=B.output.trans A.output
 size:=Nat.le_trans A.size B.size
 frame k hk hm:=(B.frame k (Nat.lt_of_lt_of_le hk A.size) (fun hm'=>hm (A.wr k hm' hk))).trans (A.frame k hk hm)
 wr k hm hk:=A.wr k (B.wr k hm (Nat.lt_of_lt_of_le hk A.size)) hk
 jup o k hj:=by
  rcases B.jup o k hj with h1 | h1 | h1
  ·exact A.jup o k h1
  ·by_cases hk:k<w.heap.size
   ·exact .inr (.inl (A.wr k h1 hk))
   ·exact .inr (.inr (by omega))
  ·exact .inr (.inr (Nat.le_trans A.size h1))
theorem CellsRep.ext (E:Ext J β h w J' β' h' w') {x:Blk} {rd:Nat→Option Value} (hc:CellsRep J β h w x rd):CellsRep J' β' h' w' x rd :=
 ⟨fun hp=>RepCs.keep (E.jsub _) (E.keep _) (fun _=>rfl) (hc.1 hp),fun hp j c hj=>by
  obtain⟨u,h1,h2,h3⟩:=hc.2 hp j c hj
  exact⟨u,h1,Rep.ext E h2,h3⟩⟩
theorem A0 {k:Nat} {cs:Array Value} {ty:TypeId} {fr:Nat×Nat} (hk:w.heap[k]?=some (.cells cs ty fr)):Am w k=cs.size:=by simp[Am,hk]
theorem Nj {k:Nat} {o:Obj} (hk:w.heap[k]?=some o):k<w.heap.size:=by
 rcases Nat.lt_or_ge k w.heap.size with hlt | hge
 ·exact hlt
 ·rw[Array.getElem?_eq_none hge] at hk;cases hk
theorem InnerIs.keep {J J':Nat→Prop} {s:Nat} {e:bn} {c:AV} (hJ:∀ k,J k→J' k) (hk:M0 J w w') (hw:∀ k a n cap,e=some (true,k,a,n,cap)→w'.heap[k]?=w.heap[k]?) (hI:InnerIs J w s e c):InnerIs J' w' s e c:=by
 match e,hI with
 | none,hI=>exact hI
 | some (false,_,_,_,_),hI=>exact hI
 | some (true,k,a,n,cap),hI =>
  have h0:=hw k a n cap rfl
  cases s with
  | zero =>
   obtain⟨l,es,clk,h2,h3⟩:=hI
   exact⟨l,es,clk,by rw[h0];exact h2,h3⟩
  | succ s =>
   obtain⟨l,cs,ty,fr,h1,h2,h3,h4,h5,h6,h7⟩:=hI
   exact⟨l,cs,ty,fr,h1,h2,h3,by rw[h0];exact h4,h5,h6,RepCs.keep hJ hk (fun _=>rfl) h7⟩
theorem NestIs.keep {J J':Nat→Prop} {k o:Nat} {x:Blk} (hJ:∀ k,J k→J' k) (hk:M0 J w w') (h0:w'.heap[k]?=w.heap[k]?) (hw:∀ (i j a n c:Nat),(dec o)[i]?=some (some (true,j,a,n,c))→w'.heap[j]?=w.heap[j]?) (hN:NestIs J w k o x):NestIs J' w' k o x:=by
 obtain⟨h1,cs,ty,fr,h2,h3,h4,h5,h6,h7⟩:=hN
 refine⟨h1,cs,ty,fr,by rw[h0];exact h2,h3,h4,h5,fun i e he=>?_,h7⟩
 obtain⟨c,g1,g2,g3⟩:=h6 i e he
 exact⟨c,g1,g2,g3.keep hJ hk (fun j a n cap e'=>hw i j a n cap (by rw[he,e']))⟩
theorem MapRep.keep {b:Nat} {x:Blk} (M:MapRep J β w b x) (E:Ext J β h w J' β' h' w') (hβ:β' b=β b) (hw:∀ j,Terr β b x j→w'.heap[j]?=w.heap[j]?) (hj:∀ g j,Terr β b x j→J' g j→J g j):MapRep J' β' w' b x:=by
 obtain⟨h1,h2,h3,h4⟩:=M
 refine⟨h1,h2,fun j ht g hg=>h3 j (ht.to hβ.symm rfl) g (hj g j (ht.to hβ.symm rfl) hg),?_⟩
 rcases h4 with⟨k,ob,h4,h5,h6,h7⟩ | ⟨k,o,h4,h5,h6⟩
 ·exact .inl ⟨k,ob,h4,by rw[hβ];exact h5,by rw[hw k (Terr.at h5)];exact h6,h7⟩
 ·exact .inr ⟨k,o,h4,by rw[hβ];exact h5,h6.keep (E.jsub false) (E.keep false) (hw k (Terr.at h5)) (fun i j a n c he=>hw j ⟨k,o,h5,.inr ⟨h4,i,a,n,c,he⟩⟩)⟩
theorem Step.drew (S:SimH J β h w):Step J β h w J β h w.drew where
 ext:=⟨fun _ _ hj=>hj,fun _ _ _=>rfl,fun b x hb=>⟨x,⟨hb,rfl⟩,X6⟩,fun _ _ _ _=>Nat.le_refl _⟩
 sim:=by
  have E:Ext J β h w J β h w.drew:=⟨fun _ _ hj=>hj,fun _ _ _=>rfl,fun b x hb=>⟨x,⟨hb,rfl⟩,X6⟩,fun _ _ _ _=>Nat.le_refl _⟩
  refine⟨S.jlt,S.jft,S.gl.ext E,fun b x hb hd hm=>?_,fun b x hb hd hm=>(S.mblk b x hb hd hm).keep E rfl (fun _ _=>rfl) (fun _ _ _ hj=>hj),S.sepT⟩
  rcases S.blk b x hb hd hm with h1 | ⟨k,o,cs,ty,fr,h1,h2,h3,h4,h5,h6⟩
  ·exact .inl h1
  ·exact .inr ⟨k,o,cs,ty,fr,h1,h2,h3,h4,h5.ext E,h6⟩
 os:=rfl
 tape:=rfl
 output:=rfl
 size:=Nat.le_refl _
 frame _ _ _:=rfl
 wr _ hm _:=hm
 jup _ _ hj:=.inl hj
theorem A5 (w:World) (o:Obj) {k:Nat} (hk:k<w.heap.size):(w.alloc o).heap[k]?=w.heap[k]?:=by
 show(w.heap.push o)[k]?=_
 rw[Array.getElem?_push,if_neg (by omega)]
theorem H6 (S:SimH J β h w) {b:Nat} {x:Blk} {j:Nat} (hb:Ac h b=some x) (hd:x.dead=false) (ht:Terr β b x j):j<w.heap.size:=by
 cases hm:x.mp with
 | false =>
  obtain⟨o,hβ⟩:=ht.ord hm
  rcases S.blk b x hb hd hm with⟨hn,_⟩ | ⟨k',o',cs,ty,fr,h1,h2,_⟩
  ·rw[hβ] at hn;simp at hn
  ·rw[hβ] at h1;simp at h1;obtain⟨rfl,rfl⟩:=h1;exact Nj h2
 | true =>
  obtain⟨_,_,_,hM⟩:=S.mblk b x hb hd hm
  rcases hM with⟨k,ob,h1,h2,h3,_⟩ | ⟨k,o,h1,h2,h3⟩
  ·obtain⟨o,hβ⟩:=ht.un h1
   rw[hβ] at h2;simp at h2;obtain⟨rfl,_⟩:=h2;exact Nj h3
  ·obtain⟨_,cs,ty,fr,g1,_,_,_,g5,_⟩:=h3
   obtain⟨k',o',e1,e2⟩:=ht
   rw[h2] at e1;simp at e1;obtain⟨rfl,rfl⟩:=e1
   rcases e2 with rfl | ⟨_,i,a,n,c,e2⟩
   ·exact Nj g1
   ·obtain⟨cell,_,_,hI⟩:=g5 i _ e2
    cases hs:x.sz - 2 with
    | zero=>rw[hs] at hI;obtain⟨l,es,clk,h5,_⟩:=hI;exact Nj h5
    | succ s=>rw[hs] at hI;obtain⟨l,cs2,ty2,fr2,_,_,_,h5,_⟩:=hI;exact Nj h5
theorem mr (S:SimH J β h w) {b:Nat} {x:Blk} {k o:Nat} (hb:Ac h b=some x) (hd:x.dead=false) (hβ:β b=some (k,o)):k<w.heap.size:=H6 S hb hd (Terr.at hβ)
theorem Step.new (S:SimH J β h w) {d:Nat} {x:Blk} {cs:Array Value} {ty:TypeId} {fr:Nat×Nat} (hn:Ac h d=none) (hxd:x.dead=false) (hxs:x.sealed=false)
  (hfr:FrTy x.ty ty 0 cs.size fr) (hlen:x.cells.length≤cs.size) (hc:CellsRep J β h w x (fun j=>cs[j]?)) (hxm:x.mp=false:=by rfl) :
  Step J β h w J (fun b=>if b=d then some (w.heap.size,0) else β b) (Cb h d x) (w.alloc (.cells cs ty fr)):=by
 have ne:∀ {b y},Ac h b=some y→b≠d:=fun hb e=>by subst e;rw[hn] at hb;cases hb
 have hxn:An x=false:=by simp[An,hxm]
 have E:Ext J β h w J (fun b=>if b=d then some (w.heap.size,0) else β b) (Cb h d x) (w.alloc (.cells cs ty fr)):=by
  refine⟨fun _ _ hj=>hj,fun o k hj=>A5 w _ (S.jlt o k hj),fun b y hb=>⟨y,⟨by rw[Aa,if_neg (ne hb)];exact hb,rfl⟩,?_⟩,fun b k o hβ=>?_⟩
  ·cases hd:y.dead
   ·exact .inr ⟨rfl,.of (by simp[ne hb]),rfl,fun _=>rfl⟩
   ·exact .inl rfl
  ·by_cases hk:k<w.heap.size
   ·simp[Am,A5 w _ hk]
   ·simp[Am,Array.getElem?_eq_none (Nat.le_of_not_lt hk)]
 have hnew:(w.alloc (.cells cs ty fr)).heap[w.heap.size]?=some (.cells cs ty fr):=by
  show(w.heap.push _)[_]?=_;simp
 have hsz:(w.alloc (.cells cs ty fr)).heap.size=w.heap.size+1:=by show(w.heap.push _).size=_;simp
 refine⟨E,⟨fun o k hj=>by have:=S.jlt o k hj;omega,S.jft,S.gl.ext E,fun b y hb hd hm=>?_,fun b y hb hd hm=>by
   rw[Aa] at hb
   by_cases e:b=d
   ·rw[if_pos e] at hb;simp at hb;subst hb;simp[hxm] at hm
   ·rw[if_neg e] at hb
    exact(S.mblk b y hb hd hm).keep E (by simp[e]) (fun j ht=>A5 w _ (H6 S hb hd ht)) (fun _ _ _ hj=>hj),?_⟩,rfl,rfl,rfl,by omega,fun k hk _=>A5 w _ hk,?_,fun _ _ hj=>.inl hj⟩
 ·rw[Aa] at hb
  by_cases e:b=d
  ·subst e;simp at hb;subst hb
   exact .inr ⟨w.heap.size,0,cs,ty,fr,by simp,hnew,hfr,by omega,by simpa using hc.ext E,fun _ g hj=>by have:=S.jlt g _ hj;omega,fun hs=>by simp[hxs] at hs⟩
  ·rw[if_neg e] at hb
   rcases S.blk b y hb hd hm with h1 | ⟨k,o,cs',ty',fr',h1,h2,h3,h4,h5,h6⟩
   ·exact .inl ⟨by simp[e,h1.1],h1.2⟩
   ·exact .inr ⟨k,o,cs',ty',fr',by simp[e,h1],by rw[A5 w _ (Nj h2)];exact h2,h3,h4,h5.ext E,h6⟩
 ·intro b b' y y' k hb hb' hd hd' hs hβ hβ'
  rw[Aa] at hb hb'
  by_cases e:b=d<;>by_cases e':b'=d
  ·rw[e,e']
  ·rw[if_neg e'] at hb';rw[if_pos e] at hb;simp at hb;subst hb
   obtain⟨o,hβ⟩:=hβ.un hxn
   simp[e] at hβ
   have:=H6 S hb' hd' (hβ'.to (β':=β) (b':=b') (x':=y') (by simp[e']) rfl);omega
  ·rw[if_neg e] at hb;rw[if_pos e'] at hb';simp at hb';subst hb'
   obtain⟨o,hβ'⟩:=hβ'.un hxn
   simp[e'] at hβ'
   have:=H6 S hb hd (hβ.to (β':=β) (b':=b) (x':=y) (by simp[e]) rfl);omega
  ·rw[if_neg e] at hb;rw[if_neg e'] at hb'
   exact S.sepT b b' y y' k hb hb' hd hd' hs (hβ.to (by simp[e]) rfl) (hβ'.to (by simp[e']) rfl)
 ·rintro k ⟨b,y,hb,hd,hs,hβ⟩ hk
  rw[Aa] at hb
  by_cases e:b=d
  ·rw[if_pos e] at hb;simp at hb;subst hb
   obtain⟨o,hβ⟩:=hβ.un hxn
   simp[e] at hβ;omega
  ·rw[if_neg e] at hb
   exact⟨b,y,hb,hd,hs,hβ.to (by simp[e]) rfl⟩
theorem Step.newNone (S:SimH J β h w) {d:Nat} {x:Blk} (hn:Ac h d=none) (hc:x.cells=[]) (hxm:x.mp=false:=by rfl) :
  Step J β h w J (fun b=>if b=d then none else β b) (Cb h d x) w:=by
 have ne:∀ {b y},Ac h b=some y→b≠d:=fun hb e=>by subst e;rw[hn] at hb;cases hb
 have E:Ext J β h w J (fun b=>if b=d then none else β b) (Cb h d x) w:=by
  refine⟨fun _ _ hj=>hj,fun o k hj=>rfl,fun b y hb=>⟨y,⟨by rw[Aa,if_neg (ne hb)];exact hb,rfl⟩,?_⟩,fun b k o hβ=>Nat.le_refl _⟩
  cases hd:y.dead
  ·exact .inr ⟨rfl,.of (by simp[ne hb]),rfl,fun _=>rfl⟩
  ·exact .inl rfl
 refine⟨E,⟨S.jlt,S.jft,S.gl.ext E,fun b y hb hd hm=>?_,fun b y hb hd hm=>by
   rw[Aa] at hb
   by_cases e:b=d
   ·rw[if_pos e] at hb;simp at hb;subst hb;simp[hxm] at hm
   ·rw[if_neg e] at hb
    exact(S.mblk b y hb hd hm).keep E (by simp[e]) (fun _ _=>rfl) (fun _ _ _ hj=>hj),?_⟩,rfl,rfl,rfl,Nat.le_refl _,fun k hk _=>rfl,?_,fun _ _ hj=>.inl hj⟩
 ·rw[Aa] at hb
  by_cases e:b=d
  ·subst e;simp at hb;subst hb
   exact .inl ⟨by simp,hc⟩
  ·rw[if_neg e] at hb
   rcases S.blk b y hb hd hm with h1 | ⟨k,o,cs',ty',fr',h1,h2,h3,h4,h5,h6⟩
   ·exact .inl ⟨by simp[e,h1.1],h1.2⟩
   ·exact .inr ⟨k,o,cs',ty',fr',by simp[e,h1],h2,h3,h4,h5.ext E,h6⟩
 ·intro b b' y y' k hb hb' hd hd' hs hβ hβ'
  rw[Aa] at hb hb'
  by_cases e:b=d
  ·obtain⟨k0,o,hβ,_⟩:=hβ;simp[e] at hβ
  ·by_cases e':b'=d
   ·obtain⟨k0,o,hβ',_⟩:=hβ';simp[e'] at hβ'
   ·rw[if_neg e] at hb;rw[if_neg e'] at hb'
    exact S.sepT b b' y y' k hb hb' hd hd' hs (hβ.to (by simp[e]) rfl) (hβ'.to (by simp[e']) rfl)
 ·rintro k ⟨b,y,hb,hd,hs,hβ⟩ hk
  rw[Aa] at hb
  by_cases e:b=d
  ·obtain⟨k0,o,hβ,_⟩:=hβ;simp[e] at hβ
  ·rw[if_neg e] at hb
   exact⟨b,y,hb,hd,hs,hβ.to (by simp[e]) rfl⟩
theorem Step.newObj (S:SimH J β h w) {d:Nat} {x:Blk} {ob:Obj} (hn:Ac h d=none) (hxd:x.dead=false) (hxs:x.sealed=false) (hxp:x.pure=true) (hxc:ObjIs x ob) (hxm:x.mp=true) (hxn:An x=false) :
  Step J β h w J (fun b=>if b=d then some (w.heap.size,0) else β b) (Cb h d x) (w.alloc ob):=by
 have ne:∀ {b y},Ac h b=some y→b≠d:=fun hb e=>by subst e;rw[hn] at hb;cases hb
 have E:Ext J β h w J (fun b=>if b=d then some (w.heap.size,0) else β b) (Cb h d x) (w.alloc ob):=by
  refine⟨fun _ _ hj=>hj,fun o k hj=>A5 w _ (S.jlt o k hj),fun b y hb=>⟨y,⟨by rw[Aa,if_neg (ne hb)];exact hb,rfl⟩,?_⟩,fun b k o hβ=>?_⟩
  ·cases hd:y.dead
   ·exact .inr ⟨rfl,.of (by simp[ne hb]),rfl,fun _=>rfl⟩
   ·exact .inl rfl
  ·by_cases hk:k<w.heap.size
   ·simp[Am,A5 w _ hk]
   ·simp[Am,Array.getElem?_eq_none (Nat.le_of_not_lt hk)]
 have hnew:(w.alloc ob).heap[w.heap.size]?=some ob:=by
  show(w.heap.push _)[_]?=_;simp
 have hsz:(w.alloc ob).heap.size=w.heap.size+1:=by show(w.heap.push _).size=_;simp
 refine⟨E,⟨fun o k hj=>by have:=S.jlt o k hj;omega,S.jft,S.gl.ext E,fun b y hb hd hm=>?_,fun b y hb hd hm=>?_,?_⟩,rfl,rfl,rfl,by omega,fun k hk _=>A5 w _ hk,?_,fun _ _ hj=>.inl hj⟩
 ·rw[Aa] at hb
  by_cases e:b=d
  ·rw[if_pos e] at hb;simp at hb;subst hb;simp[hxm] at hm
  ·rw[if_neg e] at hb
   rcases S.blk b y hb hd hm with h1 | ⟨k,o,cs',ty',fr',h1,h2,h3,h4,h5,h6⟩
   ·exact .inl ⟨by simp[e,h1.1],h1.2⟩
   ·exact .inr ⟨k,o,cs',ty',fr',by simp[e,h1],by rw[A5 w _ (Nj h2)];exact h2,h3,h4,h5.ext E,h6⟩
 ·rw[Aa] at hb
  by_cases e:b=d
  ·rw[if_pos e] at hb;simp at hb;subst hb
   refine⟨hxp,hxs,fun j ht g hj=>?_,.inl ⟨w.heap.size,ob,hxn,by simp[e],hnew,hxc⟩⟩
   obtain⟨o,hβ⟩:=ht.un hxn
   simp[e] at hβ
   have:=S.jlt g _ hj;omega
  ·rw[if_neg e] at hb
   exact(S.mblk b y hb hd hm).keep E (by simp[e]) (fun j ht=>A5 w _ (H6 S hb hd ht)) (fun _ _ _ hj=>hj)
 ·intro b b' y y' k hb hb' hd hd' hs hβ hβ'
  rw[Aa] at hb hb'
  by_cases e:b=d<;>by_cases e':b'=d
  ·rw[e,e']
  ·rw[if_neg e'] at hb';rw[if_pos e] at hb;simp at hb;subst hb
   obtain⟨o,hβ⟩:=hβ.un hxn
   simp[e] at hβ
   have:=H6 S hb' hd' (hβ'.to (β':=β) (b':=b') (x':=y') (by simp[e']) rfl);omega
  ·rw[if_neg e] at hb;rw[if_pos e'] at hb';simp at hb';subst hb'
   obtain⟨o,hβ'⟩:=hβ'.un hxn
   simp[e'] at hβ'
   have:=H6 S hb hd (hβ.to (β':=β) (b':=b) (x':=y) (by simp[e]) rfl);omega
  ·rw[if_neg e] at hb;rw[if_neg e'] at hb'
   exact S.sepT b b' y y' k hb hb' hd hd' hs (hβ.to (by simp[e]) rfl) (hβ'.to (by simp[e']) rfl)
 ·rintro k ⟨b,y,hb,hd,hs,hβ⟩ hk
  rw[Aa] at hb
  by_cases e:b=d
  ·rw[if_pos e] at hb;simp at hb;subst hb
   obtain⟨o,hβ⟩:=hβ.un hxn
   simp[e] at hβ;omega
  ·rw[if_neg e] at hb
   exact⟨b,y,hb,hd,hs,hβ.to (by simp[e]) rfl⟩
theorem Step.kill (S:SimH J β h w) {d:Nat} {x y:Blk} (hx:Ac h d=some x) (hy:y.dead=true) (hym:y.mp=x.mp:=by rfl):Step J β h w J β (Cb h d y) w:=by
 have E:Ext J β h w J β (Cb h d y) w:=by
  refine⟨fun _ _ hj=>hj,fun o k hj=>rfl,fun b z hb=>?_,fun b k o hβ=>Nat.le_refl _⟩
  by_cases e:b=d
  ·subst e;rw[hx] at hb;simp at hb;subst hb;exact⟨y,⟨by rw[Aa,if_pos rfl],hym⟩,.inl hy⟩
  ·refine⟨z,⟨by rw[Aa,if_neg e];exact hb,rfl⟩,?_⟩
   cases hd:z.dead
   ·exact .inr ⟨rfl,.of rfl,rfl,fun _=>rfl⟩
   ·exact .inl rfl
 refine⟨E,⟨S.jlt,S.jft,S.gl.ext E,fun b z hb hd hm=>?_,fun b z hb hd hm=>by
   rw[Aa] at hb
   by_cases e:b=d
   ·rw[if_pos e] at hb;simp at hb;subst hb;simp[hy] at hd
   ·rw[if_neg e] at hb
    exact(S.mblk b z hb hd hm).keep E rfl (fun _ _=>rfl) (fun _ _ _ hj=>hj),?_⟩,rfl,rfl,rfl,Nat.le_refl _,fun k hk _=>rfl,?_,fun _ _ hj=>.inl hj⟩
 ·rw[Aa] at hb
  by_cases e:b=d
  ·rw[if_pos e] at hb;simp at hb;subst hb;simp[hy] at hd
  ·rw[if_neg e] at hb
   rcases S.blk b z hb hd hm with h1 | ⟨k,o,cs',ty',fr',h1,h2,h3,h4,h5,h6⟩
   ·exact .inl h1
   ·exact .inr ⟨k,o,cs',ty',fr',h1,h2,h3,h4,h5.ext E,h6⟩
 ·intro b b' z z' k hb hb' hd hd' hs hβ hβ'
  rw[Aa] at hb hb'
  by_cases e:b=d
  ·rw[if_pos e] at hb;simp at hb;subst hb;simp[hy] at hd
  ·by_cases e':b'=d
   ·rw[if_pos e'] at hb';simp at hb';subst hb';simp[hy] at hd'
   ·rw[if_neg e] at hb;rw[if_neg e'] at hb'
    exact S.sepT b b' z z' k hb hb' hd hd' hs hβ hβ'
 ·rintro k ⟨b,z,hb,hd,hs,hβ⟩ hk
  rw[Aa] at hb
  by_cases e:b=d
  ·rw[if_pos e] at hb;simp at hb;subst hb;simp[hy] at hd
  ·rw[if_neg e] at hb
   exact⟨b,z,hb,hd,hs,hβ⟩
theorem Step.giveUp (S:SimH J β h w) {d k o:Nat} {x y:Blk} (hx:Ac h d=some x) (hd:x.dead=false) (hs:x.sealed=false) (hβ:β d=some (k,o)) (hxm:x.mp=false) (hy:y.dead=true)
  (other:∀ j,j≠k→w'.heap[j]?=w.heap[j]?) (size:w'.heap.size=w.heap.size) (os:w'.os=w.os) (tape:w'.tape=w.tape) (output:w'.output=w.output) (hsz:Am w k≤Am w' k) (hym:y.mp=x.mp:=by rfl) :
  Step J β h w J β (Cb h d y) w':=by
 have nj:∀ g j,J g j→j≠k:=fun g j hj e=>by
  subst e
  rcases S.blk d x hx hd hxm with⟨h1,_⟩ | ⟨k',o',cs0,ty0,fr0,hβ',h2,h3,h4,h5,h6,h7⟩
  ·rw[hβ] at h1;simp at h1
  ·rw[hβ] at hβ';simp at hβ';obtain⟨rfl,rfl⟩:=hβ'
   exact h6 hs g hj
 have E:Ext J β h w J β (Cb h d y) w':=by
  refine⟨fun _ _ hj=>hj,fun o j hj=>other j (nj o j hj),fun b z hb=>?_,fun b j oo hb=>?_⟩
  ·by_cases e:b=d
   ·subst e;rw[hx] at hb;simp at hb;subst hb;exact⟨y,⟨by rw[Aa,if_pos rfl],hym⟩,.inl hy⟩
   ·refine⟨z,⟨by rw[Aa,if_neg e];exact hb,rfl⟩,?_⟩
    cases hd:z.dead
    ·exact .inr ⟨rfl,.of rfl,rfl,fun _=>rfl⟩
    ·exact .inl rfl
  ·by_cases e:j=k
   ·subst e;exact hsz
   ·simp[Am,other j e]
 have live:∀ {b z},Ac (Cb h d y) b=some z→z.dead=false→b≠d∧Ac h b=some z:=fun {b z} hb hz=>by
  rw[Aa] at hb
  by_cases e:b=d
  ·rw[if_pos e] at hb;simp at hb;subst hb;simp[hy] at hz
  ·rw[if_neg e] at hb;exact⟨e,hb⟩
 have apartT:∀ {b z j},b≠d→Ac h b=some z→z.dead=false→Terr β b z j→j≠k:=fun {b z j} e hb hz hbj ej=>by
  subst ej;exact e (S.sepT d b x z j hx hb hd hz hs (Terr.at hβ) hbj).symm
 have apart:∀ {b z j oo},b≠d→Ac h b=some z→z.dead=false→β b=some (j,oo)→j≠k:=fun e hb hz hbj=>apartT e hb hz (Terr.at hbj)
 refine⟨E,⟨fun g j hj=>by rw[size];exact S.jlt g j hj,S.jft,S.gl.ext E,fun b z hb hz hm=>?_,fun b z hb hz hm=>by
   obtain⟨e,hb⟩:=live hb hz
   exact(S.mblk b z hb hz hm).keep E rfl (fun j hbj=>other j (apartT e hb hz hbj)) (fun _ _ _ hj=>hj),fun b b' z z' j hb hb' hz hz' hs' hbj hbj'=>?_⟩,os,tape,output,by rw[size];exact Nat.le_refl _,fun j hj hm=>other j (fun e=>by subst e;exact hm ⟨d,x,hx,hd,hs,Terr.at hβ⟩),?_,fun _ _ hj=>.inl hj⟩
 ·obtain⟨e,hb⟩:=live hb hz
  rcases S.blk b z hb hz hm with h1 | ⟨j,oo,cs,ty,fr,h1,h2,h3⟩
  ·exact .inl h1
  ·exact .inr ⟨j,oo,cs,ty,fr,h1,by rw[other j (apart e hb hz h1)];exact h2,h3.1,h3.2.1,h3.2.2.1.ext E,h3.2.2.2⟩
 ·exact S.sepT b b' z z' j (live hb hz).2 (live hb' hz').2 hz hz' hs' hbj hbj'
 ·rintro j ⟨b,z,hb,hz,hs',hbj⟩ _
  exact⟨b,z,(live hb hz).2,hz,hs',hbj⟩
end
end Gx

namespace Gx
open Go
section
variable {J J' J'':Bool→Nat→Prop} {β β' β'':Aw} {h h' h'':Ag} {w w' w'':World}
theorem Step.shutB (S:SimH J β h w) {d:Nat} {x:Blk} (hx:Ac h d=some x) (hd:x.dead=false) (hxm:x.mp=false) :
  Step J β h w (fun o k=>J o k∨∃ o',β d=some (k,o')∧(x.taint=true→o=true)) β (Cb h d { x with sealed:=true }) w:=by
 have E:Ext J β h w (fun o k=>J o k∨∃ o',β d=some (k,o')∧(x.taint=true→o=true)) β (Cb h d { x with sealed:=true }) w:=by
  refine⟨fun _ _ hj=>.inl hj,fun o k hj=>rfl,fun b z hb=>?_,fun b k o hβ=>Nat.le_refl _⟩
  by_cases e:b=d
  ·subst e;rw[hx] at hb;simp at hb;subst hb
   exact⟨{ x with sealed:=true },⟨by rw[Aa,if_pos rfl],rfl⟩,.inr ⟨hd,.ord hxm rfl,rfl,fun _=>rfl⟩⟩
  ·refine⟨z,⟨by rw[Aa,if_neg e];exact hb,rfl⟩,?_⟩
   cases hd:z.dead
   ·exact .inr ⟨rfl,.of rfl,rfl,fun _=>rfl⟩
   ·exact .inl rfl
 refine⟨E,⟨?_,?_,S.gl.ext E,fun b z hb hdz hm=>?_,fun b z hb hdz hm=>by
   rw[Aa] at hb
   by_cases e:b=d
   ·rw[if_pos e] at hb;simp at hb;subst hb;simp[hxm] at hm
   ·rw[if_neg e] at hb
    have M:=S.mblk b z hb hdz hm
    refine M.keep E rfl (fun _ _=>rfl) (fun g k ht hj=>?_)
    rcases hj with hj | ⟨o',hβ',_⟩
    ·exact hj
    ·exact absurd (S.sepT b d z x k hb hx hdz hd M.2.1 ht (Terr.at hβ')) e,?_⟩,rfl,rfl,rfl,Nat.le_refl _,fun k hk _=>rfl,?_,?_⟩
 ·rintro o k (hj | ⟨o',hβ,_⟩)
  ·exact S.jlt o k hj
  ·exact mr S hx hd hβ
 ·rintro k (hj | ⟨o',hβ,ht⟩)
  ·exact .inl (S.jft k hj)
  ·exact .inr ⟨o',hβ,fun _=>rfl⟩
 ·rw[Aa] at hb
  by_cases e:b=d
  ·rw[if_pos e] at hb;simp at hb;subst hb;subst e
   rcases S.blk b x hx hd hxm with h1 | ⟨k,o,cs',ty',fr',h1,h2,h3,h4,h5,h6,h7⟩
   ·exact .inl h1
   ·exact .inr ⟨k,o,cs',ty',fr',h1,h2,h3,h4,h5.ext E,fun hs=>by simp at hs,fun _=>.inr ⟨o,h1,id⟩⟩
  ·rw[if_neg e] at hb
   rcases S.blk b z hb hdz hm with h1 | ⟨k,o,cs',ty',fr',h1,h2,h3,h4,h5,h6,h7⟩
   ·exact .inl h1
   ·refine .inr ⟨k,o,cs',ty',fr',h1,h2,h3,h4,h5.ext E,fun hs g hj=>?_,fun hs=>.inl (h7 hs)⟩
    rcases hj with hj | ⟨o',hβ,_⟩
    ·exact h6 hs g hj
    ·exact e (S.sep b d z x k o o' hb hx hdz hd hs h1 hβ)
 ·intro b b' z z' k hb hb' hd1 hd2 hs hβ hβ'
  have get:∀ {c y},Ac (Cb h d { x with sealed:=true }) c=some y→y.dead=false→∃ y',Ac h c=some y'∧y'.dead=false∧(y.sealed=false→y'.sealed=false)∧An y'=An y:=by
   intro c y hc hyd
   rw[Aa] at hc
   by_cases e:c=d
   ·subst e;exact⟨x,hx,hd,fun hs=>by simp at hc;subst hc;simp at hs,by simp at hc;subst hc;rfl⟩
   ·rw[if_neg e] at hc;exact⟨y,hc,hyd,id,rfl⟩
  obtain⟨y1,g1,g2,g3,g7⟩:=get hb hd1
  obtain⟨y2,g4,g5,g6,g8⟩:=get hb' hd2
  exact S.sepT b b' y1 y2 k g1 g4 g2 g5 (g3 hs) (hβ.to rfl g7) (hβ'.to rfl g8)
 ·rintro k ⟨b,z,hb,hdz,hs,hβ⟩ hk
  rw[Aa] at hb
  by_cases e:b=d
  ·rw[if_pos e] at hb;simp at hb;subst hb;simp at hs
  ·rw[if_neg e] at hb
   exact⟨b,z,hb,hdz,hs,hβ⟩
 ·rintro o k (hj | ⟨o',hβ,ht⟩)
  ·exact .inl hj
  ·cases hs:x.sealed with
   | false=>exact .inr (.inl ⟨d,x,hx,hd,hs,Terr.at hβ⟩)
   | true =>
    left
    rcases S.blk d x hx hd hxm with⟨h1,_⟩ | ⟨k',o1,cs',ty',fr',h1,h2,h3,h4,h5,h6,h7⟩
    ·rw[hβ] at h1;simp at h1
    ·rw[hβ] at h1;simp at h1;obtain⟨rfl,rfl⟩:=h1
     have:=h7 hs
     cases htt:x.taint with
     | true=>rw[htt] at this;rw[ht htt];exact this
     | false =>
      rw[htt] at this
      cases o
      ·exact this
      ·exact S.jft _ this
structure OnlyBlk (w w':World) (k:Nat) (cs cs':Array Value) (ty:TypeId) (fr:Nat×Nat):Prop where
 old:w.heap[k]?=some (.cells cs ty fr)
 new:w'.heap[k]?=some (.cells cs' ty fr)
 sz:cs'.size=cs.size
 other:∀ j,j≠k→w'.heap[j]?=w.heap[j]?
 size:w'.heap.size=w.heap.size
 os:w'.os=w.os
 tape:w'.tape=w.tape
 output:w'.output=w.output
theorem OnlyBlk.setCell {k i:Nat} {cs:Array Value} {ty:TypeId} {fr:Nat×Nat} (hk:w.heap[k]?=some (.cells cs ty fr)) (u:Value) :
  OnlyBlk w (w.setCell ⟨k,i,none⟩ u) k cs (cs.setIfInBounds i u) ty fr:=by
 refine⟨hk,?_,by simp,fun j hj=>?_,by simp[World.setCell],rfl,rfl,rfl⟩
 ·simp[World.setCell,Array.getElem?_modify,hk]
 ·simp only[World.setCell,Array.getElem?_modify];rw[if_neg (fun e=>hj e.symm)]
theorem OnlyBlk.setCells {k:Nat} {ty:TypeId} {fr:Nat×Nat}:∀ (us:List Value) (i:Nat) (w:World) (cs:Array Value),w.heap[k]?=some (.cells cs ty fr) →
  ∃ cs',OnlyBlk w (w.setCells k i us) k cs cs' ty fr∧∀ j,cs'[j]?=if i≤j∧j<i+us.length∧j<cs.size then us[j - i]? else cs[j]?
 | [],i,w,cs,hk=>⟨cs,⟨hk,hk,rfl,fun _ _=>rfl,rfl,rfl,rfl,rfl⟩,fun j=>by rw[if_neg (by simp;omega)]⟩
 | u::us,i,w,cs,hk=>by
  have A:=OnlyBlk.setCell (i:=i) hk u
  obtain⟨cs',B,hB⟩:=OnlyBlk.setCells us (i+1) (w.setCell ⟨k,i,none⟩ u) _ A.new
  refine⟨cs',⟨hk,B.new,B.sz.trans A.sz,fun j hj=>(B.other j hj).trans (A.other j hj),B.size.trans A.size,B.os.trans A.os,B.tape.trans A.tape,B.output.trans A.output⟩,fun j=>?_⟩
  rw[hB j]
  simp only[Array.size_setIfInBounds,List.length_cons]
  by_cases hj:j=i
  ·subst hj
   rw[if_neg (by omega)]
   by_cases hs:j<cs.size
   ·rw[if_pos (by omega)];simp[hs]
   ·rw[if_neg (by omega)];simp[hs]
  ·by_cases h1:i+1≤j∧j<i+1+us.length∧j<cs.size
   ·rw[if_pos h1,if_pos (by omega),show j - i=(j - (i+1))+1 by omega];simp
   ·rw[if_neg h1,if_neg (by omega),Array.getElem?_setIfInBounds_ne (by omega)]
theorem Step.set (S:SimH J β h w) {d k o:Nat} {x x':Blk} {cs cs':Array Value} {ty:TypeId} {fr:Nat×Nat} (hx:Ac h d=some x) (hd:x.dead=false) (hs:x.sealed=false) (hβ:β d=some (k,o))
  (O:OnlyBlk w w' k cs cs' ty fr) (hd':x'.dead=false) (hs':x'.sealed=false) (hz:x'.sz=x.sz) (hl:x'.cells.length=x.cells.length) (hc:CellsRep J β h w x' (fun j=>cs'[o+j]?)) (hxm:x.mp=false) (hxm':x'.mp=x.mp:=by rfl) (hty:x'.ty=x.ty:=by rfl) :
  Step J β h w J β (Cb h d x') w':=by
 obtain⟨k',o',cs0,ty0,fr0,hβ',h2,h3,h4,h5,h6,h7⟩:∃ k' o' cs0 ty0 fr0,β d=some (k',o')∧w.heap[k']?=some (.cells cs0 ty0 fr0) ∧
   FrTy x.ty ty0 o' cs0.size fr0∧o'+x.cells.length≤cs0.size∧CellsRep J β h w x (fun j=>cs0[o'+j]?)∧(x.sealed=false→∀ g,¬ J g k')∧(x.sealed=true→J x.taint k'):=by
  rcases S.blk d x hx hd hxm with⟨h1,_⟩ | h1
  ·rw[hβ] at h1;simp at h1
  ·exact h1
 rw[hβ] at hβ';simp at hβ';obtain⟨rfl,rfl⟩:=hβ'
 rw[O.old] at h2;simp at h2;obtain⟨rfl,rfl,rfl⟩:=h2
 have nj:∀ g j,J g j→j≠k:=fun g j hj e=>by subst e;exact h6 hs g hj
 have E:Ext J β h w J β (Cb h d x') w':=by
  refine⟨fun _ _ hj=>hj,fun o j hj=>O.other j (nj o j hj),fun b z hb=>?_,fun b j oo hb=>?_⟩
  ·by_cases e:b=d
   ·subst e;rw[hx] at hb;simp at hb;subst hb
    exact⟨_,⟨by rw[Aa,if_pos rfl],hxm'⟩,.inr ⟨hd,.ord hxm rfl,hz,fun _=>hl⟩⟩
   ·refine⟨z,⟨by rw[Aa,if_neg e];exact hb,rfl⟩,?_⟩
    cases hd:z.dead
    ·exact .inr ⟨rfl,.of rfl,rfl,fun _=>rfl⟩
    ·exact .inl rfl
  ·by_cases e:j=k
   ·subst e;rw[A0 O.old,A0 O.new,O.sz];exact Nat.le_refl _
   ·simp[Am,O.other j e]
 refine⟨E,⟨fun g j hj=>by rw[O.size];exact S.jlt g j hj,S.jft,S.gl.ext E,fun b z hb hdz hm=>?_,fun b z hb hdz hm=>by
   rw[Aa] at hb
   by_cases e:b=d
   ·rw[if_pos e] at hb;simp at hb;subst hb;simp[hxm',hxm] at hm
   ·rw[if_neg e] at hb
    exact(S.mblk b z hb hdz hm).keep E rfl (fun k2 hβ2=>O.other k2 (fun e2=>by subst e2;exact e (S.sepT d b x z k2 hx hb hd hdz hs (Terr.at hβ) hβ2).symm)) (fun _ _ _ hj=>hj),?_⟩,O.os,O.tape,O.output,by rw[O.size];exact Nat.le_refl _,fun j hj hm=>?_,?_,fun _ _ hj=>.inl hj⟩
 ·rw[Aa] at hb
  by_cases e:b=d
  ·rw[if_pos e] at hb;simp at hb;subst hb;subst e
   refine .inr ⟨k,o,cs',ty,fr,hβ,O.new,?_,by rw[hl,O.sz];exact h4,hc.ext E,fun _=>h6 hs,fun hh=>by simp[hs'] at hh⟩
   rw[O.sz,hty];exact h3
  ·rw[if_neg e] at hb
   rcases S.blk b z hb hdz hm with g1 | ⟨k2,o2,cs2,ty2,fr2,g1,g2,g3,g4,g5,g6,g7⟩
   ·exact .inl g1
   ·have hne:k2≠k:=fun e2=>by
     subst e2;exact e (S.sep d b x z k2 o o2 hx hb hd hdz hs hβ g1).symm
    exact .inr ⟨k2,o2,cs2,ty2,fr2,g1,by rw[O.other k2 hne];exact g2,g3,g4,g5.ext E,g6,g7⟩
 ·intro b b' z z' kk hb hb' hd1 hd2 hs1 hβ1 hβ2
  have get:∀ {c y},Ac (Cb h d x') c=some y→y.dead=false→∃ y',Ac h c=some y'∧y'.dead=false∧(y.sealed=false→y'.sealed=false)∧An y'=An y:=by
   intro c y hc hyd
   rw[Aa] at hc
   by_cases e:c=d
   ·subst e;simp at hc;subst hc;exact⟨x,hx,hd,fun _=>hs,(Ey hxm' hz).symm⟩
   ·rw[if_neg e] at hc;exact⟨y,hc,hyd,id,rfl⟩
  obtain⟨y1,g1,g2,g3,g7⟩:=get hb hd1
  obtain⟨y2,g4,g5,g6,g8⟩:=get hb' hd2
  exact S.sepT b b' y1 y2 kk g1 g4 g2 g5 (g3 hs1) (hβ1.to rfl g7) (hβ2.to rfl g8)
 ·exact O.other j (fun e=>hm (by subst e;exact⟨d,x,hx,hd,hs,Terr.at hβ⟩))
 ·rintro j ⟨b,z,hb,hdz,hsz,hβz⟩ hj
  rw[Aa] at hb
  by_cases e:b=d
  ·subst e;simp at hb;subst hb;exact⟨b,x,hx,hd,hs,hβz.to rfl (Ey hxm' hz).symm⟩
  ·rw[if_neg e] at hb
   exact⟨b,z,hb,hdz,hsz,hβz⟩
theorem Step.setObj (S:SimH J β h w) {d k:Nat} {x x':Blk} {ob ob':Obj} (hx:Ac h d=some x) (hd:x.dead=false) (hm:x.mp=true) (hβ:β d=some (k,0))
  (old:w.heap[k]?=some ob) (new:w'.heap[k]?=some ob') (other:∀ j,j≠k→w'.heap[j]?=w.heap[j]?) (size:w'.heap.size=w.heap.size) (os:w'.os=w.os) (tape:w'.tape=w.tape) (output:w'.output=w.output)
  (hc:ObjIs x' ob') (hx'd:x'.dead=false) (hx's:x'.sealed=false) (hx'p:x'.pure=true) (hx'z:x'.sz=x.sz) (hx'm:x'.mp=true) (hxn:An x=false):Step J β h w J β (Cb h d x') w':=by
 have M:=S.mblk d x hx hd hm
 have nJ:∀ g,¬ J g k:=M.2.2.1 k (Terr.at hβ)
 have hx'n:An x'=false:=by rw[Ey (by rw[hx'm,hm]) hx'z];exact hxn
 have hrow:∀ cs ty fr,ob≠.cells cs ty fr:=by
  rcases M.2.2.2 with⟨k',ob0,_,h1,h2,h3⟩ | ⟨_,_,h1,_⟩
  ·rw[hβ] at h1;simp at h1;subst h1
   rw[old] at h2;simp at h2;subst h2
   exact fun _ _ _=>h3.row
  ·rw[hxn] at h1;cases h1
 have nj:∀ g j,J g j→j≠k:=fun g j hj e=>by subst e;exact nJ g hj
 have E:Ext J β h w J β (Cb h d x') w':=by
  refine⟨fun _ _ hj=>hj,fun o j hj=>other j (nj o j hj),fun b z hb=>?_,fun b j oo hb=>?_⟩
  ·by_cases e:b=d
   ·subst e;rw[hx] at hb;simp at hb;subst hb
    exact⟨_,⟨by rw[Aa,if_pos rfl],by rw[hx'm,hm]⟩,.inr ⟨hd,.un hxn rfl,hx'z,fun h=>by simp[hm] at h⟩⟩
   ·refine⟨z,⟨by rw[Aa,if_neg e];exact hb,rfl⟩,?_⟩
    cases hd:z.dead
    ·exact .inr ⟨rfl,.of rfl,rfl,fun _=>rfl⟩
    ·exact .inl rfl
  ·by_cases e:j=k
   ·subst e
    have z0:Am w j=0:=by
     unfold Am;rw[old]
     split
     ·rename_i e;simp at e;exact absurd e (hrow _ _ _)
     ·rfl
    rw[z0];exact Nat.zero_le _
   ·simp[Am,other j e]
 refine⟨E,⟨fun g j hj=>by rw[size];exact S.jlt g j hj,S.jft,S.gl.ext E,fun b z hb hdz hmz=>?_,fun b z hb hdz hmz=>?_,?_⟩,os,tape,output,by rw[size];exact Nat.le_refl _,fun j hj hm=>?_,?_,fun _ _ hj=>.inl hj⟩
 ·rw[Aa] at hb
  by_cases e:b=d
  ·rw[if_pos e] at hb;simp at hb;subst hb;simp[hx'm] at hmz
  ·rw[if_neg e] at hb
   rcases S.blk b z hb hdz hmz with g1 | ⟨k2,o2,cs2,ty2,fr2,g1,g2,g3,g4,g5,g6,g7⟩
   ·exact .inl g1
   ·have hne:k2≠k:=fun e2=>by
     subst e2;rw[old] at g2;simp at g2
     exact absurd g2 (hrow _ _ _)
    exact .inr ⟨k2,o2,cs2,ty2,fr2,g1,by rw[other k2 hne];exact g2,g3,g4,g5.ext E,g6,g7⟩
 ·rw[Aa] at hb
  by_cases e:b=d
  ·rw[if_pos e] at hb;simp at hb;subst hb;subst e
   refine⟨hx'p,hx's,fun j ht=>?_,.inl ⟨k,ob',hx'n,hβ,new,hc⟩⟩
   obtain⟨o,h1⟩:=ht.un hx'n
   rw[hβ] at h1;simp at h1;rw[←h1.1];exact nJ
  ·rw[if_neg e] at hb
   exact(S.mblk b z hb hdz hmz).keep E rfl (fun k2 hβ2=>other k2 (fun e2=>by subst e2;exact e (S.sepT d b x z k2 hx hb hd hdz M.2.1 (Terr.at hβ) hβ2).symm)) (fun _ _ _ hj=>hj)
 ·intro b b' z z' kk hb hb' hd1 hd2 hs1 hβ1 hβ2
  have get:∀ {c y},Ac (Cb h d x') c=some y→y.dead=false→∃ y',Ac h c=some y'∧y'.dead=false∧(y.sealed=false→y'.sealed=false)∧An y'=An y:=by
   intro c y hc hyd
   rw[Aa] at hc
   by_cases e:c=d
   ·subst e;simp at hc;subst hc;exact⟨x,hx,hd,fun _=>M.2.1,(Ey (by rw[hx'm,hm]) hx'z).symm⟩
   ·rw[if_neg e] at hc;exact⟨y,hc,hyd,id,rfl⟩
  obtain⟨y1,g1,g2,g3,g7⟩:=get hb hd1
  obtain⟨y2,g4,g5,g6,g8⟩:=get hb' hd2
  exact S.sepT b b' y1 y2 kk g1 g4 g2 g5 (g3 hs1) (hβ1.to rfl g7) (hβ2.to rfl g8)
 ·exact other j (fun e=>hm (by subst e;exact⟨d,x,hx,hd,M.2.1,Terr.at hβ⟩))
 ·rintro j ⟨b,z,hb,hdz,hsz,hβz⟩ hj
  rw[Aa] at hb
  by_cases e:b=d
  ·subst e;simp at hb;subst hb;exact⟨b,x,hx,hd,M.2.1,hβz.to rfl (Ey (by rw[hx'm,hm]) hx'z).symm⟩
  ·rw[if_neg e] at hb
   exact⟨b,z,hb,hdz,hsz,hβz⟩
theorem Step.mark (S:SimH J β h w) {d k o:Nat} {x:Blk} {cs:Array Value} {ty:TypeId} {fr fr':Nat×Nat} (hx:Ac h d=some x) (hd:x.dead=false) (hs:x.sealed=false) (hβ:β d=some (k,o))
  (old:w.heap[k]?=some (.cells cs ty fr)) (new:w'.heap[k]?=some (.cells cs ty fr')) (hf:FrOk cs.size fr') (other:∀ j,j≠k→w'.heap[j]?=w.heap[j]?) (size:w'.heap.size=w.heap.size) (os:w'.os=w.os) (tape:w'.tape=w.tape) (output:w'.output=w.output) (hxm:x.mp=false) :
  Step J β h w J β h w':=by
 have nj:∀ g j,J g j→j≠k:=fun g j hj e=>by
  subst e
  rcases S.blk d x hx hd hxm with⟨h1,_⟩ | ⟨k',o',cs0,ty0,fr0,hβ',h2,h3,h4,h5,h6,h7⟩
  ·rw[hβ] at h1;simp at h1
  ·rw[hβ] at hβ';simp at hβ';obtain⟨rfl,rfl⟩:=hβ'
   exact h6 hs g hj
 have E:Ext J β h w J β h w':=by
  refine⟨fun _ _ hj=>hj,fun o j hj=>other j (nj o j hj),fun b z hb=>⟨z,⟨hb,rfl⟩,?_⟩,fun b j oo hb=>?_⟩
  ·cases hd:z.dead
   ·exact .inr ⟨rfl,.of rfl,rfl,fun _=>rfl⟩
   ·exact .inl rfl
  ·by_cases e:j=k
   ·subst e;rw[A0 old,A0 new];exact Nat.le_refl _
   ·simp[Am,other j e]
 refine⟨E,⟨fun g j hj=>by rw[size];exact S.jlt g j hj,S.jft,S.gl.ext E,fun b z hb hdz hm=>?_,fun b z hb hdz hm=>by
   refine(S.mblk b z hb hdz hm).keep E rfl (fun k2 hβ2=>other k2 (fun e2=>?_)) (fun _ _ _ hj=>hj)
   subst e2
   have:=(S.sepT d b x z k2 hx hb hd hdz hs (Terr.at hβ) hβ2)
   subst this
   rw[hx] at hb;simp at hb;subst hb;simp[hxm] at hm,S.sepT⟩,os,tape,output,by rw[size];exact Nat.le_refl _,fun j hj hm=>?_,fun _ hm _=>hm,fun _ _ hj=>.inl hj⟩
 ·rcases S.blk b z hb hdz hm with g1 | ⟨k2,o2,cs2,ty2,fr2,g1,g2,g3,g4,g5,g6,g7⟩
  ·exact .inl g1
  ·by_cases e:k2=k
   ·subst e
    rw[old] at g2;simp at g2;obtain⟨rfl,rfl,rfl⟩:=g2
    exact .inr ⟨k2,o2,cs,ty,fr',g1,new,⟨hf,g3.2⟩,g4,g5.ext E,g6,g7⟩
   ·exact .inr ⟨k2,o2,cs2,ty2,fr2,g1,by rw[other k2 e];exact g2,g3,g4,g5.ext E,g6,g7⟩
 ·exact other j (fun e=>hm (by subst e;exact⟨d,x,hx,hd,hs,Terr.at hβ⟩))
theorem Step.move (S:SimH J β h w) {d d' k o o':Nat} {x x' y:Blk} {cs cs':Array Value} {ty:TypeId} {fr:Nat×Nat} (hx:Ac h d=some x) (hd:x.dead=false) (hs:x.sealed=false) (hβ:β d=some (k,o))
  (hn:Ac h d'=none) (hy:y.dead=true)
  (O:OnlyBlk w w' k cs cs' ty fr) (hd':x'.dead=false) (hs':x'.sealed=false) (hl:o'+x'.cells.length≤cs.size) (hc:CellsRep J β h w x' (fun j=>cs'[o'+j]?)) (hxm:x.mp=false) (hym:y.mp=x.mp:=by rfl) (hxm':x'.mp=false:=by rfl) (hty:TyOk x'.ty ty o' cs.size:=by exact TyOk.none) :
  Step J β h w J (fun b=>if b=d' then some (k,o') else β b) (Cb (Cb h d y) d' x') w':=by
 obtain⟨k',o1,cs0,ty0,fr0,hβ',h2,h3,h4,h5,h6,h7⟩:∃ k' o' cs0 ty0 fr0,β d=some (k',o')∧w.heap[k']?=some (.cells cs0 ty0 fr0) ∧
   FrTy x.ty ty0 o' cs0.size fr0∧o'+x.cells.length≤cs0.size∧CellsRep J β h w x (fun j=>cs0[o'+j]?)∧(x.sealed=false→∀ g,¬ J g k')∧(x.sealed=true→J x.taint k'):=by
  rcases S.blk d x hx hd hxm with⟨h1,_⟩ | h1
  ·rw[hβ] at h1;simp at h1
  ·exact h1
 rw[hβ] at hβ';simp at hβ';obtain⟨rfl,rfl⟩:=hβ'
 rw[O.old] at h2;simp at h2;obtain⟨rfl,rfl,rfl⟩:=h2
 have nj:∀ g j,J g j→j≠k:=fun g j hj e=>by subst e;exact h6 hs g hj
 have ndd:d≠d':=fun e=>by subst e;rw[hn] at hx;cases hx
 have ne:∀ {b z},Ac h b=some z→b≠d':=fun hb e=>by subst e;rw[hn] at hb;cases hb
 have get:∀ b,Ac (Cb (Cb h d y) d' x') b=if b=d' then some x' else if b=d then some y else Ac h b:=fun b=>by rw[Aa,Aa]
 have E:Ext J β h w J (fun b=>if b=d' then some (k,o') else β b) (Cb (Cb h d y) d' x') w':=by
  refine⟨fun _ _ hj=>hj,fun o j hj=>O.other j (nj o j hj),fun b z hb=>?_,fun b j oo hb=>?_⟩
  ·by_cases e:b=d
   ·have hb0:=hb;subst e;rw[hx] at hb;simp at hb;subst hb;exact⟨y,⟨by rw[get,if_neg (ne hb0),if_pos rfl],hym⟩,.inl hy⟩
   ·refine⟨z,⟨by rw[get,if_neg (ne hb),if_neg e];exact hb,rfl⟩,?_⟩
    cases hd:z.dead
    ·exact .inr ⟨rfl,.of (by simp[ne hb]),rfl,fun _=>rfl⟩
    ·exact .inl rfl
  ·by_cases e:j=k
   ·subst e;rw[A0 O.old,A0 O.new,O.sz];exact Nat.le_refl _
   ·simp[Am,O.other j e]
 have live:∀ {b z},Ac (Cb (Cb h d y) d' x') b=some z→z.dead=false→(b=d'∧z=x')∨(b≠d'∧b≠d∧Ac h b=some z):=by
  intro b z hb hz
  rw[get] at hb
  by_cases e:b=d'
  ·rw[if_pos e] at hb;simp at hb;exact .inl ⟨e,hb.symm⟩
  ·rw[if_neg e] at hb
   by_cases e2:b=d
   ·rw[if_pos e2] at hb;simp at hb;subst hb;simp[hy] at hz
   ·rw[if_neg e2] at hb;exact .inr ⟨e,e2,hb⟩
 refine⟨E,⟨fun g j hj=>by rw[O.size];exact S.jlt g j hj,S.jft,S.gl.ext E,fun b z hb hdz hm=>?_,fun b z hb hdz hm=>by
   rcases live hb hdz with⟨rfl,rfl⟩ | ⟨e1,e2,hb⟩
   ·simp[hxm'] at hm
   ·exact(S.mblk b z hb hdz hm).keep E (by simp[e1]) (fun k2 hβ2=>O.other k2 (fun e=>by subst e;exact e2 (S.sepT d b x z k2 hx hb hd hdz hs (Terr.at hβ) hβ2).symm)) (fun _ _ _ hj=>hj),?_⟩,O.os,O.tape,O.output,by rw[O.size];exact Nat.le_refl _,fun j hj hm=>?_,?_,fun _ _ hj=>.inl hj⟩
 ·rcases live hb hdz with⟨rfl,rfl⟩ | ⟨e1,e2,hb⟩
  ·refine .inr ⟨k,o',cs',ty,fr,by simp,O.new,?_,by rw[O.sz];exact hl,hc.ext E,fun _=>h6 hs,fun hh=>by simp[hs'] at hh⟩
   rw[O.sz];exact⟨h3.1,hty⟩
  ·rcases S.blk b z hb hdz hm with g1 | ⟨k2,o2,cs2,ty2,fr2,g1,g2,g3,g4,g5,g6,g7⟩
   ·exact .inl ⟨by simp[e1,g1.1],g1.2⟩
   ·have hne:k2≠k:=fun e=>by
     subst e;exact e2 (S.sep d b x z k2 o o2 hx hb hd hdz hs hβ g1).symm
    exact .inr ⟨k2,o2,cs2,ty2,fr2,by simp[e1,g1],by rw[O.other k2 hne];exact g2,g3,g4,g5.ext E,g6,g7⟩
 ·intro b b' z z' kk hb hb' hd1 hd2 hs1 hβ1 hβ2
  have hn':An x'=false:=by simp[An,hxm']
  rcases live hb hd1 with⟨e0,f0⟩ | ⟨e1,e2,hbb⟩<;>rcases live hb' hd2 with⟨e0',f0'⟩ | ⟨e3,e4,hbb'⟩
  ·rw[e0,e0']
  ·subst f0
   obtain⟨q,hβ1⟩:=hβ1.un hn'
   simp[e0] at hβ1
   obtain⟨rfl,rfl⟩:=hβ1
   exact absurd (S.sepT d b' x z' k hx hbb' hd hd2 hs (Terr.at hβ) (hβ2.to (by simp[e3]) rfl)).symm e4
  ·subst f0'
   obtain⟨q,hβ2⟩:=hβ2.un hn'
   simp[e0'] at hβ2
   obtain⟨rfl,rfl⟩:=hβ2
   exact absurd (S.sepT d b x z k hx hbb hd hd1 hs (Terr.at hβ) (hβ1.to (by simp[e1]) rfl)).symm e2
  ·exact S.sepT b b' z z' kk hbb hbb' hd1 hd2 hs1 (hβ1.to (by simp[e1]) rfl) (hβ2.to (by simp[e3]) rfl)
 ·exact O.other j (fun e=>hm (by subst e;exact⟨d,x,hx,hd,hs,Terr.at hβ⟩))
 ·rintro j ⟨b,z,hb,hdz,hsz,hβz⟩ hj
  rcases live hb hdz with⟨rfl,rfl⟩ | ⟨e1,e2,hb⟩
  ·obtain⟨q,hβz⟩:=hβz.un (by simp[An,hxm'])
   simp at hβz;obtain⟨rfl,rfl⟩:=hβz
   exact⟨d,x,hx,hd,hs,Terr.at hβ⟩
  ·exact⟨b,z,hb,hdz,hsz,hβz.to (by simp[e1]) rfl⟩
end
end Gx

namespace Gx
open Go
theorem SimH.unJ {J:Bool→Nat→Prop} {β:Aw} {h:Ag} {w:World} (S:SimH J β h w) {b:Nat} {x:Blk} {k o:Nat} (hb:Ac h b=some x) (hd:x.dead=false) (hs:x.sealed=false) (hβ:β b=some (k,o)):∀ g,¬ J g k:=by
 cases hm:x.mp with
 | false =>
  rcases S.blk b x hb hd hm with⟨h2,_⟩ | ⟨k',o2,cs,ty,fr,h2,h3,h4,h5,h6,h7,h8⟩
  ·rw[hβ] at h2;cases h2
  ·rw[hβ] at h2;simp at h2;obtain⟨rfl,rfl⟩:=h2
   exact h7 hs
 | true =>
  exact(S.mblk b x hb hd hm).2.2.1 k (Terr.at hβ)
theorem SimH.seJ {J:Bool→Nat→Prop} {β:Aw} {h:Ag} {w:World} (S:SimH J β h w) {b:Nat} {x:Blk} {k o:Nat} (hb:Ac h b=some x) (hd:x.dead=false) (hs:x.sealed=true) (hβ:β b=some (k,o)):J x.taint k:=by
 cases hm:x.mp with
 | false =>
  rcases S.blk b x hb hd hm with⟨h2,_⟩ | ⟨k',o2,cs,ty,fr,h2,h3,h4,h5,h6,h7,h8⟩
  ·rw[hβ] at h2;cases h2
  ·rw[hβ] at h2;simp at h2;obtain⟨rfl,rfl⟩:=h2
   exact h8 hs
 | true =>
  have:=(S.mblk b x hb hd hm).2.1
  rw[hs] at this;cases this
theorem SimH.unT {J:Bool→Nat→Prop} {β:Aw} {h:Ag} {w:World} (S:SimH J β h w) {b:Nat} {x:Blk} {k:Nat} (hb:Ac h b=some x) (hd:x.dead=false) (hs:x.sealed=false) (ht:Terr β b x k):∀ g,¬ J g k:=by
 cases hm:x.mp with
 | false=>obtain⟨o,hβ⟩:=ht.ord hm;exact S.unJ hb hd hs hβ
 | true=>exact(S.mblk b x hb hd hm).2.2.1 k ht
def CO (β:Aw) (h:Ag) (ids:List Nat) (k:Nat):Prop:=∃ b x,b ∈ ids∧Ac h b=some x∧x.dead=false∧x.sealed=false∧Terr β b x k
def Bumped (y x:Blk):Prop:=∃ g,y.gen≤g∧x={ y with gen:=g }
theorem Bumped.rfl {y:Blk}:Bumped y y:=⟨y.gen,Nat.le_refl _,by cases y;rfl⟩
theorem Step.merge {J J0 J1:Bool→Nat→Prop} {β β1:Aw} {h h1 H:Ag} {w w':World} {D ids:List Nat} (S:SimH J β h w) (S1:SimH J0 β1 h1 w')
  (hH:∀ b,b ∉ D→Ac H b=Ac h b)
  (hD:∀ b x,b ∈ D→Ac H b=some x→x.dead=false→∃ y,Ac h1 b=some y∧Bumped y x)
  (hD1:∀ b y,Ac h1 b=some y→b ∈ D∧∃ x,Ac H b=some x∧Bumped y x)
  (hnew:∀ b x,b ∈ D→b ∉ ids→Ac h b≠some x)
  (hold:∀ b x,b ∈ ids→Ac h b=some x→∃ x',(Ac H b=some x'∧x'.mp=x.mp)∧(x'.dead=true∨(x.dead=false∧SameB β β1 b x x'∧x'.sz=x.sz∧(x.mp=false→x'.cells.length=x.cells.length))))
  (hids:∀ b ∈ ids,b ∈ D)
  (os:w'.os=w.os) (tape:w'.tape=w.tape) (output:w'.output=w.output) (size:w.heap.size≤w'.heap.size)
  (frame:∀ k,k<w.heap.size→¬ CO β h ids k→w'.heap[k]?=w.heap[k]?)
  (wr:∀ k,eV β1 h1 k→k<w.heap.size→CO β h ids k)
  (jup:∀ o k,J0 o k→J o k∨CO β h ids k∨w.heap.size≤k)
  (sizes:∀ k,Am w k≤Am w' k) :
  Step J β h w (fun o k=>J o k∨J0 o k) (fun b=>if b ∈ D then β1 b else β b) H w'∧Ext J0 β1 h1 w' (fun o k=>J o k∨J0 o k) (fun b=>if b ∈ D then β1 b else β b) H w':=by
 have E0:Ext J0 β1 h1 w' (fun o k=>J o k∨J0 o k) (fun b=>if b ∈ D then β1 b else β b) H w':=by
  refine⟨fun _ _ hj=>.inr hj,fun _ _ _=>rfl,fun b x hb=>?_,fun _ _ _ _=>Nat.le_refl _⟩
  obtain⟨h2,x',h3,gg,hg,rfl⟩:=hD1 b x hb
  refine⟨_,⟨h3,rfl⟩,?_⟩
  cases hd:x.dead
  ·exact .inr ⟨rfl,.to (by simp[h2]) hg (fun _=>Nat.le_refl _) (fun _=>rfl),rfl,fun _=>rfl⟩
  ·exact .inl rfl
 have keepJ:∀ o k,J o k→w'.heap[k]?=w.heap[k]?:=by
  intro o k hj
  refine frame k (S.jlt o k hj) ?_
  rintro⟨b,x,_,hb,hd,hs,ht⟩
  exact S.unT hb hd hs ht o hj
 have E:Ext J β h w (fun o k=>J o k∨J0 o k) (fun b=>if b ∈ D then β1 b else β b) H w':=by
  refine⟨fun _ _ hj=>.inl hj,keepJ,fun b x hb=>?_,fun b k o _=>sizes k⟩
  by_cases hi:b ∈ ids
  ·obtain⟨x',h2,h3⟩:=hold b x hi hb
   refine⟨x',h2,?_⟩
   unfold SameB at h3 ⊢
   simp only[hids b hi,if_true]
   exact h3
  ·have hnd:b ∉ D:=fun hd=>hnew b x hd hi hb
   refine⟨x,⟨by rw[hH b hnd];exact hb,rfl⟩,?_⟩
   cases hd:x.dead
   ·exact .inr ⟨rfl,.of (by simp[hnd]),rfl,fun _=>rfl⟩
   ·exact .inl rfl
 have out:∀ {b x},b ∉ D→Ac H b=some x→Ac h b=some x:=fun hb hx=>by rw[←hH _ hb];exact hx
 refine⟨⟨E,⟨?_,?_,S.gl.ext E,fun b x hx hd hm=>?_,fun b x hx hd hm=>by
   by_cases hb:b ∈ D
   ·obtain⟨y,h2,gg,hg,rfl⟩:=hD b x hb hx hd
    have M:=S1.mblk b y h2 hd hm
    have M':=M.keep (β':=fun b=>if b ∈ D then β1 b else β b) E0 (by simp[hb]) (fun _ _=>rfl) (fun g k ht hj=>?_)
    ·exact M'
    rcases hj with hj | hj
    ·exfalso
     by_cases hk:k<w.heap.size
     ·obtain⟨b',x',hb',hx',hd',hs',hβ'⟩:=wr k ⟨b,y,h2,hd,M.2.1,ht⟩ hk
      exact S.unT hx' hd' hs' hβ' g hj
     ·exact hk (S.jlt g k hj)
    ·exact hj
   ·have h2:=out hb hx
    have M:=S.mblk b x h2 hd hm
    have hnm:∀ k,Terr β b x k→¬ CO β h ids k:=by
     rintro k h3 ⟨b',x',hb',hx',hd',hs',hβ'⟩
     have:=S.sepT b b' x x' k h2 hx' hd hd' M.2.1 h3 hβ'
     subst this
     exact hb (hids b hb')
    refine M.keep E (by simp[hb]) (fun k ht=>frame k (H6 S h2 hd ht) (hnm k ht)) (fun g k ht hj=>?_)
    rcases hj with hj | hj
    ·exact hj
    ·rcases jup g k hj with hj | hj | hj
     ·exact hj
     ·exact absurd hj (hnm k ht)
     ·have:=H6 S h2 hd ht;omega,?_⟩,os,tape,output,size,?_,?_,?_⟩,E0⟩
 ·rintro o k (hj | hj)
  ·exact Nat.lt_of_lt_of_le (S.jlt o k hj) size
  ·exact S1.jlt o k hj
 ·rintro k (hj | hj)
  ·exact .inl (S.jft k hj)
  ·exact .inr (S1.jft k hj)
 ·by_cases hb:b ∈ D
  ·obtain⟨y,h2,gg,hg,rfl⟩:=hD b x hb hx hd
   rcases S1.blk b y h2 hd hm with⟨h3,h4⟩ | ⟨k,o,cs,ty,fr,h3,h4,h5,h6,h7,h8,h9⟩
   ·exact .inl ⟨by simp[hb,h3],h4⟩
   ·refine .inr ⟨k,o,cs,ty,fr,by simp[hb,h3],h4,h5,h6,h7.ext E0,fun hs g hj=>?_,fun hs=>.inr (h9 hs)⟩
    rcases hj with hj | hj
    ·by_cases hk:k<w.heap.size
     ·obtain⟨b',x',hb',hx',hd',hs',hβ'⟩:=wr k ⟨b,y,h2,hd,hs,Terr.at h3⟩ hk
      exact S.unT hx' hd' hs' hβ' g hj
     ·exact hk (S.jlt g k hj)
    ·exact h8 hs g hj
  ·have h2:=out hb hx
   rcases S.blk b x h2 hd hm with⟨h3,h4⟩ | ⟨k,o,cs,ty,fr,h3,h4,h5,h6,h7,h8,h9⟩
   ·exact .inl ⟨by simp[hb,h3],h4⟩
   ·have hk:=Nj h4
    have hnm:x.sealed=false→¬ CO β h ids k:=by
     rintro hs ⟨b',x',hb',hx',hd',hs',hβ'⟩
     have:=S.sepT b b' x x' k h2 hx' hd hd' hs (Terr.at h3) hβ'
     subst this
     exact hb (hids b hb')
    have same:w'.heap[k]?=w.heap[k]?:=by
     cases hs:x.sealed with
     | false=>exact frame k hk (hnm hs)
     | true=>exact keepJ _ k (h9 hs)
    refine .inr ⟨k,o,cs,ty,fr,by simp[hb,h3],by rw[same];exact h4,h5,h6,h7.ext E,fun hs g hj=>?_,fun hs=>.inl (h9 hs)⟩
    rcases hj with hj | hj
    ·exact h8 hs g hj
    ·rcases jup g k hj with hj | hj | hj
     ·exact h8 hs g hj
     ·exact hnm hs hj
     ·omega
 ·intro b b' x x' k hx hx' hd hd' hs hβ hβ'
  by_cases hb:b ∈ D<;>by_cases hb':b' ∈ D
  ·obtain⟨y,e1,g1,_,rfl⟩:=hD b x hb hx hd
   obtain⟨y',e2,g2,_,rfl⟩:=hD b' x' hb' hx' hd'
   exact S1.sepT b b' y y' k e1 e2 hd hd' hs (hβ.to (by simp[hb]) rfl) (hβ'.to (by simp[hb']) rfl)
  ·exfalso
   obtain⟨y,e1,g1,_,rfl⟩:=hD b x hb hx hd
   have hβ:=hβ.to (β':=β1) (b':=b) (x':=y) (by simp[hb]) rfl
   have hβ':=hβ'.to (β':=β) (b':=b') (x':=x') (by simp[hb']) rfl
   have h2:=out hb' hx'
   have hk:=H6 S h2 hd' hβ'
   obtain⟨b2,x2,hb2,hx2,hd2,hs2,hβ2⟩:=wr k ⟨b,y,e1,hd,hs,hβ⟩ hk
   have:=S.sepT b2 b' x2 x' k hx2 h2 hd2 hd' hs2 hβ2 hβ'
   subst this
   exact hb' (hids _ hb2)
  ·exfalso
   obtain⟨y,h3,g1,_,rfl⟩:=hD b' x' hb' hx' hd'
   have hβ:=hβ.to (β':=β) (b':=b) (x':=x) (by simp[hb]) rfl
   have hβ':=hβ'.to (β':=β1) (b':=b') (x':=y) (by simp[hb']) rfl
   have h2:=out hb hx
   have hk:=H6 S h2 hd hβ
   have hnm:¬ CO β h ids k:=by
    rintro⟨b2,x2,hb2,hx2,hd2,hs2,hβ2⟩
    have:=S.sepT b b2 x x2 k h2 hx2 hd hd2 hs hβ hβ2
    subst this
    exact hb (hids _ hb2)
   cases hs':y.sealed with
   | false=>exact hnm (wr k ⟨b',y,h3,hd',hs',hβ'⟩ hk)
   | true =>
    have hym:y.mp=false:=by
     cases hm:y.mp with
     | false=>rfl
     | true=>have:=(S1.mblk b' y h3 hd' hm).2.1;rw[hs'] at this;cases this
    obtain⟨o',hβ'⟩:=hβ'.ord hym
    rcases jup _ k (S1.seJ h3 hd' hs' hβ') with hj | hj | hj
    ·exact S.unT h2 hd hs hβ _ hj
    ·exact hnm hj
    ·omega
  ·exact S.sepT b b' x x' k (out hb hx) (out hb' hx') hd hd' hs (hβ.to (by simp[hb]) rfl) (hβ'.to (by simp[hb']) rfl)
 ·intro k hk hm
  exact frame k hk (fun ⟨b,x,_,hx,hd,hs,hβ⟩=>hm ⟨b,x,hx,hd,hs,hβ⟩)
 ·rintro k ⟨b,x,hx,hd,hs,hβ⟩ hk
  by_cases hb:b ∈ D
  ·obtain⟨y,e1,g1,_,rfl⟩:=hD b x hb hx hd
   obtain⟨b2,x2,_,hx2,hd2,hs2,hβ2⟩:=wr k ⟨b,y,e1,hd,hs,hβ.to (by simp[hb]) rfl⟩ hk
   exact⟨b2,x2,hx2,hd2,hs2,hβ2⟩
  ·exact⟨b,x,out hb hx,hd,hs,hβ.to (by simp[hb]) rfl⟩
 ·rintro o k (hj | hj)
  ·exact .inl hj
  ·rcases jup o k hj with hj | ⟨b,x,_,hx,hd,hs,hβ⟩ | hj
   ·exact .inl hj
   ·exact .inr (.inl ⟨b,x,hx,hd,hs,hβ⟩)
   ·exact .inr (.inr hj)
end Gx

namespace Gx
open Go
theorem Bc:∀ (a b:Bo) (h:Ag),Ab (a++b) h=Ab b (Ab a h)
 | [],_,_=>rfl
 | (_,some _)::r,b,h=>by simp only[List.cons_append,Ab];exact Bc r b _
 | (_,none)::r,b,h=>by simp only[List.cons_append,Ab];exact Bc r b _
def LooksS (g:Ar) (h:Ag):Prop:=∀ b x,g b=some x→∃ y,Ac h b=some y∧{ y with sealed:=true }={ x with sealed:=true }
theorem Looks.s {g:Ar} {h:Ag} (hl:Looks g h):LooksS g h:=fun b x hb=>⟨x,hl b x hb,rfl⟩
section
variable {R:Type} {r:R} {P:Program} {J J':Bool→Nat→Prop} {β:Aw} {h:Ag} {w:World} {g:Ar}
theorem LooksS.shutB (hl:LooksS g h) {b:Nat} {x:Blk} (hb:g b=some x):LooksS g (Cb h b { x with sealed:=true }):=by
 intro c y hc
 rw[Aa]
 by_cases e:c=b
 ·subst e;rw[hb] at hc;simp at hc;subst hc
  exact⟨{ x with sealed:=true },by simp,rfl⟩
 ·rw[if_neg e];exact hl c y hc
theorem k9 (S:SimH J β h w) {b off n:Nat} {y:Blk} {v:Value} (hb:Ac h b=some y) (hd:y.dead=false) (hp:y.pure=true) (hr:Rep J β h w (.own b off n) v)
  (hJ:∀ k o,β b=some (k,o)→J' y.taint k) (hsub:∀ o k,J o k→J' o k) (t o:Bool):RepC (J' y.taint) w (.imm ((y.cells.drop off).take (n*y.sz)) n y.sz t o) v↔(t=true→∃ A cap,v=.slice A n cap∧cap=n):=by
 rw[Rep] at hr
 obtain⟨x,A,cap,⟨hx1,hmp⟩,rfl,hcap,hr⟩:=hr
 rw[hb] at hx1;simp at hx1;subst hx1
 rw[RepC]
 constructor
 ·rintro⟨_,A',cap',hv,_,ht,_⟩ h1
  exact⟨A',cap',hv,ht h1⟩
 ·intro ht
  have ht':t=true→cap=n:=fun h1=>by
   obtain⟨A',cap',hv,hc⟩:=ht h1
   simp at hv;omega
  rcases hr with hr | ⟨kk,oo,rfl,hr⟩
  ·have:n=0:=by omega
   subst this
   exact⟨by simp,A,cap,rfl,hcap,ht',.inl rfl⟩
  ·rcases hr with hr | ⟨r1,r2,r3⟩
   ·simp[hd] at hr
   ·rcases S.blk b y hb hd hmp with⟨hn,_⟩ | ⟨k',o',cs,ty,fr,hβ',g1,g2,g3,g4,g5,g6⟩
    ·rw[r1] at hn;simp at hn
    ·rw[r1] at hβ';simp at hβ';obtain⟨rfl,rfl⟩:=hβ'
     refine⟨by simp;omega,_,cap,rfl,hcap,ht',.inr ⟨_,rfl,hJ _ _ r1,?_⟩⟩
     have:=((g4.1 hp).drop off).take (n*y.sz)
     refine RepCs.keep (fun k hk=>hsub _ k hk) (fun _ _=>rfl) (fun j=>?_) this
     rw[Addr.add_mid,D1 g1,Nat.add_assoc]
theorem iQ {b off n:Nat} {y:Blk} {v:Value} (hb:Ac h b=some y) (hr:Rep J β h w (.own b off n) v):y.mp=false:=by
 rw[Rep] at hr
 obtain⟨x,A,cap,⟨hx1,hmp⟩,_⟩:=hr
 rw[hb] at hx1;simp at hx1;subst hx1;exact hmp
theorem pB {b off:Nat} {y:Blk} {v:Value} (hb:Ac h b=some y) (hr:Rep J β h w (.optr b off) v):y.mp=false:=by
 rw[Rep] at hr
 obtain⟨x,k,o,⟨hx1,hmp⟩,_⟩:=hr
 rw[hb] at hx1;simp at hx1;subst hx1;exact hmp
theorem X7 {v v':AV} {ups:Bo} {org:Bool} {vc:Value} (S:SimH J β h w) (hl:LooksS g h) (hh:CJ g v=some (v',ups,org)) (hv:Rep J β h w v vc) :
    ∃ J',Step J β h w J' β (Ab ups h) w∧RepC (J' org) w v' vc∧LooksS g (Ab ups h):=by
  unfold CJ at hh
  split at hh
  · rename_i b off n
    obtain⟨x,hx,h1⟩:=ub hh
    obtain⟨hp,h2⟩:=uc h1
    simp at h2
    obtain⟨rfl,rfl,rfl⟩:=h2
    unfold B9 at hx
    obtain⟨x0,hx0,hx⟩:=ub hx
    obtain⟨hd,hx⟩:=iO hx
    simp at hx;subst hx
    obtain⟨y,hy,hxy⟩:=hl b _ hx0
    have e1:y.cells=x0.cells:=by have:=congrArg Blk.cells hxy;simpa using this
    have e2:y.sz=x0.sz:=by have:=congrArg Blk.sz hxy;simpa using this
    have e3:y.taint=x0.taint:=by have:=congrArg Blk.taint hxy;simpa using this
    have e4:y.dead=x0.dead:=by have:=congrArg Blk.dead hxy;simpa using this
    have e5:y.pure=x0.pure:=by have:=congrArg Blk.pure hxy;simpa using this
    have A:=Step.shutB S hy (by rw[e4];exact hd) (iQ hy hv)
    refine⟨_,by simp only[Ab];rw[←hxy];exact A,?_,by simp only[Ab];exact hl.shutB hx0⟩
    have:=(k9 (J':=fun o k=>J o k∨∃ o',β b=some (k,o')∧(y.taint=true→o=true)) S hy (by rw[e4];exact hd) (by rw[e5];exact hp) hv (fun k o hβ=>.inr ⟨o,hβ,id⟩) (fun o k hj=>.inl hj) false x0.taint).2 (by simp)
    rw[e1,e2,e3] at this
    rw[e3]
    exact this
  all_goals first
    | (simp at hh;done)
    | (simp at hh; obtain ⟨rfl, rfl, rfl⟩ := hh
       refine⟨J,Step.refl S,?_,hl⟩
       first
         | (rw[Rep] at hv;exact hv)
         | skip)
  · cases v
    case imm=>rename_i hi _ _;exact absurd rfl (hi _ _ _ _ _)
    case iptr=>rename_i hi _;exact absurd rfl (hi _ _)
    case pagg=>rename_i hi;exact absurd rfl (hi _ _)
    all_goals first | (rw[Rep] at hv;rw[RepC];exact hv) | simp_all
theorem Jj:∀ {c c':LA} {ups:Bo} {org:Bool} {cs:List Value} {J:Bool→Nat→Prop} {h:Ag},SimH J β h w→LooksS g h→Oc g c=some (c',ups,org)→Reps J β h w c cs →
  ∃ J',Step J β h w J' β (Ab ups h) w∧RepCs (J' org) w c' (fun j=>cs[j]?) 0∧c'.length=cs.length∧LooksS g (Ab ups h)
 | [],c',ups,org,cs,J,h,S,hl,hh,hv=>by
  simp[Oc] at hh;obtain⟨rfl,rfl,rfl⟩:=hh
  rw[Reps] at hv;subst hv
  exact⟨J,Step.refl S,by simp[RepCs],rfl,hl⟩
 | v::r,c',ups,org,cs,J,h,S,hl,hh,hv=>by
  rw[Oc] at hh
  obtain⟨⟨v1,u1,o1⟩,hp,h1⟩:=ub hh
  obtain⟨⟨r2,u2,o2⟩,hq,h2⟩:=ub h1
  simp at h2
  obtain⟨rfl,rfl,rfl⟩:=h2
  rw[Reps] at hv
  obtain⟨u,us,rfl,hv1,hv2⟩:=hv
  obtain⟨J1,A,hA,hl1⟩:=X7 S hl hp hv1
  obtain⟨J2,B,hB,hlen,hl2⟩:=Jj A.sim hl1 hq (Reps.ext A.ext hv2)
  refine⟨J2,by rw[Bc];exact A.trans B (fun _ _ _ _=>Nat.le_refl _),?_,by simp[hlen],by rw[Bc];exact hl2⟩
  have mono:∀ {a b:Bool} (k:Nat),J2 a k→J2 (a||b) k:=fun {a b} k hk=>by
   cases a
   ·cases b
    ·exact hk
    ·exact B.sim.jft k hk
   ·exact hk
  have mono':∀ {a b:Bool} (k:Nat),J2 b k→J2 (a||b) k:=fun {a b} k hk=>by rw[Bool.or_comm];exact mono k hk
  rw[RepCs]
  refine⟨⟨u,by simp,?_⟩,?_⟩
  ·exact RepC.keep (J:=J1 o1) (fun k hk=>mono k (B.ext.jsub _ k hk)) (fun _ _=>rfl) hA
  ·have:=RepCs.keep (J':=J2 (o1||o2)) (w':=w) (fun k hk=>mono' k hk) (fun _ _=>rfl) (rd':=fun j=>us[j]?) (fun _=>rfl) hB
   rw[Ay] at this ⊢
   intro j x hj
   have h3:=this j x hj
   simp only[Nat.zero_add] at h3
   rw[show 1+j=j+1 by omega]
   simpa using h3
theorem V8 {v:AV} {c':LA} {ups:Bo} {org:Bool} {vc:Value} (S:SimH J β h w) (hl:LooksS g h) (hh:N2 g v=some (c',ups,org)) (hv:Rep J β h w v vc) :
  ∃ J',Step J β h w J' β (Ab ups h) w∧RepCs (J' org) w c' (fun j=>vc.cells.toList[j]?) 0∧c'.length=vc.cells.toList.length∧LooksS g (Ab ups h):=by
 unfold N2 at hh
 split at hh
 ·rename_i c org'
  simp at hh;obtain⟨rfl,rfl,rfl⟩:=hh
  rw[Rep] at hv
  obtain⟨cs,rfl,h1,h2⟩:=hv
  exact⟨J,Step.refl S,h2,by simp[Value.cells,h1],hl⟩
 ·rename_i c
  rw[Rep] at hv
  obtain⟨cs,rfl,h2⟩:=hv
  exact Jj S hl hh h2
 ·rename_i v h1 h2
  obtain⟨J',A,hA,hlen,hl'⟩:=Jj (cs:=[vc]) S hl hh (by rw[Reps];exact⟨vc,[],rfl,hv,by rw[Reps]⟩)
  have h3:vc.oneCell'=true:=by
   have hl1:c'.length=1:=hlen
   cases hc:c' with
   | nil=>simp[hc] at hl1
   | cons x r =>
    obtain⟨u,hu,hr⟩:=hA.at (j:=0) (x:=x) (by simp[hc])
    simp at hu;subst hu
    exact GL hr
  have h4:vc.cells=#[vc]:=by cases vc<;>simp_all[Value.cells,Value.oneCell']
  rw[h4]
  exact⟨J',A,hA,hlen,hl'⟩
end
end Gx

namespace Gx
open Go
section
variable {J J':Bool→Nat→Prop} {β β':Aw} {h h':Ag} {w w':World}
theorem NestIs.upd {J:Nat→Prop} {k o o' i:Nat} {x x':Blk} {e':bn} {c':AV} (hN:NestIs J w k o x) (hJ:M0 J w w') (hi:i<x.cells.length) (hx':x'.cells=x.cells.set i c') (hz:x'.sz=x.sz) (ht:x'.taint=x.taint)
  (ho:dec o'=(dec o).set i e')
  (hrow:∀ cs ty fr,w.heap[k]?=some (.cells cs ty fr)→∃ cs',w'.heap[k]?=some (.cells cs' ty fr)∧cs'.size=cs.size∧(∀ j,j≠i→cs'[j]?=cs[j]?)∧(cs[i]?=some (P3 (x.sz - 2) ((dec o)[i]?.getD none))→cs'[i]?=some (P3 (x.sz - 2) e')))
  (hoth:∀ (i' j a n c:Nat),i'≠i→(dec o)[i']?=some (some (true,j,a,n,c))→w'.heap[j]?=w.heap[j]?) (hI:InnerIs J w' (x.sz - 2) e' c')
  (hu:∀ (j a n c:Nat),e'=some (true,j,a,n,c)→j≠k∧∀ (i' a' n' c':Nat),i'≠i→(dec o)[i']?≠some (some (true,j,a',n',c'))):NestIs J w' k o' x':=by
 obtain⟨h1,cs,ty,fr,h2,h3,h4,h5,h6,h7⟩:=hN
 obtain⟨cs',g1,g2,g3,g4⟩:=hrow cs ty fr h2
 refine⟨by rw[ht];exact h1,cs',ty,fr,g1,by rw[g2];exact h3,by rw[g2,h4,hx',List.length_set],by rw[ho,hx',List.length_set,List.length_set];exact h5,fun j e he=>?_,fun i1 j a n c he=>?_⟩
 ·rw[hz]
  by_cases hj:j=i
  ·subst hj
   rw[ho,List.getElem?_set_self (by omega)] at he
   simp at he;subst he
   obtain⟨e0,he0⟩:∃ e,(dec o)[j]?=some e:=⟨_,List.getElem?_eq_getElem (by omega)⟩
   obtain⟨c0,_,hv,_⟩:=h6 j e0 he0
   refine⟨c',by rw[hx',List.getElem?_set_self hi],g4 ?_,hI⟩
   rw[he0];exact hv
  ·rw[ho,List.getElem?_set_ne (Ne.symm hj)] at he
   obtain⟨c,f1,f2,f3⟩:=h6 j e he
   exact⟨c,by rw[hx',List.getElem?_set_ne (Ne.symm hj)];exact f1,by rw[g3 j hj];exact f2,f3.keep (fun _ h=>h) hJ (fun k2 a n cap e2=>hoth j k2 a n cap hj (by rw[he,e2]))⟩
 ·by_cases hj:i1=i
  ·subst hj
   rw[ho,List.getElem?_set_self (by omega)] at he
   simp at he
   obtain⟨f1,f2⟩:=hu j a n c he
   refine⟨f1,fun i2 a' n' c'' he2=>?_⟩
   by_cases hj2:i2=i1
   ·exact hj2
   ·rw[ho,List.getElem?_set_ne (Ne.symm hj2)] at he2
    exact absurd he2 (f2 i2 a' n' c'' hj2)
  ·rw[ho,List.getElem?_set_ne (Ne.symm hj)] at he
   obtain⟨f1,f2⟩:=h7 i1 j a n c he
   refine⟨f1,fun i2 a' n' c'' he2=>?_⟩
   by_cases hj2:i2=i
   ·subst hj2
    rw[ho,List.getElem?_set_self (by omega)] at he2
    simp at he2
    exact absurd he ((hu j a' n' c'' he2).2 i1 a n c hj)
   ·rw[ho,List.getElem?_set_ne (Ne.symm hj2)] at he2
    exact f2 i2 a' n' c'' he2
theorem B5 {b c:Nat} {x y:Blk} (h:Ac [(b,x)] c=some y):c=b∧y=x:=by
 rw[Ac] at h
 cases hb:Nat.beq b c with
 | true=>rw[hb] at h;simp at h;exact⟨(Nat.eq_of_beq_eq_true hb).symm,h.symm⟩
 | false=>rw[hb] at h;simp[Ac] at h
theorem F0 {b:Nat} {x:Blk}:Ac [(b,x)] b=some x:=by simp[Ac]
theorem SimH.one (S:SimH J β h w) (hk:∀ o,M0 (J o) w w') (hs:w.heap.size≤w'.heap.size) {b:Nat} {x:Blk} {β1:Aw} (hm:x.mp=true) (M:MapRep J β1 w' b x):SimH J β1 [(b,x)] w':=by
 refine⟨fun o k hj=>Nat.lt_of_lt_of_le (S.jlt o k hj) hs,S.jft,S.gl.to (fun _ h=>h) (hk false),fun c y hy _ hmy=>?_,fun c y hy _ _=>?_,fun c c' y y' j hy hy' _ _ _ _ _=>?_⟩
 ·obtain⟨rfl,rfl⟩:=B5 hy;rw[hm] at hmy;cases hmy
 ·obtain⟨rfl,rfl⟩:=B5 hy;exact M
 ·rw[(B5 hy).1,(B5 hy').1]
theorem Step.row (S:SimH J β h w) {b:Nat} {x x':Blk} {k o o':Nat} {H:Ag} {ids:List Nat} (hb:Ac h b=some x) (hd:x.dead=false) (hn:An x=true) (hβ:β b=some (k,o))
  (hd':x'.dead=false) (hs':x'.sealed=false) (hp':x'.pure=true) (hm':x'.mp=true) (hz:x'.sz=x.sz) (hl:x'.cells.length=x.cells.length) (hg:x.gen≤x'.gen) (hgo:x'.gen=x.gen→(dec o').map (P3 (x.sz - 2))=(dec o).map (P3 (x.sz - 2))∧x.pend≤x'.pend∧(x'.pend=x.pend→o'=o))
  (hids:b ∈ ids) (hH:∀ c,c ∉ ids→Ac H c=Ac h c) (hHb:Ac H b=some x') (hHd:∀ c z,c ∈ ids→c≠b→Ac H c=some z→z.dead=true)
  (hHd':∀ c z,c ∈ ids→c≠b→Ac h c=some z→∃ z',(Ac H c=some z'∧z'.mp=z.mp)∧z'.dead=true)
  (hN:NestIs (J false) w' k o' x')
  (hT:∀ j,Terr (fun c=>if c=b then some (k,o') else β c) b x' j→CO β h ids j)
  (os:w'.os=w.os) (tape:w'.tape=w.tape) (output:w'.output=w.output) (size:w'.heap.size=w.heap.size)
  (frame:∀ j,¬ CO β h ids j→w'.heap[j]?=w.heap[j]?) (sizes:∀ j,Am w j≤Am w' j) :
  ∃ J' β',Step J β h w J' β' H w'∧β' b=some (k,o'):=by
 have unM:∀ j,CO β h ids j→∀ g,¬ J g j:=by
  rintro j ⟨c,y,_,hy,hdy,hsy,ht⟩
  exact S.unT hy hdy hsy ht
 have kJ:∀ g,M0 (J g) w w':=fun g j hj=>frame j (fun hm=>unM j hm g hj)
 have hn':An x'=true:=by rw[Ey (by rw[hm'];unfold An at hn;simp at hn;exact hn.1.symm) hz];exact hn
 have M:MapRep J (fun c=>if c=b then some (k,o') else β c) w' b x':=⟨hp',hs',fun j ht=>unM j (hT j ht),.inr ⟨k,o',hn',by simp,hN⟩⟩
 have S1:=SimH.one S kJ (by rw[size];exact Nat.le_refl _) hm' M
 have hxm:x.mp=true:=by unfold An at hn;simp at hn;exact hn.1
 have A:=Step.merge (J1:=J) (H:=H) (D:=ids) (ids:=ids) S S1 hH
  (fun c z hc hz hdz=>by
   by_cases e:c=b
   ·subst e;rw[hHb] at hz;simp at hz;subst hz;exact⟨x',F0,Bumped.rfl⟩
   ·have:=hHd c z hc e hz;rw[hdz] at this;cases this)
  (fun c y hy=>by
   obtain⟨rfl,rfl⟩:=B5 hy
   exact⟨hids,_,hHb,Bumped.rfl⟩)
  (fun c z hc hni=>absurd hc hni)
  (fun c z hc hz'=>by
   by_cases e:c=b
   ·subst e
    rw[hb] at hz';simp at hz';subst hz'
    refine⟨x',⟨hHb,by rw[hm',hxm]⟩,.inr ⟨hd,⟨fun hh=>(by rw[hn] at hh;cases hh),fun _=>⟨by simp[hβ],hg,fun e=>⟨fun k1 o1 k2 o2 q1 q2=>by rw[hβ] at q1;simp at q1 q2;rw[←q1.2,←q2.2];exact(hgo e).1,(hgo e).2.1,fun e2=>by simp[(hgo e).2.2 e2,hβ]⟩,hl⟩⟩,hz,fun hh=>by rw[hxm] at hh;cases hh⟩⟩
   ·obtain⟨z',h1,h2⟩:=hHd' c z hc e hz'
    exact⟨z',h1,.inl h2⟩)
  (fun c hc=>hc) os tape output (by rw[size];exact Nat.le_refl _) (fun j _ hm=>frame j hm)
  (fun j hm _=>by
   obtain⟨c,y,hy,_,_,ht⟩:=hm
   obtain⟨rfl,rfl⟩:=B5 hy
   exact hT j ht)
  (fun _ _ hj=>.inl hj) sizes
 exact⟨_,_,A.1,by simp[hids]⟩
theorem pW {A:(Bool→Nat→Prop)→Aw→Prop} {B:Aw→Prop} (h:∃ J' β',A J' β'∧B β'):∃ J' β',A J' β':=by
 obtain⟨J',β',h,_⟩:=h;exact⟨J',β',h⟩
theorem Step.newRow (S:SimH J β h w) {d n s:Nat} {cs:Array Value} {ty:TypeId} (hn:Ac h d=none) (hcs:cs.size=n) (hc:∀ i,i<n→cs[i]?=some (P3 s none)) :
  ∃ β',Step J β h w (fun o k=>J o k∨J o k) β' (Cb h d { dead:=false,sealed:=false,pure:=true,taint:=false,sz:=s+2,cells:=List.replicate n .nsl,mp:=true }) (w.alloc (.cells cs ty (0,0)))∧β' d=some (w.heap.size,enc (List.replicate n none)):=by
 generalize hx:({ dead:=false,sealed:=false,pure:=true,taint:=false,sz:=s+2,cells:=List.replicate n .nsl,mp:=true }:Blk)=x
 have x1:x.dead=false:=by rw[←hx]
 have x2:x.cells=List.replicate n .nsl:=by rw[←hx]
 have x3:x.sz=s+2:=by rw[←hx]
 have x4:An x=true:=by rw[←hx];simp[An]
 have x5:x.mp=true:=by rw[←hx]
 have x6:x.taint=false:=by rw[←hx]
 have x7:x.pure=true:=by rw[←hx]
 have x8:x.sealed=false:=by rw[←hx]
 have kJ:∀ g,M0 (J g) w (w.alloc (.cells cs ty (0,0))):=fun g j hj=>A5 w _ (S.jlt g j hj)
 have hnew:(w.alloc (.cells cs ty (0,0))).heap[w.heap.size]?=some (.cells cs ty (0,0)):=by show(w.heap.push _)[_]?=_;simp
 have hsz:(w.alloc (.cells cs ty (0,0))).heap.size=w.heap.size+1:=by show(w.heap.push _).size=_;simp
 have hT:∀ j,Terr (fun c=>if c=d then some (w.heap.size,enc (List.replicate n none)) else β c) d x j→j=w.heap.size:=by
  rintro j ⟨k,o,e1,e2⟩
  simp at e1;obtain⟨rfl,rfl⟩:=e1
  rcases e2 with e2 | ⟨_,i,a,n',c,e2⟩
  ·exact e2
  ·rw[H5] at e2
   have:=List.mem_of_getElem? e2
   have:=(List.mem_replicate.1 this).2
   cases this
 have M:MapRep J (fun c=>if c=d then some (w.heap.size,enc (List.replicate n none)) else β c) (w.alloc (.cells cs ty (0,0))) d x:=by
  refine⟨x7,x8,fun j ht g hj=>?_,.inr ⟨w.heap.size,enc (List.replicate n none),x4,by simp,x6,cs,ty,(0,0),hnew,.inl rfl,by rw[hcs,x2,List.length_replicate],by rw[H5,x2,List.length_replicate,List.length_replicate],fun i e he=>?_,fun i j a n' c he=>?_⟩⟩
  ·have:=S.jlt g j hj;have:=hT j ht;omega
  ·rw[H5] at he
   obtain⟨h1,h2⟩:=List.getElem?_eq_some_iff.1 he
   rw[List.getElem_replicate] at h2;subst h2
   rw[List.length_replicate] at h1
   refine⟨.nsl,by rw[x2];simp[h1],by rw[x3,show s+2 - 2=s by omega];exact hc i h1,.inl rfl⟩
  ·rw[H5] at he
   have:=(List.mem_replicate.1 (List.mem_of_getElem? he)).2
   cases this
 have S1:=SimH.one S kJ (by omega) x5 M
 have A:=Step.merge (J1:=J) (H:=Cb h d x) (D:=[d]) (ids:=[]) S S1 (fun c hc=>by rw[Aa,if_neg (by simpa using hc)])
  (fun c z hc hz hdz=>by
   simp at hc;subst hc
   rw[Aa,if_pos rfl] at hz;simp at hz;subst hz;exact⟨x,F0,Bumped.rfl⟩)
  (fun c y hy=>by
   obtain⟨rfl,rfl⟩:=B5 hy
   exact⟨by simp,_,by rw[Aa,if_pos rfl],Bumped.rfl⟩)
  (fun c z hc _=>by simp at hc;subst hc;rw[hn];simp)
  (fun c z hc=>by simp at hc)
  (fun c hc=>by simp at hc) rfl rfl rfl (by omega) (fun j hj _=>A5 w _ hj)
  (fun j hm hj=>by
   obtain⟨c,y,hy,_,_,ht⟩:=hm
   obtain⟨rfl,rfl⟩:=B5 hy
   have:=hT j ht;omega)
  (fun _ _ hj=>.inl hj) (fun k=>by
   by_cases hk:k<w.heap.size
   ·simp[Am,A5 w _ hk]
   ·simp[Am,Array.getElem?_eq_none (Nat.le_of_not_lt hk)])
 exact⟨_,A.1,by simp⟩
theorem Step.freeze (S:SimH J β h w) {b:Nat} {x:Blk} (hb:Ac h b=some x) (hd:x.dead=false) (hs:x.sealed=false) {H:Ag} (hH:∀ c,c≠b→Ac H c=Ac h c) {x':Blk} (hHb:Ac H b=some x') (hd':x'.dead=true) (hm':x'.mp=x.mp) :
  ∃ β',Step J β h w (fun o k=>J o k∨(J o k∨Terr β b x k)) β' H w:=by
 have S1:SimH (fun o k=>J o k∨Terr β b x k) β [] w:=by
  refine⟨?_,?_,S.gl.to (fun _ hj=>.inl hj) (fun _ _=>rfl),fun c y hy=>by simp[Ac] at hy,fun c y hy=>by simp[Ac] at hy,fun c c' y y' j hy=>by simp[Ac] at hy⟩
  ·rintro o k (hj | ht)
   ·exact S.jlt o k hj
   ·exact H6 S hb hd ht
  ·rintro k (hj | ht)
   ·exact .inl (S.jft k hj)
   ·exact .inr ht
 have A:=Step.merge (J1:=J) (H:=H) (D:=[b]) (ids:=[b]) S S1 (fun c hc=>hH c (by simpa using hc))
  (fun c z hc hz hdz=>by
   simp at hc;subst hc
   rw[hHb] at hz;simp at hz;subst hz;rw[hd'] at hdz;cases hdz)
  (fun c y hy=>by simp[Ac] at hy)
  (fun c z hc hni=>absurd hc hni)
  (fun c z hc hz=>by
   simp at hc;subst hc
   rw[hb] at hz;simp at hz;subst hz
   exact⟨x',⟨hHb,hm'⟩,.inl hd'⟩)
  (fun c hc=>hc) rfl rfl rfl (Nat.le_refl _) (fun _ _ _=>rfl)
  (fun j hm _=>by obtain⟨c,y,hy,_⟩:=hm;simp[Ac] at hy)
  (fun o k hj=>by
   rcases hj with hj | hj
   ·exact .inl hj
   ·exact .inr (.inl ⟨b,x,by simp,hb,hd,hs,hj⟩))
  (fun _=>Nat.le_refl _)
 exact⟨_,A.1⟩
theorem Step.inner (S:SimH J β h w) {b i kk a n cap k o:Nat} {x:Blk} {c':AV} (hb:Ac h b=some x) (hd:x.dead=false) (hn:An x=true) (hβ:β b=some (k,o)) (he:(dec o)[i]?=some (some (true,kk,a,n,cap)))
  (other:∀ j,j≠kk→w'.heap[j]?=w.heap[j]?) (size:w'.heap.size=w.heap.size) (os:w'.os=w.os) (tape:w'.tape=w.tape) (output:w'.output=w.output) (hsz:Am w kk≤Am w' kk)
  (hI:InnerIs (J false) w' (x.sz - 2) (some (true,kk,a,n,cap)) c'):∃ J' β',Step J β h w J' β' (Cb h b { x with cells:=x.cells.set i c' }) w':=by
 obtain⟨k0,o0,h1,hN,hp,hs,hm,hJ⟩:=Ji S hb hd hn
 rw[hβ] at h1;simp at h1;obtain⟨rfl,rfl⟩:=h1
 have hN':=hN
 obtain⟨_,cs,ty,fr,hk,_,_,hdl,_,huq⟩:=hN'
 have hk1:=(huq i kk a n cap he).1
 have hTk:Terr β b x kk:=⟨k,o,hβ,.inr ⟨hn,i,a,n,cap,he⟩⟩
 have hlt:=(List.getElem?_eq_some_iff.1 he).1
 have hrow:w'.heap[k]?=w.heap[k]?:=other k (fun e=>hk1 e.symm)
 have hset:dec o=(dec o).set i (some (true,kk,a,n,cap)):=by
  apply List.ext_getElem?
  intro j
  by_cases e:j=i
  ·subst e;rw[List.getElem?_set_self hlt,he]
  ·rw[List.getElem?_set_ne (Ne.symm e)]
 refine pW (B:=fun β'=>β' b=some (k,o)) (Step.row (x':={ x with cells:=x.cells.set i c' }) (o':=o) (ids:=[b]) S hb hd hn hβ hd hs hp hm rfl (by simp) (Nat.le_refl _) (fun _=>⟨rfl,Nat.le_refl _,fun _=>rfl⟩) (by simp) (fun c hc=>by rw[Aa,if_neg (by simpa using hc)]) (by rw[Aa,if_pos rfl])
  (fun c z hc hne _=>absurd (by simpa using hc) hne) (fun c z hc hne _=>absurd (by simpa using hc) hne)
  (hN.upd (fun j hj=>other j (fun e=>by subst e;exact hJ _ hTk _ hj)) (by omega) rfl rfl rfl hset (fun cs1 ty1 fr1 h2=>⟨cs1,by rw[hrow];exact h2,rfl,fun _ _=>rfl,fun h3=>by rw[he] at h3;exact h3⟩)
   (fun i' j a' n' c2 hne he'=>other j (fun e=>by subst e;exact hne ((huq i j a n cap he).2 i' a' n' c2 he'))) hI
   (fun j a' n' c2 e=>by
    simp at e;obtain⟨rfl,rfl,rfl,rfl⟩:=e
    exact⟨hk1,fun i' a2 n2 c3 hne he'=>hne ((huq i kk a n cap he).2 i' a2 n2 c3 he')⟩))
  (fun j ht=>⟨b,x,by simp,hb,hd,hs,ht.to (by simp[hβ]) rfl⟩) os tape output size (fun j hm=>other j (fun e=>by subst e;exact hm ⟨b,x,by simp,hb,hd,hs,hTk⟩)) (fun j=>by
   by_cases e:j=kk
   ·subst e;exact hsz
   ·simp[Am,other j e]))
theorem Step.innerP (S:SimH J β h w) {b i kk a a' n cap k o:Nat} {x:Blk} {c':AV} (hb:Ac h b=some x) (hd:x.dead=false) (hn:An x=true) (hz2:x.sz=2) (hβ:β b=some (k,o)) (he:(dec o)[i]?=some (some (true,kk,a,n,cap)))
  (other:∀ j,j≠kk→w'.heap[j]?=w.heap[j]?) (size:w'.heap.size=w.heap.size) (os:w'.os=w.os) (tape:w'.tape=w.tape) (output:w'.output=w.output) (hsz:Am w kk≤Am w' kk)
  (hI:InnerIs (J false) w' (x.sz - 2) (some (true,kk,a',n,cap)) c'):∃ J' β',Step J β h w J' β' (Cb h b { x with cells:=x.cells.set i c',pend:=x.pend+1 }) w'∧β' b=some (k,enc ((dec o).set i (some (true,kk,a',n,cap)))):=by
 obtain⟨k0,o0,h1,hN,hp,hs,hm,hJ⟩:=Ji S hb hd hn
 rw[hβ] at h1;simp at h1;obtain⟨rfl,rfl⟩:=h1
 have hN':=hN
 obtain⟨_,cs,ty,fr,hk,_,_,hdl,_,huq⟩:=hN'
 have hk1:=(huq i kk a n cap he).1
 have hTk:Terr β b x kk:=⟨k,o,hβ,.inr ⟨hn,i,a,n,cap,he⟩⟩
 have hlt:=(List.getElem?_eq_some_iff.1 he).1
 have hrow:w'.heap[k]?=w.heap[k]?:=other k (fun e=>hk1 e.symm)
 have hmap:((dec o).set i (some (true,kk,a',n,cap))).map (P3 (x.sz - 2))=(dec o).map (P3 (x.sz - 2)):=by
  rw[hz2]
  apply List.ext_getElem?
  intro j
  rw[List.getElem?_map,List.getElem?_map]
  by_cases e:j=i
  ·subst e;rw[List.getElem?_set_self hlt,he];rfl
  ·rw[List.getElem?_set_ne (Ne.symm e)]
 refine Step.row (x':={ x with cells:=x.cells.set i c',pend:=x.pend+1 }) (ids:=[b]) S hb hd hn hβ hd hs hp hm rfl (by simp) (Nat.le_refl _) (fun _=>⟨by rw[H5];exact hmap,Nat.le_succ _,fun e=>absurd e (by simp)⟩) (by simp) (fun c hc=>by rw[Aa,if_neg (by simpa using hc)]) (by rw[Aa,if_pos rfl])
  (fun c z hc hne _=>absurd (by simpa using hc) hne) (fun c z hc hne _=>absurd (by simpa using hc) hne)
  (hN.upd (fun j hj=>other j (fun e=>by subst e;exact hJ _ hTk _ hj)) (by omega) rfl rfl rfl (H5 _) (fun cs1 ty1 fr1 h2=>⟨cs1,by rw[hrow];exact h2,rfl,fun _ _=>rfl,fun h3=>by rw[he] at h3;rw[hz2] at h3 ⊢;exact h3⟩)
   (fun i' j a' n' c2 hne he'=>other j (fun e=>by subst e;exact hne ((huq i j a n cap he).2 i' a' n' c2 he'))) hI
   (fun j a' n' c2 e=>by
    simp at e;obtain⟨rfl,rfl,rfl,rfl⟩:=e
    exact⟨hk1,fun i' a2 n2 c3 hne he'=>hne ((huq i kk a n cap he).2 i' a2 n2 c3 he')⟩))
  (fun j ht=>by
   obtain⟨k1,o1,e1,e2⟩:=ht
   simp at e1;obtain⟨rfl,rfl⟩:=e1
   refine⟨b,x,by simp,hb,hd,hs,?_⟩
   rcases e2 with rfl | ⟨_,i',a',n',c2,e2⟩
   ·exact Terr.at hβ
   ·rw[H5] at e2
    by_cases e:i'=i
    ·subst e
     rw[List.getElem?_set_self hlt] at e2
     simp at e2;obtain⟨rfl,_⟩:=e2
     exact hTk
    ·rw[List.getElem?_set_ne (Ne.symm e)] at e2
     exact⟨_,o,hβ,.inr ⟨hn,i',a',n',c2,e2⟩⟩) os tape output size (fun j hm=>other j (fun e=>by subst e;exact hm ⟨b,x,by simp,hb,hd,hs,hTk⟩)) (fun j=>by
   by_cases e:j=kk
   ·subst e;exact hsz
   ·simp[Am,other j e])
theorem Step.put (S:SimH J β h w) {b d i kk a n cap k o:Nat} {x y:Blk} {c':AV} (hb:Ac h b=some x) (hd:x.dead=false) (hn:An x=true) (hβ:β b=some (k,o)) (hi:i<x.cells.length)
  (hy:Ac h d=some y) (hyd:y.dead=false) (hys:y.sealed=false) (hne:d≠b) (ht:Terr β d y kk) (hI:InnerIs (J false) w (x.sz - 2) (some (true,kk,a,n,cap)) c') {u:Value} (hu:u=P3 (x.sz - 2) (some (true,kk,a,n,cap))) :
  ∃ J' β',Step J β h w J' β' (Ab [(b,some { x with cells:=x.cells.set i c',gen:=x.gen+1 }),(d,none)] h) (w.setCells k i [u]):=by
 obtain⟨k0,o0,h1,hN,hp,hs,hm,hJ⟩:=Ji S hb hd hn
 rw[hβ] at h1;simp at h1;obtain⟨rfl,rfl⟩:=h1
 have hN':=hN
 obtain⟨_,cs,ty,fr,hk,_,hcl,hdl,_,huq⟩:=hN'
 have hkk:kk≠k:=fun e=>by subst e;exact hne (S.sepT b d x y kk hb hy hd hyd hs (Terr.at hβ) ht).symm
 obtain⟨cs',O,hO⟩:=OnlyBlk.setCells (k:=k) [u] i w cs hk
 have hnot:∀ (i' a' n' c2:Nat),(dec o)[i']?≠some (some (true,kk,a',n',c2)):=fun i' a' n' c2 he=>hne (S.sepT b d x y kk hb hy hd hyd hs ⟨k,o,hβ,.inr ⟨hn,i',a',n',c2,he⟩⟩ ht).symm
 have hJk:M0 (J false) w (w.setCells k i [u]):=fun j hj=>O.other j (fun e=>by subst e;exact hJ _ (Terr.at hβ) _ hj)
 have hH:∀ c,Ac (Ab [(b,some { x with cells:=x.cells.set i c',gen:=x.gen+1 }),(d,none)] h) c=if c=d then some { y with dead:=true,pure:=true,cells:=[] } else if c=b then some { x with cells:=x.cells.set i c',gen:=x.gen+1 } else Ac h c:=by
  intro c
  simp only[Ab]
  rw[Aa,if_neg hne,hy]
  simp only
  rw[Aa,Aa]
 refine pW (B:=fun β'=>β' b=some (k,enc ((dec o).set i (some (true,kk,a,n,cap))))) (Step.row (x':={ x with cells:=x.cells.set i c',gen:=x.gen+1 }) (o':=enc ((dec o).set i (some (true,kk,a,n,cap)))) (ids:=[b,d]) S hb hd hn hβ hd hs hp hm rfl (by simp) (Nat.le_succ _) (fun e=>absurd e (by simp)) (by simp)
  (fun c hc=>by rw[hH,if_neg (fun e=>hc (by simp[e])),if_neg (fun e=>hc (by simp[e]))]) (by rw[hH,if_neg (Ne.symm hne),if_pos rfl])
  (fun c z hc hcb hz=>by
   have:c=d:=by simpa[hcb] using hc
   subst this
   rw[hH,if_pos rfl] at hz;simp at hz;subst hz;rfl)
  (fun c z hc hcb hz=>by
   have:c=d:=by simpa[hcb] using hc
   subst this
   rw[hy] at hz;simp at hz
   exact⟨{ y with dead:=true,pure:=true,cells:=[] },⟨by rw[hH,if_pos rfl],by rw[←hz]⟩,rfl⟩)
  (hN.upd hJk hi rfl rfl rfl (H5 _) (fun cs1 ty1 fr1 h2=>by
    rw[hk] at h2;simp at h2;obtain⟨rfl,rfl,rfl⟩:=h2
    refine⟨cs',O.new,O.sz,fun j hj=>?_,fun _=>?_⟩
    ·rw[hO,if_neg (by simp;omega)]
    ·rw[hO,if_pos (by simp;omega)];simp[hu])
   (fun i' j a' n' c2 _ he'=>O.other j (huq i' j a' n' c2 he').1) (hI.keep (fun _ h=>h) hJk (fun k2 a2 n2 c2 e=>by simp at e;obtain⟨rfl,_⟩:=e;exact O.other _ hkk))
   (fun j a' n' c2 e=>by
    simp at e;obtain⟨rfl,rfl,rfl,rfl⟩:=e
    exact⟨hkk,fun i' a2 n2 c3 _=>hnot i' a2 n2 c3⟩))
  (fun j hj=>by
   obtain⟨k1,o1,e1,e2⟩:=hj
   simp at e1;obtain⟨rfl,rfl⟩:=e1
   rcases e2 with rfl | ⟨_,i',a',n',c2,e2⟩
   ·exact⟨b,x,by simp,hb,hd,hs,Terr.at hβ⟩
   ·rw[H5] at e2
    by_cases e:i'=i
    ·subst e
     rw[List.getElem?_set_self (by omega)] at e2
     simp at e2;obtain⟨rfl,_⟩:=e2
     exact⟨d,y,by simp,hy,hyd,hys,ht⟩
    ·rw[List.getElem?_set_ne (Ne.symm e)] at e2
     exact⟨b,x,by simp,hb,hd,hs,⟨_,o,hβ,.inr ⟨hn,i',a',n',c2,e2⟩⟩⟩) O.os O.tape O.output O.size
  (fun j hm=>O.other j (fun e=>by subst e;exact hm ⟨b,x,by simp,hb,hd,hs,Terr.at hβ⟩)) (fun j=>by
   by_cases e:j=k
   ·subst e;rw[A0 O.old,A0 O.new,O.sz];exact Nat.le_refl _
   ·simp[Am,O.other j e]))
end
end Gx

namespace Gx
open Go
theorem A3:∀ (ups:Bo) (h:Ag) (b:Nat),Ao ups b=false→Ac (Ab ups h) b=Ac h b
 | [],_,_,_=>rfl
 | (i,some x)::r,h,b,hi=>by
  rw[Ao] at hi
  cases hb:Nat.beq i b with
  | true=>rw[hb] at hi;simp at hi
  | false =>
   rw[hb] at hi
   rw[Ab,A3 r _ b hi,Aa,if_neg (fun e=>Hl hb e.symm)]
 | (i,none)::r,h,b,hi=>by
  rw[Ao] at hi
  cases hb:Nat.beq i b with
  | true=>rw[hb] at hi;simp at hi
  | false =>
   rw[hb] at hi
   rw[Ab,A3 r _ b hi]
   split
   ·rw[Aa,if_neg (fun e=>Hl hb e.symm)]
   ·rfl
theorem Uu {c vs:LA} {off:Nat} (hle:off+vs.length≤c.length) (j:Nat):(Hp c off vs)[j]?=if off≤j∧j<off+vs.length then vs[j - off]? else c[j]?:=by
 unfold Hp
 rw[List.append_assoc,List.getElem?_append]
 simp only[List.length_take,Nat.min_eq_left (show off≤c.length by omega)]
 by_cases h1:j<off
 ·rw[if_pos h1,if_neg (by omega),List.getElem?_take,if_pos h1]
 ·rw[if_neg h1,List.getElem?_append]
  by_cases h2:j - off<vs.length
  ·rw[if_pos h2,if_pos (by omega)]
  ·rw[if_neg h2,if_neg (by omega),List.getElem?_drop];congr 1;omega
theorem Lh {c vs:LA} {off:Nat} (hle:off+vs.length≤c.length):(Hp c off vs).length=c.length:=by
 unfold Hp;simp;omega
theorem Uv {c vs:LA} {off:Nat} (hle:off+vs.length≤c.length) (j:Nat):(setCells c off vs)[j]?=if off≤j∧j<off+vs.length then vs[j - off]? else c[j]?:=by
 unfold setCells
 split
 ·rename_i y
  simp at hle
  rw[List.getElem?_set]
  by_cases e:off=j
  ·subst e;simp;omega
  ·rw[if_neg e,if_neg (by simp;omega)]
 ·exact Uu hle j
theorem H7 {c vs:LA} {off:Nat} (hle:off+vs.length≤c.length):(setCells c off vs).length=c.length:=by
 unfold setCells
 split
 ·simp
 ·exact Lh hle
section
variable {R:Type} {r:R} {P:Program} {J J':Bool→Nat→Prop} {β:Aw} {h:Ag} {w w':World} {g:Ar}
theorem Hb {v:AV} {vc:Value} (hs:Sh g v=true) (hv:Rep J β h w v vc):vc.oneCell'=true:=by
 cases v<;>simp[Sh] at hs
 case own=>rw[Rep] at hv;obtain⟨x,A,cap,_,rfl,_⟩:=hv;rfl
 case optr=>rw[Rep] at hv;obtain⟨x,k,o,_,rfl,_⟩:=hv;rfl
 case fn=>rw[Rep] at hv;obtain⟨cs,rfl,_⟩:=hv;rfl
 case imm=>rw[Rep,RepC] at hv;obtain⟨_,A,cap,rfl,_⟩:=hv;rfl
 case iptr=>rw[Rep,RepC] at hv;obtain⟨a,rfl,_⟩:=hv;rfl
 all_goals (rw[Rep] at hv;subst hv;rfl)
theorem Nk:∀ {c:LA},G8 g c=true→∀ (j:Nat) (x:AV),c[j]?=some x→Sh g x=true
 | [],_,j,x,hj=>by simp at hj
 | v::r,hs,j,x,hj=>by
  rw[G8] at hs;simp at hs
  cases j with
  | zero=>simp at hj;subst hj;exact hs.1
  | succ j=>exact Nk hs.2 j x (by simpa using hj)
theorem iR {k:Nat} {cs cs':Array Value} {ty:TypeId} {fr:Nat×Nat} (O:OnlyBlk w w' k cs cs' ty fr):∀ j,Am w j≤Am w' j:=fun j=>by
 by_cases e:j=k
 ·subst e;rw[A0 O.old,A0 O.new,O.sz];exact Nat.le_refl _
 ·simp[Am,O.other j e]
theorem Iw {t:TypeId} {k o:Nat} {vc:Value} {cs:Array Value} {ty:TypeId} {fr:Nat×Nat} (hk:w.heap[k]?=some (.cells cs ty fr)) (hf:FrOk cs.size fr)
  (hs:Az P t=some vc.cells.toList.length) (hle:o+vc.cells.toList.length≤cs.size) (h1:∀ u ∈ vc.cells.toList,u.oneCell'=true) :
  (Instr.storeAt t (.pointer (some ⟨k,o,none⟩)) vc).run P w=.ok () (w.setCells k o vc.cells.toList):=by
 have hst:=run_storeCells_cells (P:=P) k o vc.cells.toList 0 w (fun j hj=>by
   rw[Nat.add_zero,D1 hk];simp;omega)
  (fun j hj=>by
   rw[Nat.add_zero];simp only[World.frozen?,hk]
   have:=hf.at (o+j) (by omega)
   cases fr;simp at this ⊢;omega) h1
 simp only[Nat.add_zero] at hst
 have hsz:=Bp hs w
 simp only[Array.length_toList] at hsz
 simp[Instr.storeAt,Instr.sureAddr,storeVar,hsz,hst]
theorem dL {t:TypeId} {b:Nat} {q:NV} {x:Blk} {v:AV} {vp vv:Value} {k:AV→Bo→O R} (S:SimH J β h w) (hl:Looks g h) (hb:Ac h b=some x) (hd:x.dead=false) (hn:An x=true)
  (hh:J_ P g t b x q v k=some r) (hp:Rep J β h w (.nd b q) vp) (hv:Rep J β h w v vv) :
  ∃ val ups,k val ups=some r∧∃ J' β' w',(Instr.storeAt t vp vv).run P w=.ok () w'∧Step J β h w J' β' (Ab ups h) w'∧val=.undef:=by
 obtain⟨kk,o,hβ,hN,_,hs,hm,hJ⟩:=Ji S hb hd hn
 have hN':=hN
 obtain⟨ht,cs,ty,fr,hk,hfr,hcs,hdl,hall,huq⟩:=hN'
 obtain⟨hsh,hnr⟩:=MJ hb hd hp
 unfold J_ at hh
 obtain⟨n1,hn1,hh'⟩:=ub hh
 clear hh
 obtain⟨h1,hh⟩:=uc hh'
 clear hh'
 have h1':=Nat.eq_of_beq_eq_true h1;subst h1';clear h1
 cases q with
 | whole n=>simp at hh
 | ref i g n s=>simp at hh
 | stamp i g p=>simp at hh
 | slot i =>
  simp only at hh
  obtain⟨k',o',h1,_,hi,rfl⟩:=hnr
  rw[hβ] at h1;simp at h1;obtain⟨rfl,rfl⟩:=h1
  split at hh
  ·rename_i d off n
   obtain⟨y,hy,h2⟩:=ub hh
   obtain⟨hc,h3⟩:=uc h2
   simp at hc
   obtain⟨c1,c2,c3,c4,c5,c6,c7⟩:=hc
   obtain⟨hyb,hyd⟩:=A1 hl hy
   have hym:=iQ hyb hv
   rw[Rep] at hv
   obtain⟨y',A,cap,⟨hy1,_⟩,rfl,hcap,hr⟩:=hv
   rw[hyb] at hy1;simp at hy1;subst hy1
   obtain⟨k2,o2,rfl,hr2⟩:∃ k o,A=some ⟨k,o+off,none⟩∧(y.dead=true∨(β d=some (k,o)∧o+off+cap*y.sz≤Am w k∧off+n*y.sz≤y.cells.length)):=by
    rcases hr with hr | hr
    ·omega
    ·exact hr
   rcases hr2 with hr2 | ⟨r1,r2,r3⟩
   ·rw[hyd] at hr2;cases hr2
   rcases S.blk d y hyb hyd hym with⟨hz,_⟩ | ⟨k3,o3,cs3,ty3,fr3,g1,g2,g3,g4,g5,g6,g7⟩
   ·rw[r1] at hz;cases hz
   rw[r1] at g1;simp at g1;obtain⟨rfl,rfl⟩:=g1
   rw[A0 g2] at r2
   have e1:x.sz - 2=y.sz:=by omega
   obtain⟨m,hm1⟩:∃ m,y.sz=m+1:=⟨y.sz - 1,by omega⟩
   have hI:InnerIs (J false) w (x.sz - 2) (some (true,k2,o2+off,n,cap)) (A6 ((y.cells.drop off).take (n*y.sz)) n y.sz):=by
    rw[e1,hm1]
    refine⟨_,cs3,ty3,fr3,rfl,by simp;rw[←hm1];omega,hcap,g2,g3.1,by rw[←hm1];exact r2,?_⟩
    have:=((g5.1 c1).drop off).take (n*y.sz)
    rw[c3] at this
    rw[←hm1]
    exact RepCs.keep (fun _ h=>h) (fun _ _=>rfl) (fun j=>by rw[Nat.add_assoc]) this
   have hu:(.slice (some ⟨k2,o2+off,none⟩) n cap:Value)=P3 (x.sz - 2) (some (true,k2,o2+off,n,cap)):=by rw[e1,hm1];rfl
   obtain⟨J',β',B⟩:=Step.put S hb hd hn hβ hi hyb hyd c2 (Hl c4) (Terr.at r1) hI hu
   exact⟨_,_,h3,J',β',_,Iw hk hfr (by simp[Value.cells];exact hn1) (by simp[Value.cells];omega) (by simp[Value.cells,Value.oneCell']),B,rfl⟩
  ·rename_i d
   obtain⟨y,hy,h2⟩:=ub hh
   obtain⟨hc,h3⟩:=uc h2
   simp at hc
   obtain⟨c1,c2,c3⟩:=hc
   obtain⟨hyb,hyd⟩:=A1 hl hy
   rw[Rep] at hv
   obtain⟨y',k2,⟨hy1,hym⟩,hr⟩:=hv
   rw[hyb] at hy1;simp at hy1;subst hy1
   rcases hr with hr | ⟨r1,r2,rfl⟩
   ·simp[hyd] at hr
   obtain⟨g1,g2,_,g3⟩:=S.mblk d y hyb hyd hym
   rcases g3 with⟨k3,ob,_,g4,g5,g6⟩ | ⟨_,_,g3,_⟩
   ·rw[r2] at g4;simp at g4;subst g4
    rcases g6 with⟨_,es,clk,rfl,g7⟩ | ⟨g6,_⟩
    ·have hI:InnerIs (J false) w (x.sz - 2) (some (true,k2,0,0,0)) (A6 y.cells 0 0):=by
      rw[c3];exact⟨_,es,clk,g5,.inl ⟨rfl,rfl,g7⟩⟩
     have hu:ee y.sz k2=P3 (x.sz - 2) (some (true,k2,0,0,0)):=by rw[c1,c3];rfl
     obtain⟨J',β',B⟩:=Step.put S hb hd hn hβ hi hyb hyd g2 (Hl c2) (Terr.at r2) hI hu
     refine⟨_,_,h3,J',β',_,Iw hk hfr (by rw[c1];simp[ee,Value.cells];exact hn1) (by rw[c1];simp[ee,Value.cells];omega) (by rw[c1];simp[ee,Value.cells,Value.oneCell']),?_,rfl⟩
     have e:(ee y.sz k2).cells.toList=[ee y.sz k2]:=by rw[c1];rfl
     rw[e];exact B
    ·omega
   ·rw[r1] at g3;cases g3
  ·simp at hh
 | elt i g0 off s =>
  simp only at hh
  obtain⟨hc0,hh2⟩:=uc hh
  rw[Bool.and_eq_true] at hc0
  have hg:=Nat.eq_of_beq_eq_true hc0.1
  have hp1:=hc0.2
  obtain⟨_,_,⟨hs2,hs1⟩,hnr2⟩:=hnr
  obtain⟨k',o',w',k2,a,n,c,h1,he,rfl⟩:=hnr2 hg
  rw[hβ] at h1;simp at h1;obtain⟨rfl,rfl⟩:=h1
  obtain⟨cell,hc,hvv,hI⟩:=hall i _ he
  obtain⟨y,p,h3,h4,h5⟩:=Us hh2
  rw[hc] at h3;simp at h3;subst h3
  obtain⟨hlt,h6⟩:=uc h5
  have hlt:off<p.1.length:=by simpa using hlt
  rcases Sp (by omega) hI h4 with⟨h7,_⟩ | ⟨k,a',cap,cs2,ty2,fr2,h7,_,h8,h9,h10,h11,h12,h13⟩
  ·cases h7
  ·simp at h7;obtain⟨rfl,rfl,rfl,rfl,rfl⟩:=h7
   have hone:vv.cells=#[vv]∧vv.oneCell'=true∧RepC (J false) w v vv:=by
    cases v<;>simp[mb] at hp1<;>(rw[Rep] at hv;subst hv;exact⟨rfl,rfl,by rw[RepC]⟩)
   obtain⟨cs',O,hO⟩:=OnlyBlk.setCells (k:=k2) vv.cells.toList (a+off) w cs2 h10
   have hle:p.1.length≤c*(x.sz - 2):=by rw[h8];exact Nat.mul_le_mul_right _ h9
   have hI':InnerIs (J false) (w.setCells k2 (a+off) vv.cells.toList) (x.sz - 2) (some (true,k2,a,p.2,c)) (A6 (p.1.set off v) p.2 (x.sz - 2)):=by
    obtain⟨m,hm1⟩:∃ m,x.sz - 2=m+1:=⟨x.sz - 3,by omega⟩
    rw[hm1] at h8 h12 ⊢
    have hJk:M0 (J false) w (w.setCells k2 (a+off) vv.cells.toList):=fun j hj=>O.other j (fun e=>by subst e;exact hJ j ⟨kk,o,hβ,.inr ⟨hn,i,a,p.2,c,he⟩⟩ _ hj)
    refine⟨_,cs',ty2,fr2,rfl,by rw[List.length_set];exact h8,h9,O.new,by rw[O.sz];exact h11,by rw[O.sz];exact h12,?_⟩
    rw[Ay]
    intro j z hj
    rw[List.getElem?_set] at hj
    by_cases e:off=j
    ·subst e
     rw[if_pos rfl,if_pos hlt] at hj;simp at hj;subst hj
     refine⟨vv,?_,RepC.keep (fun _ h=>h) hJk hone.2.2⟩
     simp only[Nat.zero_add]
     rw[hO,if_pos (by rw[hone.1];simp;rw[hm1] at hle;omega),hone.1];simp
    ·rw[if_neg e] at hj
     obtain⟨u,hu,hr⟩:=h13.at hj
     refine⟨u,?_,RepC.keep (fun _ h=>h) hJk hr⟩
     simp only[Nat.zero_add]
     rw[hO,if_neg (by rw[hone.1];simp;omega)];exact hu
   obtain⟨J',β',B⟩:=Step.inner S hb hd hn hβ he O.other O.size O.os O.tape O.output (by rw[A0 O.old,A0 O.new,O.sz];exact Nat.le_refl _) hI'
   exact⟨_,_,h6,J',β',_,Iw h10 h11 (by rw[hone.1];exact hn1) (by rw[hone.1];simp;omega) (by rw[hone.1];simp[hone.2.1]),B,rfl⟩
theorem dM {t:TypeId} {p v:AV} {vp vv:Value} {k:AV→Bo→O R} (S:SimH J β h w) (hl:Looks g h) (hh:KA P g t p v k=some r) (hp:Rep J β h w p vp) (hv:Rep J β h w v vv) :
  ∃ val ups,k val ups=some r∧∃ J' β' w',(Instr.storeAt t vp vv).run P w=.ok () w'∧Step J β h w J' β' (Ab ups h) w'∧val=.undef:=by
 unfold KA at hh
 split at hh
 ·rename_i b off
  obtain⟨x,hx,h1⟩:=ub hh
  obtain⟨n,hn,h2⟩:=ub h1
  obtain⟨hs,h3⟩:=iO h2
  obtain⟨hb,hd⟩:=A1 hl hx
  have hmpx:=pB hb hp
  cases hpu:x.pure with
  | true =>
   rw[hpu] at h3
   obtain⟨⟨c',u1,org⟩,hq,h4⟩:=ub h3
   obtain⟨hc,h5⟩:=uc h4
   simp at hc
   obtain⟨hc1,hc2,hc3⟩:=hc
   obtain⟨J1,A,hA,hlen,_⟩:=V8 S hl.s hq hv
   have hb1:Ac (Ab u1 h) b=some x:=by rw[A3 _ _ _ hc3];exact hb
   obtain⟨kk,o,cs,ty,fr,hβ,rfl,hk,hf,hle,hcr,_,_⟩:=dH A.sim hb1 hd (Rep.ext A.ext hp)
   obtain⟨cs',O,hO⟩:=OnlyBlk.setCells (k:=kk) vv.cells.toList (o+off) w cs hk
   have hlen':off+c'.length≤x.cells.length:=by omega
   have hone:=RepCs.one hA hlen.symm
   have B:=Step.set (x':={ x with pure:=true,cells:=setCells x.cells off c',taint:=x.taint||org }) A.sim hb1 hd hs hβ O hd hs rfl (H7 hlen') (by
    refine⟨fun _=>?_,fun hh=>by simp at hh⟩
    have hold:=hcr.1 hpu
    rw[Ay]
    intro j y hj
    simp only[Uv hlen'] at hj
    simp only[Nat.zero_add]
    have mono:∀ {a b:Bool} (k:Nat),J1 a k→J1 (a||b) k:=fun {a b} k hk=>by
     cases a
     ·cases b
      ·exact hk
      ·exact A.sim.jft k hk
     ·exact hk
    split at hj
    ·rename_i hj'
     obtain⟨u,hu,hr⟩:=hA.at hj
     refine⟨u,?_,RepC.keep (J:=J1 org) (fun k hk=>by rw[Bool.or_comm];exact mono k hk) (fun _ _=>rfl) hr⟩
     rw[hO,if_pos (by omega),←hu];congr 1;omega
    ·rename_i hj'
     obtain⟨u,hu,hr⟩:=hold.at hj
     refine⟨u,?_,RepC.keep (J:=J1 x.taint) (fun k hk=>mono k hk) (fun _ _=>rfl) hr⟩
     rw[hO,if_neg (by omega)];exact hu)
   refine⟨_,_,h5,J1,β,_,Iw hk hf.1 (by rw[←hlen,hc1];exact hn) (by omega) hone,?_,rfl⟩
   rw[Bc]
   exact A.trans (B hmpx) (fun _ k _ _=>iR O k)
  | false =>
   rw[hpu] at h3
   obtain⟨kk,o,cs,ty,fr,hβ,rfl,hk,hf,hle,hcr,_,_⟩:=dH S hb hd hp
   have go:∀ (c:LA) (cells':LA),(∀ (j:Nat) (y:AV),c[j]?=some y→∃ u,vv.cells.toList[j]?=some u∧Rep J β h w y u∧u.oneCell'=true)→c.length=vv.cells.toList.length→c.length=n→off+c.length≤x.cells.length →
     cells'.length=x.cells.length→(∀ j:Nat,cells'[j]?=if off≤j∧j<off+c.length then c[j - off]? else x.cells[j]?) →
     ∃ J' β' w',(Instr.storeAt t (.pointer (some ⟨kk,o+off,none⟩)) vv).run P w=.ok () w'∧Step J β h w J' β' (Ab [(b,some { x with pure:=false,cells:=cells' })] h) w':=by
    intro c cells' hc hlen hcn hoff hcl hget'
    obtain⟨cs',O,hO⟩:=OnlyBlk.setCells (k:=kk) vv.cells.toList (o+off) w cs hk
    have B:=Step.set (x':={ x with pure:=false,cells:=cells' }) S hb hd hs hβ O hd hs rfl hcl (by
     refine⟨fun hh=>by simp at hh,fun _ j y hj=>?_⟩
     simp only[hget'] at hj
     split at hj
     ·rename_i hj'
      obtain⟨u,hu,hr,ho⟩:=hc _ _ hj
      refine⟨u,?_,hr,ho⟩
      show cs'[o+j]?=some u
      rw[hO,if_pos (by omega),←hu];congr 1;omega
     ·rename_i hj'
      obtain⟨u,hu,hr⟩:=hcr.2 hpu j y hj
      refine⟨u,?_,hr⟩
      show cs'[o+j]?=some u
      rw[hO,if_neg (by omega)];exact hu)
    refine⟨J,β,_,Iw hk hf.1 (by rw[hn,←hcn,hlen]) (by omega) (fun u hu=>?_),B hmpx⟩
    obtain⟨j,hj,rfl⟩:=List.getElem_of_mem hu
    obtain⟨u',hu',_,ho⟩:=hc j c[j] (List.getElem?_eq_getElem (by omega))
    rw[List.getElem?_eq_getElem hj] at hu';simp only[Option.some.injEq] at hu';rw[hu'];exact ho
   simp only[cond_false] at h3
   split at h3
   ·rename_i c
    obtain⟨hc,h5⟩:=uc h3
    simp at hc
    obtain⟨hc1,hc2,hc3⟩:=hc
    rw[Rep] at hv
    obtain⟨us,rfl,hus⟩:=hv
    rw[A7] at hus
    obtain⟨J',β',w',g1,g2⟩:=go c (Hp x.cells off c) (fun j y hj=>by
      have hlt:j<us.length:=by rw[hus.1];exact(List.getElem?_eq_some_iff.1 hj).1
      refine⟨us[j],by simp[Value.cells,List.getElem?_eq_getElem hlt],hus.2 j y _ hj (List.getElem?_eq_getElem hlt),Hb (Nk hc1 j y hj) (hus.2 j y _ hj (List.getElem?_eq_getElem hlt))⟩)
     (by simp[Value.cells,hus.1]) hc2 (by omega) (Lh (by omega)) (Uu (by omega))
    exact⟨_,_,h5,J',β',w',g1,g2,rfl⟩
   ·rename_i c org
    obtain⟨hc,h5⟩:=uc h3
    simp at hc
    obtain⟨rfl,hc2,hc3⟩:=hc
    rw[Rep] at hv
    obtain⟨us,rfl,hus,hrc⟩:=hv
    obtain⟨cs',O,hO⟩:=OnlyBlk.setCells (k:=kk) us (o+0) w cs hk
    have B:=Step.set (x':={ x with pure:=true,taint:=org,cells:=c }) S hb hd hs hβ O hd hs rfl (by simp;omega) (by
     refine⟨fun _=>?_,fun hh=>by simp at hh⟩
     rw[Ay]
     intro j y hj
     obtain⟨u,hu,hr⟩:=hrc.at hj
     have hlt:j<us.length:=by rw[hus];exact(List.getElem?_eq_some_iff.1 hj).1
     refine⟨u,?_,hr⟩
     show cs'[o+(0+j)]?=some u
     rw[hO,if_pos (by omega),←hu];congr 1;omega)
    exact⟨_,_,h5,J,β,_,Iw (vc:=.agg ⟨us⟩) hk hf.1 (by simp[Value.cells];rw[hus,hc2];exact hn) (by simp[Value.cells];omega) (by simpa[Value.cells] using RepCs.one hrc hus),B hmpx,rfl⟩
   ·rename_i hna
    obtain⟨hc,h5⟩:=uc h3
    simp at hc
    obtain⟨hc1,hc2,hc3⟩:=hc
    have ho:=Hb hc1 hv
    have hcells:vv.cells=#[vv]:=by cases vv<;>simp_all[Value.cells,Value.oneCell']
    obtain⟨J',β',w',g1,g2⟩:=go [v] (x.cells.set off v) (fun j y hj=>by
      cases j with
      | zero=>simp at hj;subst hj;exact⟨vv,by simp[hcells],hv,ho⟩
      | succ j=>simp at hj) (by simp[hcells]) (by simp;omega) (by simp;omega) (by simp) (fun j=>by
      have:=Uv (c:=x.cells) (vs:=[v]) (off:=off) (by simp;omega) j
      simpa[setCells] using this)
    exact⟨_,_,h5,J',β',w',g1,g2,rfl⟩
 ·obtain⟨x,hx,hh⟩:=ub hh
  obtain⟨hn,hh⟩:=uc hh
  obtain⟨hb,hd⟩:=A1 hl hx
  exact dL S hl hb hd hn hh hp hv
 ·simp at hh
end
end Gx

namespace Gx
open Go
section
variable {R:Type} {r:R} {P:Program} {J J':Bool→Nat→Prop} {β:Aw} {h:Ag} {w w':World} {g:Ar}
theorem bp {v v':AV} {ups:Bo} {org:Bool} (hh:CJ g v=some (v',ups,org)) (b:Nat) (hb:Ao ups b=true):∃ x,g b=some x:=by
 unfold CJ at hh
 split at hh
 ·rename_i b' off n
  obtain⟨x,hx,h1⟩:=ub hh
  obtain⟨hp,h2⟩:=uc h1
  simp at h2
  obtain⟨rfl,rfl,rfl⟩:=h2
  unfold B9 at hx
  obtain⟨x0,hx0,hx⟩:=ub hx
  have:b'=b:=by
   cases e:Nat.beq b' b with
   | true=>exact Nat.eq_of_beq_eq_true e
   | false=>simp[Ao,e] at hb
  subst this;exact⟨x0,hx0⟩
 all_goals first
  | (simp at hh;done)
  | (simp at hh;obtain⟨rfl,rfl,rfl⟩:=hh;simp[Ao] at hb)
theorem Em:∀ (a b:Bo) (c:Nat),Ao (a++b) c=(Ao a c||Ao b c)
 | [],_,_=>by simp[Ao]
 | (i,_)::r,b,c=>by
  rw[List.cons_append,Ao,Ao,Em r b c]
  cases Nat.beq i c<;>simp
theorem Oh:∀ {c c':LA} {ups:Bo} {org:Bool},Oc g c=some (c',ups,org)→∀ b,Ao ups b=true→∃ x,g b=some x
 | [],c',ups,org,hh,b,hb=>by simp[Oc] at hh;obtain⟨rfl,rfl,rfl⟩:=hh;simp[Ao] at hb
 | v::r,c',ups,org,hh,b,hb=>by
  rw[Oc] at hh
  obtain⟨⟨v1,u1,o1⟩,hp,h1⟩:=ub hh
  obtain⟨⟨r2,u2,o2⟩,hq,h2⟩:=ub h1
  simp at h2
  obtain⟨rfl,rfl,rfl⟩:=h2
  rw[Em] at hb
  cases h3:Ao u1 b with
  | true=>exact bp hp b h3
  | false=>rw[h3] at hb;exact Oh hq b (by simpa using hb)
theorem aA {v:AV} {c':LA} {ups:Bo} {org:Bool} (hh:N2 g v=some (c',ups,org)) (b:Nat) (hb:Ao ups b=true):∃ x,g b=some x:=by
 unfold N2 at hh
 split at hh
 ·simp at hh;obtain⟨rfl,rfl,rfl⟩:=hh;simp[Ao] at hb
 ·exact Oh hh b hb
 ·exact Oh hh b hb
theorem k_ {ups:Bo} {d:Nat} (hl:Looks g h) (hu:∀ b,Ao ups b=true→∃ x,g b=some x) (hn:Ac h (nid d)=none):Ac (Ab ups h) (nid d)=none:=by
 rw[A3]
 ·exact hn
 ·cases hb:Ao ups (nid d) with
  | false=>rfl
  | true =>
   obtain⟨x,hx⟩:=hu _ hb
   rw[hl _ _ hx] at hn;cases hn
def OpDone (J:Bool→Nat→Prop) (β:Aw) (h:Ag) (w:World) (ups:Bo) (val:AV) (vc:Value) (w':World):Prop :=
 ∃ J' β',Step J β h w J' β' (Ab ups h) w'∧Rep J' β' (Ab ups h) w' val vc
def UpsFree (d:Nat) (h:Ag) (ups:Bo):Prop:=∀ b,Ao ups b=true→P0 d b=true→Ac h b=none
theorem UpsFree.nid {d:Nat} {h:Ag} {ups:Bo} (hf:UpsFree d h ups) (hi:Ao ups (nid d)=true):Ac h (nid d)=none:=hf _ hi (by
 have h1:Nat.ble (Gx.nid d) (Gx.nid d)=true:=by simp
 have h2:Nat.blt (Gx.nid d) (Gx.nid d+16)=true:=by simp
 rw[P0,h1,h2];rfl)
theorem A_ {d:Nat} {x:Blk} {cs:Array Value} {ty:TypeId} (S:SimH J β h w) (hn:Ac h (nid d)=none) (hd:x.dead=false) (hs:x.sealed=false) (hlen:x.cells.length≤cs.size) (hc:CellsRep J β h w x (fun j=>cs[j]?)) (hxm:x.mp=false:=by rfl) (hty:TyOk x.ty ty 0 cs.size:=by exact TyOk.none) :
  OpDone J β h w [(nid d,some x)] (.optr (nid d) 0) (.pointer (some ⟨w.heap.size,0,none⟩)) (w.alloc (.cells cs ty)):=by
 have A:=Step.new (ty:=ty) (fr:=(0,0)) S hn hd hs ⟨.inl rfl,hty⟩ hlen hc hxm
 refine⟨_,_,A,?_⟩
 rw[Rep]
 exact⟨x,w.heap.size,0,⟨by simp[Ab,Aa],hxm⟩,rfl,.inr (by simp)⟩
theorem OpDone.after {ups ups':Bo} {val:AV} {vc:Value} {J1:Bool→Nat→Prop} {β1:Aw} {w1:World} (A:Step J β h w J1 β1 (Ab ups h) w1) (B:OpDone J1 β1 (Ab ups h) w1 ups' val vc w')
  (hs:∀ k,Am w k≤Am w' k):OpDone J β h w (ups++ups') val vc w':=by
 obtain⟨J2,β2,B1,B2⟩:=B
 exact⟨J2,β2,by rw[Bc];exact A.trans B1 (fun _ k _ _=>hs k),by rw[Bc];exact B2⟩
theorem Ic (w:World) (o:Obj):∀ k,Am w k≤Am (w.alloc o) k:=fun k=>by
 by_cases hk:k<w.heap.size
 ·simp[Am,A5 w _ hk]
 ·simp[Am,Array.getElem?_eq_none (Nat.le_of_not_lt hk)]
theorem Uw {t:TypeId} {vc:Value}:(Instr.box t vc).run P w=.ok (.pointer (some ⟨w.heap.size,0,none⟩)) (w.alloc (.cells vc.cells t)):=by
 simp[Instr.box,newVar,newRow]
theorem MM {c:LA} {org:Bool} {cs:List Value} (hc:RepCs (J org) w c (fun j=>cs[j]?) 0):∀ {L:List (Nat×TypeId)} {acc:LA} {k:LA→O R},GA P c org L acc k=some r →
  (∀ (j:Nat) x,acc[j]?=some x→∃ u,cs[j]?=some u∧Rep J β h w x u)→∃ l:LA,k l=some r∧∀ (j:Nat) x,l[j]?=some x→∃ u,cs[j]?=some u∧Rep J β h w x u
 | [],acc,k,hh,ha=>⟨acc,hh,ha⟩
 | (off,t)::L,acc,k,hh,ha=>by
  rw[GA] at hh
  obtain⟨h0,h1⟩:=uc hh
  simp at h0
  obtain⟨v,h2,h3⟩:=Iv (β:=β) (h:=h) h1 (hc.drop off)
  refine MM hc h2 (fun j x hj=>?_)
  rw[List.getElem?_append] at hj
  split at hj
  ·exact ha j x hj
  ·have hj0:j=acc.length:=by
    have:=(List.getElem?_eq_some_iff.1 hj).1
    simp at this;omega
   subst hj0
   simp at hj;subst hj
   rcases h3 with⟨d,hu,hd,u,h4,h5⟩ | ⟨d,hu,hd,_⟩
   ·refine⟨u,?_,h5⟩
    rw[h0.1] at h4;simpa using h4
   ·exfalso
    have h6:=h0.2
    unfold mf at h6
    rw[hu] at h6
    split at h6<;>simp_all[TypeDesc.isRow]
theorem dN {co:Bool} {t:TypeId} {v:AV} {vv:Value} {k:AV→O R} (hh:KC P co t v k=some r) (hv:Rep J β h w v vv):∃ v',k v'=some r∧Rep J β h w v' vv:=by
 unfold KC at hh
 split at hh
 ·rename_i c org
  rw[Rep] at hv
  obtain⟨cs,rfl,h1,h2⟩:=hv
  obtain⟨l,h3,h4⟩:=MM (β:=β) (h:=h) h2 hh (fun j x hj=>by simp at hj)
  obtain⟨h5,h6⟩:=uc h3
  simp at h5
  refine⟨_,h6,?_⟩
  rw[Rep]
  refine⟨cs,rfl,A7.2 ⟨by omega,fun j x u hx hu=>?_⟩⟩
  obtain⟨u',hu',hr⟩:=h4 j x hx
  rw[hu] at hu';simp at hu';subst hu';exact hr
 ·exact⟨_,hh,hv⟩
theorem l0 {t q m:Nat} (h:cu P t=some (q,m)):t=q∧Az P t=some m:=by
 have key:∀ {o:Option Nat},o=Az P t→(o.map fun n=>(t,n))=some (q,m)→t=q∧Az P t=some m:=by
  intro o ho h
  cases o with
  | none=>simp at h
  | some n=>simp at h;exact⟨h.1,by rw[←ho,h.2]⟩
 unfold cu at h
 split at h
 ·obtain⟨f,_,h⟩:=ub h
  split at h
  ·obtain⟨_,h⟩:=uc h;exact key rfl h
  ·obtain⟨g,_,h⟩:=ub h
   split at h
   ·obtain⟨_,h⟩:=uc h;exact key rfl h
   ·cases h
  ·cases h
 ·cases h
theorem TG {d:Nat} {t:TypeId} {v:AV} {vv:Value} {k:AV→Bo→O R} (S:SimH J β h w) (hl:Looks g h) (hh:eX P g d t v k=some r) (hv:Rep J β h w v vv) :
  ∃ val ups,k val ups=some r∧(UpsFree d h ups→∃ vc w',(Instr.box t vv).run P w=.ok vc w'∧OpDone J β h w ups val vc w'):=by
 unfold eX at hh
 split at hh
 ·rename_i c org
  refine⟨_,_,hh,fun hn=>⟨_,_,Uw,?_⟩⟩
  replace hn:=hn.nid (by simp[Jf,Ao])
  rw[Rep] at hv
  obtain⟨cs,rfl,h1,h2⟩:=hv
  exact A_ S hn rfl rfl (by simp[Value.cells,h1]) ⟨fun _=>by simpa[Value.cells] using h2,fun hp=>by simp at hp⟩
 ·rename_i c
  cases hp:eW P t with
  | true =>
   rw[hp] at hh
   obtain⟨hst,hh⟩:=uc hh
   simp only[Bool.and_eq_true] at hst
   obtain⟨hst,hsl⟩:=hst
   have hsl:=Nat.eq_of_beq_eq_true hsl
   refine⟨_,_,hh,fun hn=>⟨_,_,Uw,?_⟩⟩
   replace hn:=hn.nid (by simp[Ao])
   rw[Rep] at hv
   obtain⟨cs,rfl,h2⟩:=hv
   rw[A7] at h2
   have hty:TyOk (cu P t) t 0 (Value.agg ⟨cs⟩).cells.size:=fun q m hq=>by
    obtain⟨e1,e2⟩:=l0 hq
    refine⟨e1,rfl,.inr (.inl ?_)⟩
    rw[e2] at hsl
    simp[Value.cells,h2.1];simpa using hsl
   refine A_ S hn rfl rfl (by simp[Value.cells,h2.1]) ⟨fun hp=>by simp at hp,fun _ j y hj=>?_⟩ rfl hty
   have hlt:j<cs.length:=by rw[h2.1];exact(List.getElem?_eq_some_iff.1 hj).1
   exact⟨cs[j],by simp[Value.cells,hlt],h2.2 j y _ hj (List.getElem?_eq_getElem hlt),Hb (Nk hst j y hj) (h2.2 j y _ hj (List.getElem?_eq_getElem hlt))⟩
  | false =>
   rw[hp] at hh
   obtain⟨⟨c',u1,o1⟩,hq,h1⟩:=ub hh
   refine⟨_,_,h1,fun hn=>⟨_,_,Uw,?_⟩⟩
   replace hn:=hn.nid (by simp[Em,Jf,Ao])
   rw[Rep] at hv
   obtain⟨cs,rfl,h2⟩:=hv
   obtain⟨J1,A,hA,hlen,_⟩:=Jj S hl.s hq h2
   refine OpDone.after A (A_ A.sim (k_ hl (Oh hq) hn) rfl rfl (by simp[Value.cells,hlen]) ⟨fun _=>?_,fun hp=>by simp at hp⟩) (Ic _ _)
   simpa[Value.cells] using hA
 ·rename_i v h1 h2
  obtain⟨hst,hh⟩:=uc hh
  refine⟨_,_,hh,fun hn=>⟨_,_,Uw,?_⟩⟩
  replace hn:=hn.nid (by simp[Jf,Ao])
  have ho:=Hb hst hv
  have hcells:vv.cells=#[vv]:=by cases vv<;>simp_all[Value.cells,Value.oneCell']
  refine A_ S hn rfl rfl (by simp[hcells]) ⟨fun hp=>by simp at hp,fun _ j y hj=>?_⟩
  cases j with
  | zero=>simp at hj;subst hj;exact⟨vv,by simp[hcells],hv,ho⟩
  | succ j=>simp at hj
end
end Gx

namespace Gx
open Go
theorem dO (z:LA):∀ (l j:Nat),j<l*z.length→(B4 l z)[j]?=z[j%z.length]?:=by
 have flat:∀ (l j:Nat),j<l*z.length→((List.replicate l z).flatten)[j]?=z[j%z.length]?:=by
  intro l
  induction l with
  | zero=>intro j hj;simp at hj
  | succ l ih =>
   intro j hj
   rw[List.replicate_succ,List.flatten_cons,List.getElem?_append]
   by_cases hlt:j<z.length
   ·rw[if_pos hlt,Nat.mod_eq_of_lt hlt]
   ·rw[if_neg hlt,ih _ (by rw[Nat.succ_mul] at hj;omega)]
    rw[Nat.mod_eq_sub_mod (a:=j) (by omega)]
 intro l j hj
 unfold B4
 split
 ·rename_i v
  simp at hj
  simp[hj,Nat.mod_one]
 ·exact flat l j hj
theorem Cj (l:Nat) (z:LA):(B4 l z).length=l*z.length:=by
 unfold B4
 split
 ·simp
 ·simp
section
variable {R:Type} {r:R} {P:Program} {J J':Bool→Nat→Prop} {β:Aw} {h:Ag} {w w':World} {g:Ar}
theorem EZ {J:Nat→Prop}:∀ {cs:List Value},Cf (Fr cs)=true→∀ (j:Nat) (u:Value),cs[j]?=some u→∃ x,(Fr cs)[j]?=some x∧RepC J w x u
 | [],_,j,u,hj=>by simp at hj
 | v::r,hp,j,u,hj=>by
  have key:∃ x,JV v=x∧Cf (Fr r)=true∧RepC J w x v:=by
   rw[Fr] at hp
   have hr:=Ur (J:=fun _=>J) (β:=fun _=>none) (h:=[]) (w:=w) v
   cases hx:JV v<;>rw[hx] at hp hr<;>simp[Cf] at hp<;>refine⟨_,rfl,hp,?_⟩<;>(rw[Rep] at hr;rw[RepC];exact hr)
  obtain⟨x,hx,hp',hr⟩:=key
  cases j with
  | zero=>simp at hj;subst hj;exact⟨x,by simp[Fr,hx],hr⟩
  | succ j =>
   obtain⟨y,h1,h2⟩:=EZ (J:=J) (cs:=r) hp' j u (by simpa using hj)
   exact⟨y,by simpa[Fr] using h1,h2⟩
theorem P4:∀ cs:List Value,(Fr cs).length=cs.length
 | []=>rfl
 | v::r=>by simp[Fr,P4 r]
theorem If {t:TypeId} {z:LA} (hz:CI P t=some z):∃ i v,P.info? t=some i∧i.zero=some v∧z=Fr v.cells.toList∧Cf z=true∧v.cells.size=i.size∧z.length=i.size:=by
 unfold CI at hz
 obtain⟨i,hi,h1⟩:=ub hz
 obtain⟨v,hv,h2⟩:=ub h1
 obtain⟨hc,h3⟩:=uc h2
 simp at h3 hc
 subst h3
 exact⟨i,v,hi,hv,rfl,hc.1,by simpa using hc.2,by rw[P4];simpa using hc.2⟩
theorem Oi {J:Nat→Prop} {v:Value} (hp:Cf (Fr v.cells.toList)=true) (l n:Nat) (hl:l*v.cells.size≤n) :
  RepCs J w (B4 l (Fr v.cells.toList)) (fun j=>(madeCells v.cells n)[j]?) 0:=by
 rw[Ay]
 intro j x hj
 have hlen:(Fr v.cells.toList).length=v.cells.size:=by rw[P4];simp
 have hlt:j<l*(Fr v.cells.toList).length:=by
  have:=(List.getElem?_eq_some_iff.1 hj).1
  rwa [Cj] at this
 rw[dO _ _ _ hlt] at hj
 rw[hlen] at hj hlt
 have hpos:0<v.cells.size:=by
  rcases Nat.eq_zero_or_pos v.cells.size with h0 | h0
  ·rw[h0] at hlt;simp at hlt
  ·exact h0
 have hm:j%v.cells.size<v.cells.size:=Nat.mod_lt _ hpos
 obtain⟨y,h1,h2⟩:=EZ (w:=w) (J:=J) hp (j%v.cells.size) v.cells[j%v.cells.size] (by simp[hm])
 rw[hj] at h1;simp at h1;subst h1
 refine⟨_,?_,h2⟩
 have:j<n:=by omega
 simp[madeCells,this,getElem!_pos,hm]
theorem BA {d n cap sz:Nat} {x:Blk} {cs:Array Value} {ty:TypeId} {fr:Nat×Nat} (S:SimH J β h w) (hn:Ac h (nid d)=none) (hd:x.dead=false) (hs:x.sealed=false) (hz:x.sz=sz)
  (hfr:FrTy x.ty ty 0 cs.size fr) (hlen:x.cells.length=n*sz) (hcap:cap*sz≤cs.size) (hnc:n≤cap) (hc:CellsRep J β h w x (fun j=>cs[j]?)) (hxm:x.mp=false:=by rfl) :
  OpDone J β h w [(nid d,some x)] (.own (nid d) 0 n) (.slice (some ⟨w.heap.size,0,none⟩) n cap) (w.alloc (.cells cs ty fr)):=by
 have hle:n*sz≤cap*sz:=Nat.mul_le_mul_right _ hnc
 have A:=Step.new (ty:=ty) (fr:=fr) S hn hd hs hfr (by omega) hc hxm
 refine⟨_,_,A,?_⟩
 rw[Rep]
 refine⟨x,_,cap,⟨by simp[Ab,Aa],hxm⟩,rfl,hnc,.inr ⟨w.heap.size,0,rfl,.inr ⟨by simp,?_,by rw[hz,hlen];omega⟩⟩⟩
 have hnew:(w.alloc (.cells cs ty fr)).heap[w.heap.size]?=some (.cells cs ty fr):=by show(w.heap.push _)[_]?=_;simp
 rw[A0 hnew,hz];omega
theorem eh {d:Nat} {t:TypeId} {l c:AV} {vl vc:Value} {k:AV→Bo→O R} (S:SimH J β h w) (hh:b7 P d t l c k=some r) (hl:Rep J β h w l vl) (hc:Rep J β h w c vc) :
  ∃ val ups,k val ups=some r∧(UpsFree d h ups→∃ u w',(Instr.makeSlice t vl vc).run P w=.ok u w'∧OpDone J β h w ups val u w'):=by
 unfold b7 at hh
 split at hh
 ·rename_i el l c hu
  obtain⟨sz,hs,h1⟩:=ub hh
  obtain⟨by_,hb,h2⟩:=ub h1
  obtain⟨z,hz,h3⟩:=ub h2
  obtain⟨hq,h4⟩:=uc h3
  simp at hq
  obtain⟨q1,q2,q3,q4⟩:=hq
  rw[Rep] at hl hc;subst hl hc
  obtain⟨i,v,hi,hv,rfl,hp,e1,e2⟩:=If hz
  have hs':i.size=sz:=by simp[Az,hi] at hs;exact hs
  have hb':i.bytes=by_:=by simp[Xu,hi] at hb;exact hb
  have hfr:Ao (Jf d true false sz (B4 l.toNat (Fr v.cells.toList))) (nid d)=true:=by simp[Jf,Ao]
  refine⟨_,_,h4,fun hn=>⟨_,_,run_make w t el i v hu hi hv _ _ l c q1 q2 (by rw[hb',Int.mul_comm];omega) (by omega),?_⟩⟩
  refine BA (sz:=sz) S (hn.nid hfr) rfl rfl rfl FrTy.un0 ?_ (by rw[size_madeCells,hs'];exact Nat.le_refl _) (by omega) ⟨fun _=>?_,fun hp=>by simp at hp⟩
  ·show(B4 l.toNat (Fr v.cells.toList)).length=_
   rw[Cj,e2,hs']
  ·exact Oi hp _ _ (by rw[e1];exact Nat.mul_le_mul_right _ (by omega))
 ·simp at hh
theorem dP {d:Nat} {t:TypeId} {l c:AV} {vl vc:Value} {k:AV→Bo→O R} (S:SimH J β h w) (hh:KD P d t l c k=some r) (hl:Rep J β h w l vl) (hc:Rep J β h w c vc) :
  ∃ val ups,k val ups=some r∧(UpsFree d h ups→∃ u w',(Instr.makeSlice t vl vc).run P w=.ok u w'∧OpDone J β h w ups val u w'):=by
 unfold KD at hh
 split at hh
 ·rename_i el l c hu
  obtain⟨sz,hs,h1⟩:=ub hh
  obtain⟨by_,hb,h2⟩:=ub h1
  obtain⟨z,hz,h3⟩:=ub h2
  obtain⟨hq,h4⟩:=uc h3
  simp at hq
  obtain⟨q1,q2,q3,q4,q5⟩:=hq
  rw[Rep] at hl hc;subst hl hc
  obtain⟨i,v,hi,hv,rfl,hp,e1,e2⟩:=If hz
  have hs':i.size=sz:=by simp[Az,hi] at hs;exact hs
  have hb':i.bytes=by_:=by simp[Xu,hi] at hb;exact hb
  refine⟨_,_,h4,fun hn=>⟨_,_,run_make w t el i v hu hi hv _ _ l c q1 q2 (by rw[hb',Int.mul_comm];omega) (by omega),?_⟩⟩
  refine BA (sz:=sz) S (hn.nid (by simp[Ao])) rfl rfl rfl ⟨.inl rfl,fun t' m hm=>?_⟩ ?_ (by rw[size_madeCells,hs'];exact Nat.le_refl _) (by omega) ⟨fun _=>?_,fun hp=>by simp at hp⟩
  ·simp at hm;obtain⟨rfl,rfl⟩:=hm
   refine⟨rfl,rfl,.inr (.inr ⟨by omega,?_⟩)⟩
   rw[size_madeCells,hs',q5];omega
  ·show(B4 l.toNat (Fr v.cells.toList)).length=_
   rw[Cj,e2,hs']
  ·exact Oi hp _ _ (by rw[e1];exact Nat.mul_le_mul_right _ (by omega))
 ·simp at hh
theorem Yield.src {sz n:Nat} {tx:TypeId} {vx:Value} {us:List Value} (Y:Yield P w sz vx n us) (ht:cz P tx=true) (ho:∀ u ∈ us,u.oneCell'=true):Src P sz tx vx n us w:=by
 refine⟨?_,Y.len,?_,?_,Y.length,ho⟩
 ·unfold cz at ht
  split at ht
  ·rename_i e hu;exact .inl ⟨e,hu⟩
  ·rename_i hu;exact .inr hu
  ·simp at ht
 ·have:=Y.cells w n (fun _=>rfl) (Nat.le_refl _)
  rwa [←Y.length,List.take_length] at this
 ·have:=Y.cells w.drew n (fun _=>rfl) (Nat.le_refl _)
  rwa [←Y.length,List.take_length] at this
theorem dQ {J:Nat→Prop} {a b:LA} {us vs:List Value} (ha:RepCs J w a (fun j=>us[j]?) 0) (hb:RepCs J w b (fun j=>vs[j]?) 0) (hl:a.length=us.length) (tail:List Value) :
  RepCs J w (a++b) (fun j=>(us++vs++tail)[j]?) 0:=by
 rw[Ay]
 intro j x hj
 rw[List.getElem?_append] at hj
 simp only[Nat.zero_add]
 by_cases h1:j<a.length
 ·rw[if_pos h1] at hj
  obtain⟨u,hu,hr⟩:=ha.at hj
  refine⟨u,?_,hr⟩
  rw[List.append_assoc,List.getElem?_append,if_pos (by omega)];exact hu
 ·rw[if_neg h1] at hj
  obtain⟨u,hu,hr⟩:=hb.at hj
  refine⟨u,?_,hr⟩
  have hlt:j - a.length<vs.length:=(List.getElem?_eq_some_iff.1 hu).1
  rw[List.append_assoc,List.getElem?_append,if_neg (by omega),List.getElem?_append,if_pos (by omega),←hl];exact hu
theorem Ux (w:World) (k:Nat):Am w.drew k=Am w k:=rfl
theorem TH {d sz n1 n2 cap0:Nat} {t tx ty el:TypeId} {i:TypeInfo} {z vx:Value} {A:Option Addr} {olds news:List Value} {c1 c2:LA} {o:Bool} (S:SimH J β h w) (hn:Ac h (nid d)=none)
  (hu:P.underlying t=some (.slice el)) (hi:P.info? el=some i) (hz:i.zero=some z) (hsz:i.size=sz) (hzs:z.cells.size=sz)
  (hold:∀ w':World,(∀ a,w'.cell? a=w.cell? a)→(Builtin.firstCells sz n1 (.slice A n1 cap0)).run P w'=.ok olds.toArray w') (hol:olds.length=n1*sz)
  (Y:Yield P w sz vx n2 news) (ht:cz P tx=true) (ho:∀ u ∈ news,u.oneCell'=true)
  (h1:RepCs (J o) w c1 (fun j=>olds[j]?) 0) (h1l:c1.length=olds.length) (h2:RepCs (J o) w c2 (fun j=>news[j]?) 0) (h2l:c2.length=news.length)
  (hg:cap0<n1+n2) (hb1:n1+n2≤140737488355328) (hb2:(n1+n2)*i.bytes≤140737488355328) {X:Option (Nat×Nat)} (hX:∀ q,X=some q→q=(el,0)) :
  ∃ u w',(Builtin.append_ #[t,tx] ty #[.slice A n1 cap0,vx]).run P w=.ok u w' ∧
   OpDone J β h w [(nid d,some { dead:=false,sealed:=false,pure:=true,taint:=o,sz:=sz,cells:=c1++c2,ty:=X })] (.own (nid d) 0 (n1+n2)) u w'∧(∀ k,Am w k≤Am w' k):=by
 subst hsz
 have run:=run_append_grow_src (P:=P) w t tx ty el i z hu hi hz A n1 cap0 olds (hold w.drew (fun _=>rfl)) vx n2 news (Y.src ht ho) hg (by omega) (growslice_fits hg hb2)
 have hcap:n1+n2≤grownCap w (n1+n2) cap0 el:=by
  unfold grownCap;simp[Question.cut]
 refine⟨_,_,run,?_,?_⟩
 ·obtain⟨J',β',B1,B2⟩:=BA (d:=d) (n:=n1+n2) (cap:=grownCap w (n1+n2) cap0 el) (sz:=i.size) (ty:=el) (fr:=(0,0)) (x:={ dead:=false,sealed:=false,pure:=true,taint:=o,sz:=i.size,cells:=c1++c2,ty:=X })
   (cs:=(olds++news).toArray++Builtin.zeroCells z.cells (grownCap w (n1+n2) cap0 el - (n1+n2))) (Step.drew S).sim hn rfl rfl rfl ⟨.inl rfl,fun t m hm=>by have:=hX _ hm;simp at this;exact⟨this.1.symm,rfl,.inl this.2⟩⟩
   (by simp[h1l,h2l,hol,Y.length,Nat.add_mul]) (by
    simp[Builtin.zeroCells,hol,Y.length,hzs]
    rw[←Nat.add_mul,←Nat.add_mul];exact Nat.mul_le_mul_right _ (by omega)) hcap
   ⟨fun _=>by
    have:=dQ h1 h2 h1l (Builtin.zeroCells z.cells (grownCap w (n1+n2) cap0 el - (n1+n2))).toList
    show RepCs (J o) w.drew (c1++c2) _ 0
    refine RepCs.keep (J:=J o) (w:=w) (w':=w.drew) (fun _ hj=>hj) (fun _ _=>rfl) (fun j=>?_) this
    rw[←Array.getElem?_toList]
    simp,fun hp=>by simp at hp⟩
  exact⟨J',β',(Step.drew S).trans B1 (fun _ k _ _=>by rw[←Ux];exact Ic _ _ k),B2⟩
 ·intro k;rw[←Ux];exact Ic _ _ k
theorem BB {J:Bool→Nat→Prop} (hj:∀ k,J false k→J true k) (a b:Bool) (k:Nat) (hk:J a k):J (a||b) k:=by
 cases a
 ·cases b
  ·exact hk
  ·exact hj k hk
 ·exact hk
theorem TI {J:Bool→Nat→Prop} (hj:∀ k,J false k→J true k) (a b:Bool) (k:Nat) (hk:J b k):J (a||b) k:=by rw[Bool.or_comm];exact BB hj b a k hk
theorem ek {d sz:Nat} {x:Blk} {A:Option Addr} (S:SimH J β h w) (hn:Ac h (nid d)=none) (hc:x.cells=[]) (hxm:x.mp=false:=by rfl) :
  OpDone J β h w [(nid d,some x)] (.own (nid d) 0 0) (.slice A 0 0) w:=by
 refine⟨_,_,Step.newNone S hn hc hxm,?_⟩
 rw[Rep]
 exact⟨x,A,0,⟨by simp[Ab,Aa],hxm⟩,rfl,Nat.le_refl _,.inl rfl⟩
theorem eo {g:Ar} {el tx:TypeId} {s:AV} {q:Nat×Nat} (h:MF P g el tx s=some q):q=(el,0):=by
 unfold MF at h
 split at h
 ·split at h
  ·simp at h;exact h.symm
  ·cases h
 ·obtain⟨x,_,h⟩:=ub h
  obtain⟨y,_,h⟩:=ub h
  obtain⟨_,h⟩:=uc h
  simp at h;exact h.symm
 ·cases h
theorem mt {g:Ar} {el tx b off n o m:Nat} {ty:TypeId} {y:Blk} (hy:B9 g b=some y) (ht:TyOk y.ty ty o m):TyOk (MF P g el tx (.own b off n)) ty (o+off) m:=by
 intro t k h
 have e:=eo h
 simp at e;obtain⟨rfl,rfl⟩:=e
 unfold MF at h
 simp only[hy,Option.bind_some] at h
 obtain⟨q,hq,h⟩:=ub h
 obtain⟨hc,_⟩:=uc h
 simp only[Bool.and_eq_true] at hc
 have c1:=Nat.eq_of_beq_eq_true hc.1
 have c2:=Nat.eq_of_beq_eq_true hc.2.1
 have c3:=Nat.eq_of_beq_eq_true hc.2.2
 obtain⟨g1,g2,_⟩:=ht q.1 q.2 hq
 exact⟨by rw[g1,c1],by omega,.inl rfl⟩
theorem TJ {d:Nat} {t tx ty:TypeId} {s x:AV} {vs vx:Value} {k:AV→Bo→O R} (S:SimH J β h w) (hl:Looks g h) (hh:Pz P g d t tx s x k=some r) (hs:Rep J β h w s vs) (hx:Rep J β h w x vx) :
  ∃ val ups,k val ups=some r∧Ao ups (nid d)=true∧(Ac h (nid d)=none→∃ u w',(Builtin.append_ #[t,tx] ty #[vs,vx]).run P w=.ok u w'∧OpDone J β h w ups val u w'):=by
 unfold Pz at hh
 split at hh
 ·rename_i el hu
  obtain⟨ht,h0⟩:=uc hh
  obtain⟨sz,hsz,h1⟩:=ub h0
  obtain⟨by_,hby,h2⟩:=ub h1
  obtain⟨zz,hz,h3⟩:=ub h2
  obtain⟨old,hold,h4⟩:=ub h3
  obtain⟨new,us,h5,Y,hul,hur⟩:=Ut (P:=P) S hl h4 hx
  obtain⟨hq,h6⟩:=uc h5
  simp at hq
  obtain⟨q1,q2⟩:=hq
  obtain⟨i,z,hi,hiz,rfl,hp,e1,e2⟩:=If hz
  have hs':i.size=sz:=by simp[Az,hi] at hsz;exact hsz
  have hb':i.bytes=by_:=by simp[Xu,hi] at hby;exact hby
  have hone:=RepCs.one hur hul.symm
  have hur':RepCs (J (old.2.2.1||new.2.2)) w new.1 (fun j=>us[j]?) 0:=RepCs.keep (J:=J new.2.2) (w:=w) (TI S.jft _ _) (fun _ _=>rfl) (fun _=>rfl) hur
  refine⟨_,_,h6,by simp[Em,Ao],fun hn=>?_⟩
  have hX:∀ q,MF P g el tx s=some q→q=(el,0):=fun q=>eo
  have empty:∀ (A:Option Addr),vs=.slice A 0 0→old.1=[]→old.2.1=0→old.2.2.2=[] →
    ∃ u w',(Builtin.append_ #[t,tx] ty #[vs,vx]).run P w=.ok u w'∧OpDone J β h w (old.2.2.2++[(nid d,some { dead:=false,sealed:=false,pure:=true,taint:=old.2.2.1||new.2.2,sz,cells:=old.1++new.1,ty:=MF P g el tx s })]) (.own (nid d) 0 (old.2.1+new.2.1)) u w':=by
   intro A hA o1 o2 o3
   subst hA
   rw[o1,o2,o3]
   rcases Nat.eq_zero_or_pos new.2.1 with h0 | h0
   ·have hus:us=[]:=by have:=Y.length;rw[h0] at this;simpa using this
    subst hus
    have hsrc:=Y.src ht hone
    rw[h0] at hsrc
    refine⟨_,_,run_append_nothing (P:=P) w t tx ty el i hu hi A 0 0 (Nat.le_refl _) vx (by rw[hs'];exact hsrc),?_⟩
    rw[h0]
    have hnc:new.1=[]:=by simpa using hul
    exact ek (sz:=sz) S hn (by simp[hnc])
   ·obtain⟨u,w',g1,g2,_⟩:=TH (ty:=ty) (c1:=[]) (olds:=[]) (n1:=0) (cap0:=0) (A:=A) S hn hu hi hiz hs' (by rw[e1,hs']) (fun w' _=>by
      cases A with
      | none=>exact run_firstCells_none (P:=P) w' sz 0 0 0
      | some a=>exact run_firstCells_some (P:=P) w' sz 0 a 0 0 [] (by simp) (fun j v hv=>by simp at hv)) (by simp) Y ht hone (by simp[RepCs]) rfl hur' hul (by omega) (by rw[o2] at q1;omega) (by rw[o2,←hb'] at q2;exact q2) hX
    exact⟨u,w',g1,g2⟩
  unfold kW at hold
  split at hold
  ·simp at hold;subst hold
   rw[Rep] at hs
   exact empty none hs rfl rfl rfl
  ·rename_i c n sz' org
   obtain⟨hz0,h7⟩:=uc hold
   simp at hz0 h7;subst hz0;subst h7
   rw[Rep,RepC] at hs
   obtain⟨_,A,cap,hv,_,hcap,_⟩:=hs
   have:=hcap rfl;subst this
   exact empty A hv rfl rfl rfl
  ·rename_i b off n
   obtain⟨y,hy,h7⟩:=ub hold
   obtain⟨hc,h8⟩:=uc h7
   simp at hc h8
   obtain⟨c1,c2,c3⟩:=hc
   subst h8;subst c3
   obtain⟨hb,hd⟩:=A1 hl hy
   simp only at *
   rw[Rep] at hs
   obtain⟨y',A,cap,⟨hy1,hmp⟩,rfl,hcap,hr⟩:=hs
   rw[hb] at hy1;simp at hy1;subst hy1
   have kill:=Step.kill (y:={ y with dead:=true,pure:=true,cells:=[] }) S hb rfl
   have hkn:Ac (Cb h b { y with dead:=true,pure:=true,cells:=[] }) (nid d)=none:=by
    rw[Aa,if_neg (fun e=>by rw[←e,hn] at hb;cases hb)];exact hn
   have hap:Ab [(b,none)] h=Cb h b { y with dead:=true,pure:=true,cells:=[] }:=by simp[Ab,hb]
   by_cases hc0:cap=0
   ·have hn0:n=0:=by omega
    subst hc0;subst hn0
    have S':=kill.sim
    rcases Nat.eq_zero_or_pos new.2.1 with h0 | h0
    ·have hus:us=[]:=by have:=Y.length;rw[h0] at this;simpa using this
     subst hus
     have hsrc:=Y.src ht hone
     rw[h0] at hsrc
     refine⟨_,_,run_append_nothing (P:=P) w t tx ty el i hu hi A 0 0 (Nat.le_refl _) vx (by rw[hs'];exact hsrc),?_⟩
     rw[h0]
     have hnc:new.1=[]:=by simpa using hul
     refine OpDone.after (ups:=[(b,none)]) (by rw[hap];exact kill) ?_ (fun _=>Nat.le_refl _)
     rw[hap]
     exact ek (sz:=y.sz) S' hkn (by simp[hnc])
    ·obtain⟨u,w',g1,g2,g3⟩:=TH (ty:=ty) (c1:=[]) (olds:=[]) (n1:=0) (cap0:=0) (A:=A) S' hkn hu hi hiz hs' (by rw[e1,hs']) (fun w' _=>by
       cases A with
       | none=>exact run_firstCells_none (P:=P) w' y.sz 0 0 0
       | some a=>exact run_firstCells_some (P:=P) w' y.sz 0 a 0 0 [] (by simp) (fun j v hv=>by simp at hv)) (by simp) Y ht hone (by simp[RepCs]) rfl hur' hul (by omega) (by omega) (by rw[←hb'] at q2;exact q2) hX
     refine⟨u,w',g1,OpDone.after (ups:=[(b,none)]) (by rw[hap];exact kill) ?_ g3⟩
     rw[hap];simpa[Jf] using g2
   ·rcases hr with hr | ⟨kk,o,rfl,hr⟩
    ·exact absurd hr hc0
    ·rcases hr with hr | ⟨r1,r2,r3⟩
     ·simp[hd] at hr
     ·rcases S.blk b y hb hd hmp with⟨hn',_⟩ | ⟨k',o',cs,ty',fr,hβ',g1,g2,g3,g4,g5,g6⟩
      ·rw[r1] at hn';simp at hn'
      ·rw[r1] at hβ';simp at hβ';obtain⟨rfl,rfl⟩:=hβ'
       have hbs:=A0 g1
       have hpure:=((g4.1 c1).drop off).take (n*y.sz)
       have hpl:((y.cells.drop off).take (n*y.sz)).length=n*y.sz:=by simp;omega
       by_cases hroom:n+new.2.1≤cap
       ·
        have hle:(n+new.2.1)*y.sz≤cap*y.sz:=Nat.mul_le_mul_right _ hroom
        rw[Nat.add_mul] at hle
        have run:=run_append_room_src (P:=P) w t tx ty el i hu hi kk (o+off) n cap vx new.2.1 us (by rw[hs'];exact Y.src ht hone) hroom (fun j hj=>by
          rw[hs',D1 g1];have:=Y.length;simp;omega) (fun j hj=>by
          rw[hs'];simp only[World.frozen?,g1]
          have h9:=Y.length
          have:=g2.1.at (o+off+n*y.sz+j) (by omega)
          cases fr;simp at this ⊢;omega)
        rw[hs'] at run
        obtain⟨cs',O,hO⟩:=OnlyBlk.setCells (k:=kk) us (o+off+n*y.sz) w cs g1
        have h9:=Y.length
        have B:=Step.move (y:={ y with dead:=true,pure:=true,cells:=[] }) (o':=o+off) (x':={ dead:=false,sealed:=false,pure:=true,taint:=y.taint||new.2.2,sz:=y.sz,cells:=(y.cells.drop off).take (n*y.sz)++new.1,ty:=MF P g el tx (.own b off n) }) S hb hd c2 r1 hn rfl O rfl rfl
         (by rw[List.length_append,hpl,hul];omega) ⟨fun _=>by
          show RepCs (J (y.taint||new.2.2)) w ((y.cells.drop off).take (n*y.sz)++new.1) _ 0
          rw[Ay]
          intro j q hj
          rw[List.getElem?_append,hpl] at hj
          simp only[Nat.zero_add]
          by_cases hjn:j<n*y.sz
          ·rw[if_pos hjn] at hj
           obtain⟨v,hv,hvr⟩:=hpure.at hj
           refine⟨v,?_,RepC.keep (J:=J y.taint) (w:=w) (BB S.jft _ _) (fun _ _=>rfl) hvr⟩
           rw[hO,if_neg (by omega),Nat.add_assoc];exact hv
          ·rw[if_neg hjn] at hj
           obtain⟨v,hv,hvr⟩:=hur'.at hj
           refine⟨v,?_,hvr⟩
           have:j - n*y.sz<us.length:=(List.getElem?_eq_some_iff.1 hv).1
           rw[hO,if_pos (by omega),←hv];congr 1;omega,fun hp=>by simp at hp⟩ hmp (hty:=mt (P:=P) (tx:=tx) (n:=n) hy g2.2)
        refine⟨_,_,run,J,(fun b=>if b=nid d then some (kk,o+off) else β b),?_,?_⟩
        ·rw[Bc,hap];exact B
        ·rw[Bc,hap,Rep]
         refine⟨_,_,cap,⟨by simp[Jf,Ab,Aa];rfl,rfl⟩,rfl,hroom,.inr ⟨kk,o+off,rfl,.inr ⟨by simp,?_,?_⟩⟩⟩
         ·rw[A0 O.new,O.sz];simp;omega
         ·simp only[List.length_append,hpl,hul,h9,Nat.zero_add];rw[Nat.add_mul];exact Nat.le_refl _
       ·
        obtain⟨olds,l1,l2,l3⟩:=hpure.list
        obtain⟨u,w',g1',g2',g3'⟩:=TH (ty:=ty) (c1:=(y.cells.drop off).take (n*y.sz)) (olds:=olds) (n1:=n) (cap0:=cap) (A:=some ⟨kk,o+off,none⟩) kill.sim hkn hu hi hiz hs' (by rw[e1,hs']) (fun w' he =>
          run_firstCells_some (P:=P) w' y.sz n _ n cap olds (by rw[l1,hpl]) (fun j v hv=>by
           rw[he,Addr.add_mid,D1 g1,Nat.add_assoc];exact l2 j v hv)) (by rw[l1,hpl]) Y ht hone
          (RepCs.keep (J:=J y.taint) (w:=w) (BB S.jft _ _) (fun _ _=>rfl) (fun _=>rfl) l3) l1.symm hur' hul (by omega) (by omega) (by rw[←hb'] at q2;exact q2) hX
        refine⟨u,w',g1',OpDone.after (ups:=[(b,none)]) (by rw[hap];exact kill) ?_ g3'⟩
        rw[hap];exact g2'
  ·simp at hold
 ·simp at hh
end
end Gx

namespace Gx
open Go
section
variable {R:Type} {r:R} {P:Program} {J J':Bool→Nat→Prop} {β:Aw} {h:Ag} {w w':World} {g:Ar}
theorem Step.retaint (S:SimH J β h w) {d:Nat} {x:Blk} (hx:Ac h d=some x) (hd:x.dead=false) (hs:x.sealed=false) (hp:x.pure=true) (hxm:x.mp=false) (o:Bool) :
  Step J β h w J β (Cb h d { x with taint:=x.taint||o }) w:=by
 have E:Ext J β h w J β (Cb h d { x with taint:=x.taint||o }) w:=by
  refine⟨fun _ _ hj=>hj,fun o k hj=>rfl,fun b z hb=>?_,fun b k o hβ=>Nat.le_refl _⟩
  by_cases e:b=d
  ·subst e;rw[hx] at hb;simp at hb;subst hb
   exact⟨{ x with taint:=x.taint||o },⟨by rw[Aa,if_pos rfl],rfl⟩,.inr ⟨hd,.ord hxm rfl,rfl,fun _=>rfl⟩⟩
  ·refine⟨z,⟨by rw[Aa,if_neg e];exact hb,rfl⟩,?_⟩
   cases hd:z.dead
   ·exact .inr ⟨rfl,.of rfl,rfl,fun _=>rfl⟩
   ·exact .inl rfl
 refine⟨E,⟨S.jlt,S.jft,S.gl.ext E,fun b z hb hdz hm=>?_,fun b z hb hdz hm=>by
   rw[Aa] at hb
   by_cases e:b=d
   ·rw[if_pos e] at hb;simp at hb;subst hb;simp[hxm] at hm
   ·rw[if_neg e] at hb
    exact(S.mblk b z hb hdz hm).keep E rfl (fun _ _=>rfl) (fun _ _ _ hj=>hj),?_⟩,rfl,rfl,rfl,Nat.le_refl _,fun k hk _=>rfl,?_,fun _ _ hj=>.inl hj⟩
 ·rw[Aa] at hb
  by_cases e:b=d
  ·rw[if_pos e] at hb;simp at hb;subst hb;subst e
   rcases S.blk b x hx hd hxm with h1 | ⟨k,o',cs',ty',fr',h1,h2,h3,h4,h5,h6,h7⟩
   ·exact .inl h1
   ·refine .inr ⟨k,o',cs',ty',fr',h1,h2,h3,h4,CellsRep.ext E ⟨fun _=>?_,fun hh=>?_⟩,fun _=>h6 hs,fun hh=>by simp[hs] at hh⟩
    ·exact RepCs.keep (J:=J x.taint) (w:=w) (BB S.jft _ _) (fun _ _=>rfl) (fun _=>rfl) (h5.1 hp)
    ·simp[hp] at hh
  ·rw[if_neg e] at hb
   rcases S.blk b z hb hdz hm with h1 | ⟨k,o,cs',ty',fr',h1,h2,h3,h4,h5,h6,h7⟩
   ·exact .inl h1
   ·exact .inr ⟨k,o,cs',ty',fr',h1,h2,h3,h4,h5.ext E,h6,h7⟩
 ·intro b b' z z' k hb hb' hd1 hd2 hs1 hβ hβ'
  have get:∀ {c y},Ac (Cb h d { x with taint:=x.taint||o }) c=some y→y.dead=false→∃ y',Ac h c=some y'∧y'.dead=false∧(y.sealed=false→y'.sealed=false)∧An y'=An y:=by
   intro c y hc hyd
   rw[Aa] at hc
   by_cases e:c=d
   ·subst e;simp at hc;subst hc;exact⟨x,hx,hd,fun _=>hs,rfl⟩
   ·rw[if_neg e] at hc;exact⟨y,hc,hyd,id,rfl⟩
  obtain⟨y1,g1,g2,g3,g7⟩:=get hb hd1
  obtain⟨y2,g4,g5,g6,g8⟩:=get hb' hd2
  exact S.sepT b b' y1 y2 k g1 g4 g2 g5 (g3 hs1) (hβ.to rfl g7) (hβ'.to rfl g8)
 ·rintro k ⟨b,z,hb,hdz,hs1,hβ⟩ hk
  rw[Aa] at hb
  by_cases e:b=d
  ·subst e;simp at hb;subst hb;exact⟨b,x,hx,hd,hs,hβ.to rfl rfl⟩
  ·rw[if_neg e] at hb
   exact⟨b,z,hb,hdz,hs1,hβ⟩
theorem TK (c:LA) (off:Nat):Hp c off []=c:=by simp[Hp]
theorem ep {t tx ty:TypeId} {s x:AV} {vs vx:Value} {k:AV→Bo→O R} (S:SimH J β h w) (hl:Looks g h) (hh:b8 P g t s x k=some r) (hs:Rep J β h w s vs) (hx:Rep J β h w x vx) :
  ∃ val ups,k val ups=some r∧∃ u w',(Builtin.copy_ #[t,tx] ty #[vs,vx]).run P w=.ok u w'∧OpDone J β h w ups val u w':=by
 unfold b8 at hh
 split at hh
 ·rename_i el b off n hu
  obtain⟨sz,hsz,h1⟩:=ub hh
  obtain⟨y,hy,h2⟩:=ub h1
  obtain⟨new,us,h3,Y,hul,hur⟩:=Ut (P:=P) S hl h2 hx
  obtain⟨hc,h4⟩:=uc h3
  simp at hc
  obtain⟨c1,c2,c3⟩:=hc
  subst c3
  obtain⟨hb,hd⟩:=A1 hl hy
  have hone:=RepCs.one hur hul.symm
  refine⟨_,_,h4,?_⟩
  rw[Rep] at hs
  obtain⟨y',A,cap,⟨hy1,hmp⟩,rfl,hcap,hr⟩:=hs
  rw[hb] at hy1;simp at hy1;subst hy1
  have hm:Nat.min new.2.1 n≤new.2.1:=Nat.min_le_left _ _
  have hcells:=Y.cells w (Nat.min new.2.1 n) (fun _=>rfl) hm
  have hlen:=Y.len w
  by_cases hn0:Nat.min new.2.1 n*y.sz=0
  ·
   refine⟨.int .i64 (Nat.min new.2.1 n:Nat),w,?_,J,β,?_,by rw[Rep]⟩
   ·have e:us.take (Nat.min new.2.1 n*y.sz)=[]:=by rw[hn0];rfl
    rw[e] at hcells
    cases A with
    | none=>simp[Builtin.copy_,run_underlying hu,hlen,Bp hsz,hcells,goInt]
    | some a=>simp[Builtin.copy_,run_underlying hu,hlen,Bp hsz,hcells,goInt,storeCells]
   ·have e:(new.1.take (min new.2.1 n*y.sz))=[]:=by
     have:min new.2.1 n*y.sz=0:=hn0
     rw[this];rfl
    have T:=Step.retaint S hb hd c2 c1 hmp new.2.2
    simp only[Ab]
    rw[e,TK]
    exact T
  ·rcases hr with hr | ⟨kk,o,rfl,hr⟩
   ·have:n=0:=by omega
    subst this;simp at hn0
   ·rcases hr with hr | ⟨r1,r2,r3⟩
    ·simp[hd] at hr
    ·rcases S.blk b y hb hd hmp with⟨hn',_⟩ | ⟨k',o',cs,ty',fr,hβ',g1,g2,g3,g4,g5,g6⟩
     ·rw[r1] at hn';simp at hn'
     ·rw[r1] at hβ';simp at hβ';obtain⟨rfl,rfl⟩:=hβ'
      have hle1:Nat.min new.2.1 n*y.sz≤new.2.1*y.sz:=Nat.mul_le_mul_right _ hm
      have hle2:Nat.min new.2.1 n*y.sz≤n*y.sz:=Nat.mul_le_mul_right _ (Nat.min_le_right _ _)
      have hul':=Y.length
      have htl:(us.take (Nat.min new.2.1 n*y.sz)).length=Nat.min new.2.1 n*y.sz:=by rw[List.length_take];omega
      have htl':(new.1.take (Nat.min new.2.1 n*y.sz)).length=Nat.min new.2.1 n*y.sz:=by rw[List.length_take];omega
      obtain⟨cs',O,hO⟩:=OnlyBlk.setCells (k:=kk) (us.take (Nat.min new.2.1 n*y.sz)) (o+off) w cs g1
      have hst:=run_storeCells_cells (P:=P) kk (o+off) (us.take (Nat.min new.2.1 n*y.sz)) 0 w (fun j hj=>by
        rw[Nat.add_zero,D1 g1];simp;omega)
       (fun j hj=>by
        rw[Nat.add_zero];simp only[World.frozen?,g1]
        have:=g2.1.at (o+off+j) (by omega)
        cases fr;simp at this ⊢;omega) (fun u hu=>hone u (List.mem_of_mem_take hu))
      simp only[Nat.add_zero] at hst
      have B:=Step.set (x':={ y with cells:=Hp y.cells off (new.1.take (Nat.min new.2.1 n*y.sz)),taint:=y.taint||new.2.2 }) S hb hd c2 r1 O hd c2 rfl (Lh (by omega)) ⟨fun _=>by
       show RepCs (J (y.taint||new.2.2)) w (Hp y.cells off (new.1.take (Nat.min new.2.1 n*y.sz))) _ 0
       rw[Ay]
       intro j q hj
       rw[Uu (by omega),htl'] at hj
       simp only[Nat.zero_add]
       split at hj
       ·obtain⟨u,hu',hr⟩:=(hur.take _).at hj
        refine⟨u,?_,RepC.keep (J:=J new.2.2) (w:=w) (TI S.jft _ _) (fun _ _=>rfl) hr⟩
        rw[hO,if_pos (by omega),List.getElem?_take,if_pos (by omega),←hu'];congr 1;omega
       ·obtain⟨u,hu',hr⟩:=(g4.1 c1).at hj
        refine⟨u,?_,RepC.keep (J:=J y.taint) (w:=w) (BB S.jft _ _) (fun _ _=>rfl) hr⟩
        rw[hO,if_neg (by omega)];exact hu',fun hp=>by simp[c1] at hp⟩ hmp
      refine⟨.int .i64 (Nat.min new.2.1 n:Nat),_,?_,J,β,B,by rw[Rep]⟩
      simp[Builtin.copy_,run_underlying hu,hlen,Bp hsz,hcells,goInt,hst]
 ·rename_i el hu
  obtain⟨sz,hsz,h1⟩:=ub hh
  obtain⟨new,us,h2,Y,hul,hur⟩:=Ut (P:=P) S hl h1 hx
  rw[Rep] at hs;subst hs
  have hlen:=Y.len w
  have hcells:=Y.cells w 0 (fun _=>rfl) (Nat.zero_le _)
  simp at hcells
  refine⟨_,_,h2,.int .i64 0,w,?_,J,β,Step.refl S,by rw[Rep]⟩
  have hm:∀ m:Nat,Nat.min m 0=0:=fun m=>Nat.min_eq_right (Nat.zero_le _)
  simp[Builtin.copy_,run_underlying hu,hlen,Bp hsz,hm,hcells,goInt]
 ·simp at hh
theorem dR {t ty:TypeId} {s:AV} {vs:Value} {k:AV→Bo→O R} (S:SimH J β h w) (hl:Looks g h) (hh:KE P g t s k=some r) (hs:Rep J β h w s vs) :
  ∃ val ups,k val ups=some r∧∃ u w',(Builtin.clear_ #[t] ty #[vs]).run P w=.ok u w'∧OpDone J β h w ups val u w':=by
 unfold KE at hh
 split at hh
 ·rename_i el b off n hu
  obtain⟨sz,hsz,h1⟩:=ub hh
  obtain⟨z,hz,h2⟩:=ub h1
  obtain⟨y,hy,h3⟩:=ub h2
  obtain⟨hc,h4⟩:=uc h3
  simp at hc
  obtain⟨c1,c2,c3⟩:=hc
  subst c3
  obtain⟨hb,hd⟩:=A1 hl hy
  obtain⟨i,v,hi,hv,rfl,hp,e1,e2⟩:=If hz
  have hs':i.size=y.sz:=by simp[Az,hi] at hsz;exact hsz
  have hzv:∀ w,(zeroValue el).run P w=.ok v w:=fun w=>by simp[zeroValue,typeInfo,hi,hv]
  have hrl:=Cj n (Fr v.cells.toList)
  rw[e2,hs'] at hrl
  have hzc:Builtin.zeroCells v.cells n=madeCells v.cells (n*v.cells.size):=rfl
  have hul:(Builtin.zeroCells v.cells n).toList.length=n*y.sz:=by rw[hzc,Array.length_toList,size_madeCells,e1,hs']
  have hur:RepCs (J y.taint) w (B4 n (Fr v.cells.toList)) (fun j=>(Builtin.zeroCells v.cells n).toList[j]?) 0:=by
   have:=Oi (J:=J y.taint) (w:=w) hp n (n*v.cells.size) (Nat.le_refl _)
   rw[←hzc] at this
   simpa using this
  have hone:=RepCs.one hur (by rw[hul,hrl])
  refine⟨_,_,h4,?_⟩
  rw[Rep] at hs
  obtain⟨y',A,cap,⟨hy1,hmp⟩,rfl,hcap,hr⟩:=hs
  rw[hb] at hy1;simp at hy1;subst hy1
  by_cases hn0:n*y.sz=0
  ·have e0:(Builtin.zeroCells v.cells n).toList=[]:=List.eq_nil_of_length_eq_zero (by rw[hul,hn0])
   refine⟨.tuple #[],w,?_,J,β,?_,by rw[Rep];exact⟨[],rfl,by rw[Reps]⟩⟩
   ·cases n with
    | zero=>cases A<;>simp[Builtin.clear_,run_underlying hu]
    | succ n =>
     cases A with
     | none=>simp[Builtin.clear_,run_underlying hu]
     | some a=>simp[Builtin.clear_,run_underlying hu,hzv,e0,storeCells]
   ·have e:B4 n (Fr v.cells.toList)=[]:=List.eq_nil_of_length_eq_zero (by rw[hrl,hn0])
    have T:=Step.retaint S hb hd c2 c1 hmp false
    simp only[Ab]
    rw[e,TK]
    simpa using T
  ·rcases hr with hr | ⟨kk,o,rfl,hr⟩
   ·have:n=0:=by omega
    subst this;simp at hn0
   ·rcases hr with hr | ⟨r1,r2,r3⟩
    ·simp[hd] at hr
    ·rcases S.blk b y hb hd hmp with⟨hn',_⟩ | ⟨k',o',cs,ty',fr,hβ',g1,g2,g3,g4,g5,g6⟩
     ·rw[r1] at hn';simp at hn'
     ·rw[r1] at hβ';simp at hβ';obtain⟨rfl,rfl⟩:=hβ'
      obtain⟨cs',O,hO⟩:=OnlyBlk.setCells (k:=kk) (Builtin.zeroCells v.cells n).toList (o+off) w cs g1
      have hst:=run_storeCells_cells (P:=P) kk (o+off) (Builtin.zeroCells v.cells n).toList 0 w (fun j hj=>by
        rw[Nat.add_zero,D1 g1];simp;omega)
       (fun j hj=>by
        rw[Nat.add_zero];simp only[World.frozen?,g1]
        have:=g2.1.at (o+off+j) (by omega)
        cases fr;simp at this ⊢;omega) (fun u hu=>hone u hu)
      simp only[Nat.add_zero] at hst
      have B:=Step.set (x':={ y with cells:=Hp y.cells off (B4 n (Fr v.cells.toList)) }) S hb hd c2 r1 O hd c2 rfl (Lh (by omega)) ⟨fun _=>by
       show RepCs (J y.taint) w (Hp y.cells off (B4 n (Fr v.cells.toList))) _ 0
       rw[Ay]
       intro j q hj
       rw[Uu (by omega),hrl] at hj
       simp only[Nat.zero_add]
       split at hj
       ·obtain⟨u,hu',hr⟩:=hur.at hj
        refine⟨u,?_,hr⟩
        rw[hO,if_pos (by omega),←hu'];congr 1;omega
       ·obtain⟨u,hu',hr⟩:=(g4.1 c1).at hj
        refine⟨u,?_,hr⟩
        rw[hO,if_neg (by omega)];exact hu',fun hp=>by simp[c1] at hp⟩ hmp
      refine⟨.tuple #[],_,?_,J,β,B,by rw[Rep];exact⟨[],rfl,by rw[Reps]⟩⟩
      cases n with
      | zero=>simp at hn0
      | succ n=>simp[Builtin.clear_,run_underlying hu,hzv,hst]
 ·simp at hh
theorem CP:∀ {c:LA} {s:List UInt8} {us:List Value} {J:Nat→Prop},FY c=some s→RepCs J w c (fun j=>us[j]?) 0→c.length=us.length →
  ∃ ns:List Int,us=ns.map (Value.int .u8)∧s=ns.map (fun n=>UInt8.ofNat n.toNat)
 | [],s,us,J,hb,hc,hl=>by
  simp[FY] at hb;subst hb
  have:us=[]:=by cases us<;>simp_all
  exact⟨[],by simp[this],rfl⟩
 | x::r,s,us,J,hb,hc,hl=>by
  rw[FY] at hb
  obtain⟨b,hb1,h1⟩:=ub hb
  obtain⟨l,hl1,h2⟩:=ub h1
  simp at h2;subst h2
  cases us with
  | nil=>simp at hl
  | cons u us =>
   rw[RepCs] at hc
   obtain⟨⟨u',hu',hr⟩,hrest⟩:=hc
   simp at hu';subst hu'
   unfold m9 at hb1
   split at hb1
   ·rename_i n
    simp at hb1;subst hb1
    rw[RepC] at hr;subst hr
    have hrest':RepCs J w r (fun j=>us[j]?) 0:=by
     rw[Ay] at hrest ⊢
     intro j y hj
     obtain⟨v,hv,hvr⟩:=hrest j y hj
     refine⟨v,?_,hvr⟩
     rw[show 0+1+j=j+1 by omega] at hv
     simpa using hv
    obtain⟨ns,h3,h4⟩:=CP hl1 hrest' (by simpa using hl)
    exact⟨n::ns,by simp[h3],by simp[h4]⟩
   ·simp at hb1
theorem mu:∀ (ns:List Int) (s:List UInt8),(ns.foldl (fun r n=>r.push (UInt8.ofNat n.toNat)) (⟨⟨s⟩⟩:ByteArray))=⟨⟨s++ns.map fun n=>UInt8.ofNat n.toNat⟩⟩
 | [],s=>by simp
 | n::r,s=>by
  rw[List.foldl_cons]
  have:(⟨⟨s⟩⟩:ByteArray).push (UInt8.ofNat n.toNat)=⟨⟨s++[UInt8.ofNat n.toNat]⟩⟩:=by
   simp[ByteArray.push]
  rw[this,mu r];simp
theorem er {d:Nat} {src dst:TypeId} {x:AV} {vx:Value} {k:AV→Bo→O R} (S:SimH J β h w) (hl:Looks g h) (hh:b9 P g d src dst x k=some r) (hx:Rep J β h w x vx) :
  ∃ val ups,k val ups=some r∧(UpsFree d h ups→∃ u w',(convert src dst vx).run P w=.ok u w'∧OpDone J β h w ups val u w'):=by
 unfold b9 at hh
 split at hh
 ·rename_i kd hu
  split at hh
  ·rename_i kd' n
   rw[Rep] at hx;subst hx
   obtain⟨hsome,h1⟩:=uc hh
   obtain⟨s,hs⟩:=Option.isSome_iff_exists.1 hsome
   refine⟨_,_,h1,fun _=>⟨.int kd (kd.wrap n),w,?_,J,β,Step.refl S,by rw[Rep]⟩⟩
   cases s<;>simp[convert,run_underlying hs,run_underlying hu,Conv.intToInt]
  ·simp at hh
 ·rename_i hu
  split at hh
  ·rename_i hs
   split at hh
   ·rename_i s
    rw[Rep] at hx;subst hx
    refine⟨_,_,hh,fun _=>⟨.string ⟨⟨s⟩⟩,w,?_,J,β,Step.refl S,by rw[Rep]⟩⟩
    simp[convert,run_underlying hs,run_underlying hu]
   ·simp at hh
  ·rename_i el hs
   split at hh
   ·rename_i he
    split at hh
    ·simp at hh
    ·rename_i hns
     obtain⟨q,hq,h1⟩:=ub hh
     obtain⟨s,hs',h2⟩:=ub h1
     obtain⟨us,Y,hul,hur⟩:=ML (P:=P) S hl hq hx
     obtain⟨ns,e1,e2⟩:=CP hs' hur hul
     refine⟨_,_,h2,fun _=>⟨.string ⟨⟨s⟩⟩,w,?_,J,β,Step.refl S,by rw[Rep]⟩⟩
     have hv:∃ A n cap,vx=.slice A n cap:=by
      unfold V5 at hq
      split at hq
      ·rw[Rep] at hx;exact⟨_,_,_,hx⟩
      ·rw[Rep,RepC] at hx;obtain⟨_,A,cap,rfl,_⟩:=hx;exact⟨_,_,_,rfl⟩
      ·rw[Rep] at hx;obtain⟨_,A,cap,_,rfl,_⟩:=hx;exact⟨_,_,_,rfl⟩
      ·exact absurd rfl (hns _)
      ·simp at hq
     obtain⟨A,n,cap,rfl⟩:=hv
     have hn:q.2.1=n:=by have:=Y.len w;simpa[Builtin.lenOf] using this.symm
     have hc:=Y.cells w n (fun _=>rfl) (by omega)
     have hyl:=Y.length
     rw[hn] at hyl
     rw[show us.take (n*1)=us by rw[←hyl,List.take_length]] at hc
     have hconv:(convert src dst (.slice A n cap)).run P w=(Conv.bytesToString (.slice A n cap)).run P w:=by
      cases A<;>simp[convert,run_underlying hs,run_underlying hu,run_underlying he]
     rw[hconv]
     cases A with
     | none =>
      rw[run_firstCells_none] at hc
      injection hc with hc1 _
      have hus:us=[]:=by simpa using hc1.symm
      rw[hus] at e1
      have hns':ns=[]:=by simpa using e1.symm
      rw[hns'] at e2
      simp at e2;subst e2
      simp[Conv.bytesToString];rfl
     | some a =>
      simp only[Builtin.firstCells,Nat.mul_one] at hc
      rw[e1] at hc
      rw[run_bytesToString w a n cap ns hc,e2]
      have:=mu ns []
      simp at this
      rw[←this];rfl
   ·simp at hh
  ·simp at hh
 ·rename_i el hu
  split at hh
  ·rename_i e' b off n hs he
   obtain⟨heq,h1⟩:=uc hh
   simp only[Bool.and_eq_true] at heq
   obtain⟨heq,hn1⟩:=heq
   have hn1:1≤n:=by simpa using hn1
   have heq:=Nat.eq_of_beq_eq_true heq
   subst heq
   have hee:e'=el:=by rw[hs] at hu;simpa using hu
   subst hee
   obtain⟨x,hxb,h2⟩:=ub h1
   obtain⟨hsl,h3⟩:=iO h2
   obtain⟨hxb,hd⟩:=A1 hl hxb
   refine⟨_,_,h3,fun _=>?_⟩
   have hx':=hx
   rw[Rep] at hx
   obtain⟨x0,A,cap,⟨hx0,hmp⟩,rfl,hle,hr⟩:=hx
   rw[hxb] at hx0;simp at hx0;subst hx0
   rcases hr with hr | ⟨k1,o1,rfl,hr⟩
   ·omega
   ·rcases hr with hr | ⟨hβ,_,_⟩
    ·simp[hd] at hr
    ·rcases S.blk b x hxb hd hmp with⟨h4,_⟩ | ⟨k2,o2,cs,ty,fr,h4,h5,h6,h7,h8,h9,h10⟩
     ·rw[hβ] at h4;simp at h4
     ·rw[hβ] at h4;simp at h4;obtain⟨rfl,rfl⟩:=h4
      have hsh:w.shape? k1=some (ty,cs.size):=by simp[World.shape?,h5]
      have hnew:∃ fr',(w.freeze ⟨k1,cs.size,none⟩ 1).heap[k1]?=some (.cells cs ty fr')∧FrOk cs.size fr':=by
       obtain⟨lo,hi⟩:=fr
       refine⟨if lo==hi then (cs.size,cs.size+1) else (min lo cs.size,max hi (cs.size+1)),?_,?_⟩
       ·simp[World.freeze,Array.getElem?_modify,h5]
       ·by_cases e:lo=hi
        ·simp[e,FrOk]
        ·have h11:cs.size≤lo:=by rcases h6 with h6 | h6;exact absurd h6 e;exact h6
         simp[e,FrOk];omega
      obtain⟨fr',hf1,hf2⟩:=hnew
      have A:=Step.mark S hxb hd hsl hβ h5 hf1 hf2 (fun j hj=>by
       simp only[World.freeze]
       rw[if_neg (by decide)]
       show(w.heap.modify k1 _)[j]?=_
       rw[Array.getElem?_modify,if_neg (fun e=>hj e.symm)]) (by simp[World.freeze]) rfl rfl rfl hmp
      refine⟨_,w.freeze ⟨k1,cs.size,none⟩ 1,?_,J,β,A,Rep.ext A.ext hx'⟩
      simp[convert,run_underlying hs,run_underlying he,markStringish,hsh]
  ·rename_i s hs he
   rw[Rep] at hx;subst hx
   refine⟨_,_,hh,fun hn=>⟨_,_,run_bytes_of_string (P:=P) w src dst el ⟨⟨s⟩⟩ hs hu he,?_⟩⟩
   replace hn:=hn.nid (by simp[Jf,Ao])
   have hsz:(⟨⟨s⟩⟩:ByteArray).size=s.length:=rfl
   have hcap:s.length≤grownCap w s.length 0 el:=by unfold grownCap;simp[Question.cut]
   rw[hsz]
   obtain⟨J',β',B1,B2⟩:=BA (d:=d) (n:=s.length) (cap:=grownCap w s.length 0 el) (sz:=1) (ty:=el) (fr:=((bytesRow ⟨⟨s⟩⟩ (grownCap w s.length 0 el)).size,(bytesRow ⟨⟨s⟩⟩ (grownCap w s.length 0 el)).size+1))
    (x:={ dead:=false,sealed:=false,pure:=true,taint:=false,sz:=1,cells:=s.map fun b=>.int .u8 (b.toNat:Int) })
    (cs:=bytesRow ⟨⟨s⟩⟩ (grownCap w s.length 0 el)) (Step.drew S).sim hn rfl rfl rfl (FrOk.un (.inr (Nat.le_refl _))) (by simp) (by simp[bytesRow,hsz];omega) hcap
    ⟨fun _=>by
     show RepCs (J false) w.drew (s.map fun b=>.int .u8 (b.toNat:Int)) _ 0
     rw[Ay]
     intro j q hj
     rw[List.getElem?_map] at hj
     cases hb:s[j]? with
     | none=>rw[hb] at hj;simp at hj
     | some b =>
      rw[hb] at hj;simp at hj;subst hj
      refine⟨.int .u8 (b.toNat:Int),?_,by rw[RepC]⟩
      have hlt:j<s.length:=(List.getElem?_eq_some_iff.1 hb).1
      simp only[Nat.zero_add,bytesRow]
      rw[Array.getElem?_append_left (by simp;exact hlt)]
      simp[hb],fun hp=>by simp at hp⟩
   exact⟨J',β',(Step.drew S).trans B1 (fun _ k _ _=>by rw[←Ux];exact Ic _ _ k),B2⟩
  ·simp at hh
 ·simp at hh
theorem TL {t:TypeId} {n:Nat} (h:Az P t=some n):∃ j,P.info? t=some j∧j.size=n:=by
 unfold Az at h
 cases hq:P.info? t with
 | none=>rw[hq] at h;cases h
 | some j=>rw[hq] at h;simp at h;exact⟨j,rfl,h⟩
theorem dS {d:Nat} {src dst:TypeId} {x:AV} {vx:Value} {k:AV→Bo→O R} (S:SimH J β h w) (hl:Looks g h) (hh:KG P g d src dst x k=some r) (hx:Rep J β h w x vx) :
  ∃ val ups,k val ups=some r∧(UpsFree d h ups→∃ u w',(convert src dst vx).run P w=.ok u w'∧OpDone J β h w ups val u w'):=by
 unfold KG at hh
 split at hh
 ·rename_i hd
  split at hh
  ·rename_i t b off hs
   obtain⟨n,hn,hh⟩:=ub hh
   obtain⟨y,hy,hh⟩:=ub hh
   obtain⟨hc,hh⟩:=uc hh
   simp at hc
   obtain⟨hy1,hy2⟩:=A1 hl hy
   have hx0:=hx
   rw[Rep] at hx
   obtain⟨x1,k1,o1,⟨g1,gm⟩,rfl,h1⟩:=hx
   rw[hy1] at g1;simp at g1;subst g1
   rcases h1 with h1 | h1
   ·rw[h1] at hy2;cases hy2
   obtain⟨j,hj,hjn⟩:=TL hn
   rcases S.blk b y hy1 hy2 gm with⟨e1,e2⟩ | ⟨k2,o2,cs,ty,fr,e1,e2,e3,e4,e5⟩
   ·rw[h1] at e1;cases e1
   ·rw[h1] at e1;simp at e1;obtain⟨rfl,rfl⟩:=e1
    refine⟨_,_,hh,fun _=>⟨_,w,Lib.run_to_unsafe w ⟨k1,o1+off,none⟩ hs hd hj (by rw[hjn];exact fun e=>by rw[e] at hc;simp at hc) (e:=ty) (cells:=cs.size) (by simp[World.shape?,e2]) (by show o1+off<_;omega),J,β,Step.refl S,hx0⟩⟩
  ·cases hh
 ·rename_i u hd
  split at hh
  ·rename_i b off hs
   obtain⟨n,hn,hh⟩:=ub hh
   obtain⟨y,hy,hh⟩:=ub hh
   obtain⟨q,hq,hh⟩:=ub hh
   obtain⟨hc,hh⟩:=uc hh
   simp at hc
   obtain⟨hy1,hy2⟩:=A1 hl hy
   have hx0:=hx
   rw[Rep] at hx
   obtain⟨x1,k1,o1,⟨g1,gm⟩,rfl,h1⟩:=hx
   rw[hy1] at g1;simp at g1;subst g1
   rcases h1 with h1 | h1
   ·rw[h1] at hy2;cases hy2
   obtain⟨j,hj,hjn⟩:=TL hn
   rcases S.blk b y hy1 hy2 gm with⟨e1,e2⟩ | ⟨k2,o2,cs,ty,fr,e1,e2,e3,e4,e5⟩
   ·rw[h1] at e1;cases e1
   ·rw[h1] at e1;simp at e1;obtain⟨rfl,rfl⟩:=e1
    obtain⟨rfl,rfl,e6⟩:=e3.2 q.1 q.2 hq
    have e6:cs.size=q.2:=by omega
    refine⟨_,_,hh,fun _=>⟨_,w,Lib.run_from_unsafe w ⟨k1,0+off,none⟩ hs hd hj (e:=q.1) (cells:=cs.size) (by simp[World.shape?,e2]) (by show liesAt P P.depth q.1 (cs.size/_) (0+off) u 1=true;rw[e6,Nat.zero_add];exact hc.2.2),J,β,Step.refl S,hx0⟩⟩
  ·cases hh
 ·exact er S hl hh hx
end
end Gx

namespace Gx
open Go
section
variable {R:Type} {r:R} {P:Program} {J J':Bool→Nat→Prop} {β:Aw} {h:Ag} {w w':World} {g:Ar}
theorem iS {fn : Func} (h1 : fn.name = "internal/abi.NoEscape") : Extern.find fn = some Extern.AbiNoEscape.same := by
 have l1 : Extern.allGenericRows.lookup "internal/abi.NoEscape" = none := by kernel_rfl
 have l2 : Extern.allTypedRows.lookup "internal/abi.NoEscape" = none := by kernel_rfl
 have l3 : Extern.allRows.lookup "internal/abi.NoEscape" = some Extern.AbiNoEscape.same := by kernel_rfl
 unfold Extern.find
 simp only[h1,l1,l2,l3]
 rfl
theorem TM {fn : Func} (h1 : fn.name = "internal/abi.NoEscape") (h2 : fn.origin = "") : Extern.findNext fn = none := by
 have l1 : Extern.allNextRows.lookup "internal/abi.NoEscape" = none := by kernel_rfl
 have l2 : Extern.allNextRows.lookup "" = none := by kernel_rfl
 unfold Extern.findNext
 simp only[h1,h2,l1,l2]
 rfl
theorem l4 {f:Nat} (h:mj P f=true) (x:Value) (w:World):(callFunc f #[x]).run P w=.ok (.value x) w:=by
 unfold mj at h
 split at h
 ·rename_i fn hf
  simp only[Bool.and_eq_true] at h
  obtain⟨hb,hn,ho⟩:=h
  have hn : fn.name = "internal/abi.NoEscape" := by simpa using hn
  have ho : fn.origin = "" := by simpa using ho
  rw[run_callFunc_extern hf (by rw[hn];decide) hb (TM hn ho) (iS hn)]
  rfl
 ·cases h
theorem iT {x:AV} {b:UInt8} (h:dA x=some b):x=.int .u8 (b.toNat:Int):=by
 unfold dA at h
 split at h
 ·rename_i n
  obtain⟨h1,h2⟩:=uc h
  simp at h2;subst h2
  have:=of_decide_eq_true h1
  rw[this]
 ·cases h
theorem X8:∀ {c:LA} {s:List UInt8},Xx c=some s→c=s.map fun b=>.int .u8 (b.toNat:Int)
 | [],s,h=>by simp[Xx] at h;subst h;rfl
 | x::r,s,h=>by
  rw[Xx] at h
  obtain⟨b,h1,h⟩:=ub h
  obtain⟨l,h2,h⟩:=ub h
  simp at h;subst h
  rw[iT h1,X8 h2];rfl
theorem KP {d:Nat} {ts:Array TypeId} {ty:TypeId} {x:AV} {vx:Value} {k:AV→Bo→O R} (S:SimH J β h w) (hl:Looks g h) (hh:Ko g x k=some r) (hx:Rep J β h w x vx) :
  ∃ val ups,k val ups=some r∧(UpsFree d h ups→∃ u w',(Builtin.unsafeSliceData_ ts ty #[vx]).run P w=.ok u w'∧OpDone J β h w ups val u w'):=by
 unfold Ko at hh
 split at hh
 ·rw[Rep] at hx;subst hx
  exact⟨_,_,hh,fun _=>⟨.pointer none,w,rfl,J,β,Step.refl S,by rw[Rep]⟩⟩
 ·rename_i b off n
  obtain⟨y,hy,hh⟩:=ub hh
  obtain⟨hn,hh⟩:=uc hh
  have hn:0<n:=by simpa using hn
  obtain⟨hy1,hy2⟩:=A1 hl hy
  rw[Rep] at hx
  obtain⟨z,A,cap,⟨g1,gm⟩,rfl,h1,h2⟩:=hx
  rw[hy1] at g1;simp at g1;subst g1
  rcases h2 with h2 | ⟨k1,o1,rfl,h2⟩
  ·omega
  rcases h2 with h2 | ⟨h2,_⟩
  ·rw[h2] at hy2;cases hy2
  refine⟨_,_,hh,fun _=>⟨_,w,Lib.run_unsafeSliceData_row w ts ty _ n cap (by omega),J,β,Step.refl S,?_⟩⟩
  rw[Rep]
  exact⟨y,k1,o1,⟨hy1,gm⟩,rfl,.inr h2⟩
 ·cases hh
theorem KQ {d:Nat} {t it ty:TypeId} {x n:AV} {vx vn:Value} {k:AV→Bo→O R} (S:SimH J β h w) (hl:Looks g h) (hh:Kp P g t x n k=some r) (hx:Rep J β h w x vx) (hv:Rep J β h w n vn) :
  ∃ val ups,k val ups=some r∧(UpsFree d h ups→∃ u w',(Builtin.unsafeString_ #[t,it] ty #[vx,vn]).run P w=.ok u w'∧OpDone J β h w ups val u w'):=by
 unfold Kp at hh
 split at hh
 ·rename_i n
  obtain⟨hn,hh⟩:=uc hh
  have hn:n=0:=by simpa using hn
  subst hn
  simp only[Rep] at hx hv;subst hx hv
  exact⟨_,_,hh,fun _=>⟨_,w,Lib.run_unsafeString_none w t it ty none,J,β,Step.refl S,by rw[Rep];rfl⟩⟩
 ·rename_i b off n
  obtain⟨y,hy,hh⟩:=ub hh
  obtain⟨q,hq,hh⟩:=ub hh
  split at hh
  ·rename_i e he
   obtain⟨hc,hh⟩:=uc hh
   obtain⟨s,hs,hk⟩:=ub hh
   simp only[Bool.and_eq_true,Bool.not_eq_true',decide_eq_true_eq] at hc
   obtain⟨c1,c2,c3,c4,c5,c6,c7,c8⟩:=hc
   have c1:=Nat.eq_of_beq_eq_true c1
   have c2:=Nat.eq_of_beq_eq_true c2
   have c5:=Nat.eq_of_beq_eq_true c5
   obtain⟨hy1,hy2⟩:=A1 hl hy
   simp only[Rep] at hx hv;subst hv
   obtain⟨z,k1,o1,⟨g1,gm⟩,rfl,h1⟩:=hx
   rw[hy1] at g1;simp at g1;subst g1
   rcases h1 with h1 | h1
   ·rw[h1] at hy2;cases hy2
   rcases S.blk b y hy1 hy2 gm with⟨e1,e2⟩ | ⟨k2,o2,cs,ty2,fr,e1,e2,e3,e4,e5,e6⟩
   ·rw[h1] at e1;cases e1
   rw[h1] at e1;simp at e1;obtain⟨rfl,rfl⟩:=e1
   obtain⟨rfl,rfl,_⟩:=e3.2 q.1 q.2 hq
   subst c5
   have hsl:s.length=n.toNat:=by
    have:=congrArg List.length (X8 hs)
    simp at this;omega
   have hsn:(n:Int)=(s.length:Int):=by omega
   subst hsn
   refine⟨_,_,hk,fun _=>⟨.string ⟨s.toArray⟩,w.freeze ⟨k1,0,none⟩ s.length,?_,J,β,?_,by rw[Rep]⟩⟩
   ·refine Lib.run_unsafeString_row w t it ty q.1 (by rw[c1];exact he) (by rw[c1];exact c2) k1 cs.size (by simp[World.shape?,e2]) s (by intro e;subst e;simp at c6) (by omega) (by omega) fun j x hj=>?_
    have hjl:j<s.length:=(List.getElem?_eq_some_iff.1 hj).1
    have hcell:y.cells[j]?=some (.int .u8 (x.toNat:Int)):=by
     have h2:(y.cells.take (s.length:Int).toNat)[j]?=some (.int .u8 (x.toNat:Int)):=by rw[X8 hs];simp[hj]
     rw[List.getElem?_take] at h2
     split at h2
     ·exact h2
     ·cases h2
    obtain⟨u,hu1,hu2⟩:=Ay.1 (e5.1 c3) j _ hcell
    rw[RepC] at hu2;subst hu2
    have hu1:cs[j]?=some (.int .u8 (x.toNat:Int)):=by simpa using hu1
    by_cases ej:j=0
    ·subst ej;simp[World.cell?,Addr.add,e2,hu1]
    ·simp[World.cell?,Addr.add,e2,ej,hu1]
   ·have ap:Ab [(b,none)] h=Cb h b { y with dead:=true,pure:=true,cells:=[] }:=by simp[Ab,hy1]
    rw[ap]
    have hs0:s.length≠0:=by omega
    refine Step.giveUp S hy1 hy2 c4 h1 gm rfl (fun j hj=>?_) (by simp[World.freeze,hs0]) (by simp[World.freeze,hs0]) (by simp[World.freeze,hs0]) (by simp[World.freeze,hs0]) ?_
    ·simp only[World.freeze]
     rw[if_neg hs0]
     show(w.heap.modify k1 _)[j]?=_
     rw[Array.getElem?_modify,if_neg (fun e=>hj e.symm)]
    ·obtain⟨lo,hi⟩:=fr
     have hnew:∃ fr',(w.freeze ⟨k1,0,none⟩ s.length).heap[k1]?=some (.cells cs q.1 fr'):=⟨_,by simp[World.freeze,hs0,Array.getElem?_modify,e2];rfl⟩
     obtain⟨fr',hf⟩:=hnew
     rw[A0 e2,A0 hf];exact Nat.le_refl _
  ·cases hh
 ·cases hh
end
end Gx
