/- A part of the proof: what it holds is said at each theorem. -/
import GoSem.Step
import Derived.KernelRfl
set_option linter.unusedVariables false
namespace Gx
open Go

/-- Abstract values. `imm`, `iptr`, `pagg`: memory that never changes, with its content; `own`, `optr`: references to a block of the activation's own heap (block, cell offset). -/
inductive AV where
  | int (k : IntKind) (n : Int)
  | bool (b : Bool)
  | str (s : List UInt8)
  | nsl
  | imm (c : List AV) (len sz : Nat) (tight org : Bool)
  | iptr (c : List AV) (org : Bool)
  | pagg (c : List AV) (org : Bool)
  | own (b off len : Nat)
  | optr (b off : Nat)
  | agg (c : List AV)
  | tup (c : List AV)
  | fn (f : Nat) (caps : List AV)
  | nilptr
  | nilfn
  | undef

structure Blk where
  dead : Bool
  sealed : Bool
  pure : Bool
  taint : Bool
  sz : Nat
  cells : List AV

abbrev Heap := List (Nat × Blk)
abbrev Slots := List (Nat × AV)

def hget : Heap → Nat → Option Blk
  | [], _ => none
  | (i, x) :: r, b => cond (Nat.beq i b) (some x) (hget r b)
def hput : Heap → Nat → Blk → Heap
  | [], b, y => [(b, y)]
  | (i, x) :: r, b, y => cond (Nat.beq i b) ((b, y) :: r) (cond (Nat.blt b i) ((b, y) :: (i, x) :: r) ((i, x) :: hput r b y))
def hdel : Heap → Nat → Heap
  | [], _ => []
  | (i, x) :: r, b => cond (Nat.beq i b) r ((i, x) :: hdel r b)
def sget : Slots → Nat → AV
  | [], _ => .undef
  | (i, x) :: r, b => cond (Nat.beq i b) x (sget r b)
def sput : Slots → Nat → AV → Slots
  | [], b, y => [(b, y)]
  | (i, x) :: r, b, y => cond (Nat.beq i b) ((b, y) :: r) (cond (Nat.blt b i) ((b, y) :: (i, x) :: r) ((i, x) :: sput r b y))

structure St where
  s : Slots
  h : Heap

mutual
def ofV : Value → AV
  | .int k n => .int k n
  | .bool b => .bool b
  | .string ⟨⟨s⟩⟩ => .str s
  | .slice none 0 0 => .nsl
  | .pointer none => .nilptr
  | .nilFunc => .nilfn
  | .agg ⟨cs⟩ => .agg (ofVs cs)
  | _ => .undef
def ofVs : List Value → List AV
  | [] => []
  | v :: r => ofV v :: ofVs r
end

def ev (s : Slots) : Operand → AV
  | .tmp t => sget s t
  | .const v => ofV v
  | .func f => .fn f []
  | .global _ => .undef

/- What is read off the program's tables. -/
def sizeT (P : Program) (t : TypeId) : Option Nat := (P.info? t).map (·.size)
def bytesT (P : Program) (t : TypeId) : Option Nat := (P.info? t).map (·.bytes)
def ptrsT (P : Program) (t : TypeId) : Bool := ((P.info? t).map (·.hasPointers)).getD true
def zeroV (P : Program) (t : TypeId) : Option AV := ((P.info? t).bind (·.zero)).map ofV
def plainZ : List AV → Bool
  | [] => true
  | .int .. :: r => plainZ r
  | .bool _ :: r => plainZ r
  | .str _ :: r => plainZ r
  | .nsl :: r => plainZ r
  | .nilptr :: r => plainZ r
  | .nilfn :: r => plainZ r
  | _ => false
/-- The cells of the zero value of a type, if they are plain, and as many as the type has. -/
def zeroT (P : Program) (t : TypeId) : Option (List AV) :=
  (P.info? t).bind fun i => (i.zero).bind fun v => cond (plainZ (ofVs v.cells.toList) && Nat.beq v.cells.toList.length i.size) (some (ofVs v.cells.toList)) none

/- Integers. -/
def intBin (op : BinOp) (k : IntKind) (a b : Int) : Option AV :=
  match op with
  | .add => some (.int k (k.wrap (a + b)))
  | .sub => some (.int k (k.wrap (a - b)))
  | .mul => some (.int k (k.wrap (a * b)))
  | .and => some (.int k (k.wrap ((BitVec.ofInt k.bits a &&& BitVec.ofInt k.bits b).toNat : Int)))
  | .or => some (.int k (k.wrap ((BitVec.ofInt k.bits a ||| BitVec.ofInt k.bits b).toNat : Int)))
  | .xor => some (.int k (k.wrap ((BitVec.ofInt k.bits a ^^^ BitVec.ofInt k.bits b).toNat : Int)))
  | .andNot => some (.int k (k.wrap ((BitVec.ofInt k.bits a &&& ~~~ (BitVec.ofInt k.bits b)).toNat : Int)))
  | .eql => some (.bool (a == b))
  | .neq => some (.bool (a != b))
  | .lss => some (.bool (decide (a < b)))
  | .leq => some (.bool (decide (a ≤ b)))
  | .gtr => some (.bool (decide (a > b)))
  | .geq => some (.bool (decide (a ≥ b)))
  | _ => none

def kindEq (k k' : IntKind) : Bool := decide (k = k')

def isBoolT (P : Program) (t : TypeId) : Bool := match P.underlying t with | some .bool => true | _ => false

def abin {R : Type} (P : Program) (t : TypeId) (op : BinOp) (x y : AV) (r : AV → Option R) : Option R :=
  match x, y with
  | .int k a, .int k' b =>
    match op with
    | .shl => cond (decide (b < 0)) none (r (.int k (k.wrap (a * 2 ^ (min b.toNat k.bits)))))
    | .shr => cond (decide (b < 0)) none (r (.int k (a.fdiv (2 ^ (min b.toNat k.bits)))))
    | .quo => cond (kindEq k k') (cond (b == 0) none (r (.int k (k.wrap (a.tdiv b))))) none
    | .rem => cond (kindEq k k') (cond (b == 0) none (r (.int k (a.tmod b)))) none
    | op => cond (kindEq k k') ((intBin op k a b).bind r) none
  | .bool a, .bool b =>
    match op with
    | .eql => cond (isBoolT P t) (r (.bool (a == b))) none
    | .neq => cond (isBoolT P t) (r (.bool (!(a == b)))) none
    | _ => none
  | .str a, .str b =>
    match op with
    | .add => cond (Nat.ble (a.length + b.length) 140737488355328) (r (.str (a ++ b))) none
    | .eql => r (.bool (a == b))
    | .neq => r (.bool (!(a == b)))
    | .lss => r (.bool (Op.bytesLess a b))
    | .leq => r (.bool (Op.bytesLess a b || a == b))
    | .gtr => r (.bool (!(Op.bytesLess a b || a == b)))
    | .geq => r (.bool (!Op.bytesLess a b))
    | _ => none
  | _, _ => none

def aun (op : UnOp) (x : AV) : Option AV :=
  match op, x with
  | .neg, .int k n => some (.int k (k.wrap (0 - n)))
  | .xor, .int k n => intBin .xor k (cond k.signed (-1) k.max) n
  | .not, .bool b => some (.bool (!b))
  | _, _ => none

/- Typed views of a pure cell. -/
def asInt (k : IntKind) : AV → Option Int
  | .int k' n => cond (kindEq k k') (some n) none
  | _ => none
def asBool : AV → Option Bool
  | .bool b => some b
  | _ => none
def asStr : AV → Option (List UInt8)
  | .str s => some s
  | _ => none
def asSl (sz : Nat) : AV → Option (List AV × Nat)
  | .imm c len sz' _ _ => cond (Nat.beq sz sz') (some (c, len)) none
  | .nsl => some ([], 0)
  | _ => none
def asByte : AV → Option UInt8
  | .int .u8 n => some (UInt8.ofNat n.toNat)
  | _ => none
def asBytes : List AV → Option (List UInt8)
  | [] => some []
  | x :: r => (asByte x).bind fun b => (asBytes r).bind fun l => some (b :: l)

/- Equality of structs and arrays of numbers, bools and strings. -/
def aeqFs {R : Type} (step : TypeId → List AV → List AV → (Bool → Option R) → Option R) (x y : List AV) : List (Nat × TypeId) → (Bool → Option R) → Option R
  | [], k => k true
  | (off, t) :: r, k => step t (x.drop off) (y.drop off) fun b => aeqFs step x y r fun c => k (b && c)
def okField (P : Program) (sz : Nat) (f : Field) : Bool := match sizeT P f.type with
  | some s => Nat.ble 1 s && (Nat.ble (f.offset + s) sz && !(f.name == "_"))
  | none => false
def aeqK {R : Type} (P : Program) : Nat → TypeId → List AV → List AV → (Bool → Option R) → Option R
  | 0, _, _, _, _ => none
  | d + 1, t, x, y, k => match P.underlying t with
    | some (.int kd) => (x.head?).bind fun u => (asInt kd u).bind fun a => (y.head?).bind fun v => (asInt kd v).bind fun b => k (a == b)
    | some .bool => (x.head?).bind fun u => (asBool u).bind fun a => (y.head?).bind fun v => (asBool v).bind fun b => k (a == b)
    | some .string => (x.head?).bind fun u => (asStr u).bind fun a => (y.head?).bind fun v => (asStr v).bind fun b => k (a == b)
    | some (.struct fs) => (sizeT P t).bind fun sz => cond (P.stoodInHeld t || !(fs.toList.all (okField P sz))) none (aeqFs (aeqK P d) x y (fs.toList.map fun f => (f.offset, f.type)) k)
    | some (.array n e) => (sizeT P e).bind fun s => (sizeT P t).bind fun sz => cond (Nat.ble 1 s && Nat.ble (n * s) sz) (aeqFs (aeqK P d) x y ((List.range n).map fun i => (i * s, e)) k) none
    | _ => none
def cellsA : AV → Option (List AV)
  | .pagg c _ => some c
  | .agg c => some c
  | _ => none
def isRowT (P : Program) (t : TypeId) : Bool := match P.underlying t with | some (.struct _) => true | some (.array _ _) => true | _ => false
def abin2 {R : Type} (P : Program) (t : TypeId) (op : BinOp) (x y : AV) (r : AV → Option R) : Option R :=
  match cellsA x, cellsA y with
  | some a, some b => (sizeT P t).bind fun s => cond (Nat.ble 1 s && (Nat.beq a.length s && (Nat.beq b.length s && (isRowT P t && !(P.eqGuardType P.depth t)))))
    (match op with
      | .eql => aeqK P 8 t a b fun c => r (.bool c)
      | .neq => aeqK P 8 t a b fun c => r (.bool (!c))
      | _ => none) none
  | _, _ => abin P t op x y r

/-- Cells of a type without pointers show nothing, if they are plain. -/
def plainly {R : Type} (P : Program) (t : TypeId) (c : List AV) (org : Bool) (k : Bool → Option R) : Option R :=
  cond (ptrsT P t) (k org) (cond (!org || plainZ c) (k false) none)

/-- A value of type t out of the pure cells c, from the first on. -/
def readT {R : Type} (P : Program) (t : TypeId) (c : List AV) (org : Bool) (k : AV → Option R) : Option R :=
  match P.underlying t with
  | some (.int kd) => (c.head?).bind fun x => (asInt kd x).bind fun n => k (.int kd n)
  | some .bool => (c.head?).bind fun x => (asBool x).bind fun b => k (.bool b)
  | some .string => (c.head?).bind fun x => (asStr x).bind fun s => k (.str s)
  | some (.slice e) => (sizeT P e).bind fun sz => (c.head?).bind fun x => (asSl sz x).bind fun p => k (.imm p.1 p.2 sz false org)
  | some (.struct _) => (sizeT P t).bind fun n => cond (Nat.ble n c.length) (plainly P t (c.take n) org fun o => k (.pagg (c.take n) o)) none
  | some (.array _ _) => (sizeT P t).bind fun n => cond (Nat.ble n c.length) (plainly P t (c.take n) org fun o => k (.pagg (c.take n) o)) none
  | _ => none

/-- A value of type t out of the cells of a block of one's own that may hold references. -/
def takeT {R : Type} (P : Program) (t : TypeId) (c : List AV) (k : AV → Option R) : Option R :=
  match P.underlying t with
  | some (.struct _) => (sizeT P t).bind fun n => cond (Nat.ble n c.length) (k (.agg (c.take n))) none
  | some (.array _ _) => (sizeT P t).bind fun n => cond (Nat.ble n c.length) (k (.agg (c.take n))) none
  | some _ => (c.head?).bind k
  | none => none

abbrev Look := Nat → Option Blk

def vblk (g : Look) (b : Nat) : Option Blk := (g b).bind fun x => cond x.dead none (some x)

def aload {R : Type} (P : Program) (g : Look) (t : TypeId) (p : AV) (k : AV → Option R) : Option R :=
  match p with
  | .iptr c org => readT P t c org k
  | .optr b off => (vblk g b).bind fun x => cond x.pure (readT P t (x.cells.drop off) x.taint k) (takeT P t (x.cells.drop off) k)
  | _ => none

/-- the lower and the upper bound of an index -/
def inIdx (i : Int) (n : Nat) : Bool := decide (0 ≤ i) && decide (i < (n : Int))

def aindexAddr {R : Type} (P : Program) (t : TypeId) (x i : AV) (k : AV → Option R) : Option R :=
  match P.underlying t, x, i with
  | some (.slice el), .imm c len sz _ org, .int _ i => (sizeT P el).bind fun sz' => cond (Nat.beq sz sz') (cond (inIdx i len) (k (.iptr (c.drop (i.toNat * sz)) org)) none) none
  | some (.slice el), .own b off len, .int _ i => (sizeT P el).bind fun sz => cond (inIdx i len) (k (.optr b (off + i.toNat * sz))) none
  | some (.array len el), .iptr c org, .int _ i => (sizeT P el).bind fun sz => cond (inIdx i len) (k (.iptr (c.drop (i.toNat * sz)) org)) none
  | some (.array len el), .optr b off, .int _ i => (sizeT P el).bind fun sz => cond (inIdx i len) (k (.optr b (off + i.toNat * sz))) none
  | _, _, _ => none

def fieldOf (P : Program) (t : TypeId) (f : Nat) : Option (Nat × TypeId) :=
  match P.underlying t with
  | some (.struct fs) => (fs[f]?).map fun x => (x.offset, x.type)
  | _ => none

def afieldAddr {R : Type} (P : Program) (t : TypeId) (x : AV) (f : Nat) (k : AV → Option R) : Option R :=
  (fieldOf P t f).bind fun p => (sizeT P p.2).bind fun n => cond (Nat.beq n 0) none
  (match x with
  | .iptr c org => k (.iptr (c.drop p.1) org)
  | .optr b off => k (.optr b (off + p.1))
  | _ => none)

def afield {R : Type} (P : Program) (t : TypeId) (x : AV) (f : Nat) (k : AV → Option R) : Option R :=
  (fieldOf P t f).bind fun p =>
  match x with
  | .pagg c org => readT P p.2 (c.drop p.1) org k
  | .agg c => takeT P p.2 (c.drop p.1) k
  | _ => none

def aindex {R : Type} (P : Program) (t : TypeId) (x i : AV) (k : AV → Option R) : Option R :=
  match P.underlying t, x, i with
  | some .string, .str s, .int _ i => cond (inIdx i s.length) (k (.int .u8 ((s.getD i.toNat 0).toNat : Int))) none
  | some (.array len el), .pagg c org, .int _ i => (sizeT P el).bind fun sz => cond (inIdx i len) (readT P el (c.drop (i.toNat * sz)) org k) none
  | some (.array len el), .agg c, .int _ i => (sizeT P el).bind fun sz => cond (inIdx i len) (takeT P el (c.drop (i.toNat * sz)) k) none
  | _, _, _ => none

def boundOf (o : Option AV) (d : Nat) : Option Int := match o with | none => some (d : Int) | some (.int _ i) => some i | _ => none
/-- bounds of a slice expression: low, high, both within n -/
def sliceIn {R : Type} (lo hi mx : Option AV) (n : Nat) (k : Nat → Nat → Option R) : Option R :=
  (boundOf lo 0).bind fun l => (boundOf hi n).bind fun h => (boundOf mx n).bind fun m => cond (mx.isSome && !hi.isSome) none <|
  cond (decide (0 ≤ l) && (decide (l ≤ h) && (decide (h ≤ m) && decide (m ≤ (n : Int))))) (k l.toNat h.toNat) none
def tightOf (tight : Bool) (hi mx : Option AV) : Bool := match hi, mx with | none, none => tight | some (.int _ a), some (.int _ b) => a == b | _, _ => false
def aslice {R : Type} (P : Program) (g : Look) (t : TypeId) (x : AV) (lo hi mx : Option AV) (k : AV → Option R) : Option R :=
  match P.underlying t, x with
  | some .string, .str s => cond mx.isSome none (sliceIn lo hi none s.length fun l h => k (.str ((s.drop l).take (h - l))))
  | some (.slice el), .nsl => (sizeT P el).bind fun _ => sliceIn lo hi mx 0 fun _ _ => k .nsl
  | some (.slice el), .imm c n sz tight org => (sizeT P el).bind fun sz' => cond (Nat.beq sz sz') (sliceIn lo hi mx n fun l h =>
      k (.imm ((c.drop (l * sz)).take ((h - l) * sz)) (h - l) sz (tightOf tight hi mx) org)) none
  | some (.slice el), .own b off n => (sizeT P el).bind fun sz => (vblk g b).bind fun y => cond (Nat.beq sz y.sz) (sliceIn lo hi mx n fun l h => k (.own b (off + l * sz) (h - l))) none
  | _, _ => none

def alen (P : Program) (t : TypeId) (x : AV) : Option AV :=
  match P.underlying t, x with
  | some (.slice _), .nsl => some (.int .i64 0)
  | some (.slice _), .imm _ n _ _ _ => some (.int .i64 n)
  | some (.slice _), .own _ _ n => some (.int .i64 n)
  | some .string, .str s => some (.int .i64 s.length)
  | some (.array n _), _ => some (.int .i64 n)
  | _, _ => none

/-- The cells of the elements of a slice (or the bytes of a string), and how many there are. -/
def elems (g : Look) (sz : Nat) : AV → Option (List AV × Nat × Bool)
  | .nsl => some ([], 0, false)
  | .imm c n sz' _ org => cond (Nat.beq sz sz') (some (c, n, org)) none
  | .own b off n => (vblk g b).bind fun x => cond (x.pure && Nat.beq sz x.sz) (some ((x.cells.drop off).take (n * sz), n, x.taint)) none
  | .str s => cond (Nat.beq sz 1) (some (s.map fun b => .int .u8 (b.toNat : Int), s.length, false)) none
  | _ => none

/-- The same, by an element's type. -/
def elemsK {R : Type} (P : Program) (el : TypeId) (g : Look) (sz : Nat) (x : AV) (k : List AV × Nat × Bool → Option R) : Option R :=
  (elems g sz x).bind fun q => plainly P el q.1 q.2.2 fun o => k (q.1, q.2.1, o)

abbrev Ups := List (Nat × Option Blk)

/-- What is stored into a pure block: references are sealed and replaced by their content. -/
def pureV (g : Look) : AV → Option (AV × Ups × Bool)
  | .own b off n => (vblk g b).bind fun x => cond x.pure (some (.imm ((x.cells.drop off).take (n * x.sz)) n x.sz false x.taint, [(b, some { x with sealed := true })], x.taint)) none
  | .optr .. | .agg _ | .tup _ | .undef | .fn .. => none
  | .imm c n sz t org => some (.imm c n sz t org, [], org)
  | .iptr c org => some (.iptr c org, [], org)
  | .pagg _ _ => none
  | v => some (v, [], false)
def pureVs (g : Look) : List AV → Option (List AV × Ups × Bool)
  | [] => some ([], [], false)
  | v :: r => (pureV g v).bind fun p => (pureVs g r).bind fun q => some (p.1 :: q.1, p.2.1 ++ q.2.1, p.2.2 || q.2.2)
/-- the cells of a value that goes into a pure block -/
def pureCells (g : Look) : AV → Option (List AV × Ups × Bool)
  | .pagg c org => some (c, [], org)
  | .agg c => pureVs g c
  | v => pureVs g [v]

def splice (c : List AV) (off : Nat) (vs : List AV) : List AV := c.take off ++ vs ++ c.drop (off + vs.length)

def inUps : Ups → Nat → Bool
  | [], _ => false
  | (i, _) :: r, b => cond (Nat.beq i b) true (inUps r b)
/-- A value of one cell, no reference to a block that is gone. -/
def storable (g : Look) : AV → Bool
  | .own b _ _ => (vblk g b).isSome
  | .optr b _ => (vblk g b).isSome
  | .agg _ => false
  | .pagg _ _ => false
  | .tup _ => false
  | .undef => false
  | _ => true
def storables (g : Look) : List AV → Bool
  | [] => true
  | v :: r => storable g v && storables g r
def setCells (c : List AV) (off : Nat) (vs : List AV) : List AV := match vs with | [y] => c.set off y | ys => splice c off ys

def astore {R : Type} (P : Program) (g : Look) (t : TypeId) (p v : AV) (k : AV → Ups → Option R) : Option R :=
  match p with
  | .optr b off => (vblk g b).bind fun x => (sizeT P t).bind fun n =>
    cond x.sealed none
    (cond x.pure
      ((pureCells g v).bind fun q => cond (Nat.beq q.1.length n && (Nat.ble (off + n) x.cells.length && !inUps q.2.1 b))
        (k .undef (q.2.1 ++ [(b, some { x with cells := setCells x.cells off q.1, taint := x.taint || q.2.2 })])) none)
      (match v with
        | .agg c => cond (storables g c && (Nat.beq c.length n && Nat.ble (off + n) x.cells.length)) (k .undef [(b, some { x with cells := splice x.cells off c })]) none
        | v => cond (storable g v && (Nat.beq n 1 && Nat.blt off x.cells.length)) (k .undef [(b, some { x with cells := x.cells.set off v })]) none))
  | _ => none

/-- Ids from here on are those of blocks that are new in this region. -/
def newBase : Nat := 1000000
def nid (d : Nat) : Nat := 1000000 + d * 16
/-- A new block of the operation that writes slot d. -/
def fresh (d : Nat) (pure taint : Bool) (sz : Nat) (cells : List AV) : Ups :=
  [(nid d, some { dead := false, sealed := false, pure, taint, sz, cells })]

def abox {R : Type} (P : Program) (g : Look) (d : Nat) (t : TypeId) (v : AV) (k : AV → Ups → Option R) : Option R :=
  match v with
  | .pagg c org => k (.optr (nid d) 0) (fresh d true org 0 c)
  | .agg c =>
    cond (ptrsT P t) (cond (storables g c) (k (.optr (nid d) 0) (fresh d false false 0 c)) none)
      ((pureVs g c).bind fun q => k (.optr (nid d) 0) (q.2.1 ++ fresh d true q.2.2 0 q.1))
  | v => cond (storable g v) (k (.optr (nid d) 0) (fresh d false false 0 [v])) none

def emptyBlk (sz : Nat) : Blk := { dead := false, sealed := false, pure := true, taint := false, sz, cells := [] }
/-- A variable with its zero value; a nil slice as an empty one of one's own. -/
def aalloc {R : Type} (P : Program) (g : Look) (d : Nat) (t : TypeId) (k : AV → Ups → Option R) : Option R :=
  match P.underlying t, zeroV P t with
  | some (.slice el), some .nsl => (sizeT P el).bind fun sz => k (.optr (nid d) 0) [(nid d + 1, some (emptyBlk sz)), (nid d, some { dead := false, sealed := false, pure := false, taint := false, sz := 0, cells := [.own (nid d + 1) 0 0] })]
  | _, some z => abox P g d t z k
  | _, none => none

def fillC (place : Nat → Option (Nat × Nat)) : List (Nat × List AV) → List AV → Option (List AV)
  | [], c => some c
  | (i, vs) :: r, c => (place i).bind fun p => cond (Nat.beq vs.length p.2 && Nat.ble (p.1 + p.2) c.length) (fillC place r (setCells c p.1 vs)) none

def repCells (n : Nat) (z : List AV) : List AV := match z with | [v] => List.replicate n v | z => (List.replicate n z).flatten

def partsPure (g : Look) : List (Nat × AV) → Option (List (Nat × List AV) × Ups × Bool)
  | [] => some ([], [], false)
  | (i, v) :: r => (pureCells g v).bind fun q => (partsPure g r).bind fun q' => some ((i, q.1) :: q'.1, q.2.1 ++ q'.2.1, q.2.2 || q'.2.2)

def abuildSlice {R : Type} (P : Program) (g : Look) (d : Nat) (t : TypeId) (len : Nat) (parts : List (Nat × AV)) (k : AV → Ups → Option R) : Option R :=
  match P.underlying t with
  | some (.slice el) => (sizeT P el).bind fun sz => (zeroT P el).bind fun z => (partsPure g parts).bind fun q =>
    cond (Nat.ble (len * sz) 16777216) ((fillC (fun i => some (i * sz, sz)) q.1 (repCells len z)).bind fun cells =>
      k (.own (nid d) 0 len) (q.2.1 ++ fresh d true q.2.2 sz cells)) none
  | _ => none

/-- A struct or an array out of parts: pure if no part holds a reference. -/
def isRef1 : AV → Bool
  | .own .. | .optr .. | .fn .. | .undef | .agg _ | .pagg _ _ | .tup _ => true
  | _ => false
def isRef : AV → Bool
  | .agg c => c.any isRef1
  | .pagg _ _ => false
  | v => isRef1 v
def cellsOf : AV → List AV
  | .agg c => c
  | .pagg c _ => c
  | v => [v]
def orgOf1 : AV → Bool
  | .imm _ _ _ _ o => o
  | .iptr _ o => o
  | _ => false
def orgOf : AV → Bool
  | .pagg _ o => o
  | .agg c => c.any orgOf1
  | v => orgOf1 v
def isPagg : AV → Bool
  | .pagg _ _ => true
  | _ => false
def placesOf (P : Program) (t : TypeId) : Option (Nat → Option (Nat × Nat)) :=
  match P.underlying t with
  | some (.array _ e) => (P.info? e).map fun ie => fun i => some (i * ie.size, ie.size)
  | some (.struct fs) => (fs.toList.mapM fun f => (P.info? f.type).map fun i => (f.offset, i.size)).map fun pl => fun i => pl[i]?
  | _ => none
def zeroC (P : Program) (t : TypeId) : Option (List AV) := (P.info? t).bind fun i => (i.zero).map fun v => ofVs v.cells.toList
def cellParts : List (Nat × AV) → List (Nat × List AV)
  | [] => []
  | (i, v) :: r => (i, cellsOf v) :: cellParts r
def okPart : AV → Bool
  | .undef => false
  | .tup _ => false
  | _ => true
def abuild (P : Program) (t : TypeId) (parts : List (Nat × AV)) : Option AV :=
  (placesOf P t).bind fun place => cond (parts.all fun p => okPart p.2) (
  cond (parts.any fun p => isPagg p.2)
    (cond (parts.any fun p => isRef p.2) none ((zeroT P t).bind fun z => (fillC place (cellParts parts) z).map fun c => .pagg c (parts.any fun p => orgOf p.2)))
    ((zeroC P t).bind fun z => (fillC place (cellParts parts) z).map fun c => .agg c)) none

def amake {R : Type} (P : Program) (d : Nat) (t : TypeId) (len cap : AV) (k : AV → Ups → Option R) : Option R :=
  match P.underlying t, len, cap with
  | some (.slice el), .int .i64 l, .int .i64 c => (sizeT P el).bind fun sz => (bytesT P el).bind fun by_ => (zeroT P el).bind fun z =>
    cond (decide (0 ≤ l) && (decide (l ≤ c) && (decide (c ≤ 140737488355328) && decide (c * (by_ : Int) ≤ 140737488355328)))) (
      k (.own (nid d) 0 l.toNat) (fresh d true false sz (repCells l.toNat z))) none
  | _, _, _ => none

def oldPart (g : Look) (sz : Nat) (s : AV) : Option (List AV × Nat × Bool × Ups) :=
  match s with
  | .nsl => some ([], 0, false, [])
  | .imm _ n _ true _ => cond (Nat.beq n 0) (some ([], 0, false, [])) none
  | .own b off n => (vblk g b).bind fun x => cond (x.pure && (!x.sealed && Nat.beq sz x.sz)) (some ((x.cells.drop off).take (n * sz), n, x.taint, [(b, none)])) none
  | _ => none

def isSrcT (P : Program) (t : TypeId) : Bool := match P.underlying t with | some (.slice _) => true | some .string => true | _ => false
def aappend {R : Type} (P : Program) (g : Look) (d : Nat) (t tx : TypeId) (s x : AV) (k : AV → Ups → Option R) : Option R :=
  match P.underlying t with
  | some (.slice el) => cond (isSrcT P tx) ( (sizeT P el).bind fun sz => (bytesT P el).bind fun by_ => (zeroT P el).bind fun _ =>
    (oldPart g sz s).bind fun old => elemsK P el g sz x fun new =>
    cond (Nat.ble (old.2.1 + new.2.1) 140737488355328 && Nat.ble ((old.2.1 + new.2.1) * by_) 140737488355328) (
      k (.own (nid d) 0 (old.2.1 + new.2.1)) (old.2.2.2 ++ fresh d true (old.2.2.1 || new.2.2) sz (old.1 ++ new.1))) none) none
  | _ => none

def acopy {R : Type} (P : Program) (g : Look) (t : TypeId) (s x : AV) (k : AV → Ups → Option R) : Option R :=
  match P.underlying t, s with
  | some (.slice el), .own b off n => (sizeT P el).bind fun sz => (vblk g b).bind fun y => elemsK P el g sz x fun new =>
    cond (y.pure && (!y.sealed && Nat.beq sz y.sz)) (
      k (.int .i64 (min new.2.1 n : Nat)) [(b, some { y with cells := splice y.cells off (new.1.take ((min new.2.1 n) * sz)), taint := y.taint || new.2.2 })]) none
  | some (.slice el), .nsl => (sizeT P el).bind fun sz => elemsK P el g sz x fun _ => k (.int .i64 0) []
  | _, _ => none

def aconv {R : Type} (P : Program) (g : Look) (d : Nat) (src dst : TypeId) (x : AV) (k : AV → Ups → Option R) : Option R :=
  match P.underlying dst with
  | some (.int kd) => match x with | .int _ n => cond (P.underlying src).isSome (k (.int kd (kd.wrap n)) []) none | _ => none
  | some .string => match P.underlying src with
    | some .string => match x with | .str s => k (.str s) [] | _ => none
    | some (.slice el) => match P.underlying el with
      | some (.int .u8) => match x with
        | .str _ => none
        | x => (elems g 1 x).bind fun q => (asBytes q.1).bind fun s => k (.str s) []
      | _ => none
    | _ => none
  | some (.slice el) => match P.underlying src, P.underlying el, x with
    | some (.slice _), some (.int .u8), .own b off n => cond (Nat.beq src dst && Nat.ble 1 n) ((vblk g b).bind fun x => cond x.sealed none (k (.own b off n) [])) none
    | some .string, some (.int .u8), .str s => k (.own (nid d) 0 s.length) (fresh d true false 1 (s.map fun b => .int .u8 (b.toNat : Int)))
    | _, _, _ => none
  | _ => none

/- Calls. -/
mutual
def idsOf : AV → List Nat
  | .own b _ _ => [b]
  | .optr b _ => [b]
  | .agg c => idsOfs c
  | .tup c => idsOfs c
  | .fn _ c => idsOfs c
  | _ => []
def idsOfs : List AV → List Nat
  | [] => []
  | v :: r => idsOf v ++ idsOfs r
end
mutual
def renV (ρ : Nat → Nat) : AV → AV
  | .own b off n => .own (ρ b) off n
  | .optr b off => .optr (ρ b) off
  | .agg c => .agg (renVs ρ c)
  | .tup c => .tup (renVs ρ c)
  | .fn f c => .fn f (renVs ρ c)
  | v => v
def renVs (ρ : Nat → Nat) : List AV → List AV
  | [] => []
  | v :: r => renV ρ v :: renVs ρ r
end

def freezeV (g : Look) : AV → Option (AV × Bool)
  | .own b off n => (vblk g b).bind fun x => cond x.pure (some (.imm ((x.cells.drop off).take (n * x.sz)) n x.sz false (!x.sealed || x.taint), !x.sealed)) none
  | .imm c n sz _ org => some (.imm c n sz false org, false)
  | .optr b off => (vblk g b).bind fun x => cond x.pure (some (.iptr (x.cells.drop off) (!x.sealed || x.taint), !x.sealed)) none
  | .agg c => cond (isRef (.agg c)) none (some (.agg c, false))
  | .fn f [] => some (.fn f [], false)
  | .fn _ _ | .tup _ | .undef => none
  | v => some (v, false)

def assoc (d : Nat) : List (Nat × Nat) → Nat → Nat
  | [], _ => d
  | (i, x) :: r, b => cond (Nat.beq i b) x (assoc d r b)
def memN : List Nat → Nat → Bool
  | [], _ => false
  | i :: r, b => cond (Nat.beq i b) true (memN r b)
def dedup : List Nat → List Nat → List Nat
  | [], acc => acc.reverse
  | i :: r, acc => cond (memN acc i) (dedup r acc) (dedup r (i :: acc))
def nodupB : List Nat → Bool
  | [] => true
  | i :: r => !memN r i && nodupB r
def numbered (base : Nat) : List Nat → List (Nat × Nat)
  | [] => []
  | i :: r => (i, base) :: numbered (base + 1) r

/-- The ids that lie in the cells of the blocks ids (where these may hold references). -/
def inner (g : Look) : List Nat → List Nat
  | [] => []
  | b :: r => (match g b with | some x => cond x.pure [] (idsOfs x.cells) | none => []) ++ inner g r
def reach (g : Look) (ids : List Nat) : List Nat := dedup (ids ++ inner g (ids ++ inner g ids)) []

/-- Every reference is to a block that is alive. -/
def aliveAll (g : Look) : List Nat → Bool
  | [] => true
  | b :: r => (match g b with | some x => !x.dead | none => false) && aliveAll g r

def renB (ρ : Nat → Nat) (x : Blk) : Blk := { x with cells := cond x.pure x.cells (renVs ρ x.cells) }
/-- The part of a heap that the ids name, under new names. -/
def sub (g : Look) (ρ : Nat → Nat) : List Nat → Heap
  | [] => []
  | b :: r => match g b with
    | some x => hput (sub g ρ r) (ρ b) (renB ρ x)
    | none => sub g ρ r

/-- A twin of a function: what it answers to abstract arguments and a heap; in the style of continuations. -/
structure Tw where
  runK : {R : Type} → List AV → Heap → (AV → Heap → Option R) → Option R
  eq : ∀ {R : Type} (args : List AV) (h : Heap) (k : AV → Heap → Option R), runK args h k = (runK args h fun v h' => some (v, h')).bind fun p => k p.1 p.2

def tcall {R : Type} : List (Nat × Tw) → Nat → List AV → Heap → (AV → Heap → Option R) → Option R
  | [], _, _, _, _ => none
  | (g, t) :: r, f, args, h, k => cond (Nat.beq g f) (t.runK args h k) (tcall r f args h k)

structure Env where
  P : Program
  nt : Nat
  muts : Nat → List Bool
  nils : List (Nat × Nat)
  free : List Nat
  tbl : List (Nat × Tw)

mutual
def hasOrg : AV → Bool
  | .imm _ _ _ _ o => o
  | .iptr _ o => o
  | .pagg _ o => o
  | .agg c => hasOrgs c
  | .tup c => hasOrgs c
  | .fn _ c => hasOrgs c
  | _ => false
def hasOrgs : List AV → Bool
  | [] => false
  | v :: r => hasOrg v || hasOrgs r
end
def hasOrgH : Heap → Bool
  | [] => false
  | (_, x) :: r => x.taint || (cond x.pure false (hasOrgs x.cells)) || hasOrgH r

/-- The blocks that an argument shows while the call goes on. -/
def frozenIds (g : Look) : AV → List Nat
  | .own b _ _ => match g b with | some x => cond x.sealed [] [b] | none => []
  | .optr b _ => match g b with | some x => cond x.sealed [] [b] | none => []
  | _ => []
/-- The arguments as the callee gets them: those that it may not change as what they hold; the ids that are handed over; those that are shown. -/
def passArgs (g : Look) : List Bool → List AV → Option (List AV × List Nat × List Nat)
  | _, [] => some ([], [], [])
  | ms, v :: r =>
    cond (ms.headD false)
      ((passArgs g ms.tail r).bind fun q => some (v :: q.1, idsOf v ++ q.2.1, q.2.2))
      ((freezeV g v).bind fun p => (passArgs g ms.tail r).bind fun q => some (p.1 :: q.1, q.2.1, frozenIds g v ++ q.2.2))

def allIn (ids : List Nat) : List Nat → Bool
  | [] => true
  | b :: r => memN ids b && allIn ids r
def disj : List Nat → List Nat → Bool
  | [], _ => true
  | i :: r, l => !memN l i && disj r l
def emptyN : List Nat → Bool
  | [] => true
  | _ => false

def acall {R : Type} (E : Env) (g : Look) (d : Nat) (f : Nat) (args : List AV) (k : AV → Ups → Option R) : Option R :=
  (passArgs g (E.muts f) args).bind fun q =>
  let ids := reach g q.2.1
  let tin := numbered 100000 ids
  let outs := tin.map (·.2)
  cond (aliveAll g ids && (allIn ids q.2.1 && (allIn ids (inner g ids) && (disj q.2.2 ids && (nodupB (ids.map (assoc 0 tin)) && Nat.ble ids.length 100000))))) (
    tcall E.tbl f (renVs (assoc 0 tin) q.1) (sub g (assoc 0 tin) ids) fun rv rh =>
    let all := reach (hget rh) (idsOf rv ++ outs)
    let new := all.filter fun b => !memN outs b
    let tnew := numbered (nid d) new
    let σ := assoc 0 ((tin.map fun p => (p.2, p.1)) ++ tnew)
    cond (!emptyN q.2.2 && (hasOrg rv || hasOrgH rh)) none
      (cond (aliveAll (hget rh) new && (Nat.ble new.length 16 && (allIn all (idsOf rv) && (allIn all outs && (allIn all (inner (hget rh) all) && nodupB (all.map σ))))))
        (k (renV σ rv) ((tin.map fun p => (p.1, (hget rh p.2).map (renB σ))) ++ tnew.map fun p => (p.2, (hget rh p.1).map (renB σ)))) none)) none

/-- One of two values. Two bools: without a parting of the ways; what was not computed is not chosen. -/
def apick {R : Type} (c a b : AV) (k : AV → Option R) : Option R :=
  match c, a, b with
  | .bool t, .bool x, .bool y => k (.bool (cond t x y))
  | .bool t, x, .tup [] => cond t (k x) none
  | .bool t, .tup [], y => cond t none (k y)
  | .bool t, x, y => cond t (k x) (k y)
  | _, _, _ => none

def hasBody (P : Program) (f : Nat) : Bool := match P.funcs[f]? with | some fn => fn.body.isSome && !(fn.name == "runtime.NumGoroutine") | none => false
/- One operation. -/
def isAggT (P : Program) (t : TypeId) : Bool := match P.underlying t with | some (.struct _) => true | some (.array _ _) => true | _ => false
def aval {R : Type} (E : Env) (g : Look) (d : Nat) (v : Operand → AV) (o : Op) (k : AV → Ups → Option R) : Option R :=
  match o with
  | .move x => k (v x) []
  | .assign x => k (v x) []
  | .pick c a b => apick (v c) (v a) (v b) fun r => k r []
  | .alloc t => aalloc E.P g d t k
  | .box t x => abox E.P g d t (v x) k
  | .build t parts => (abuild E.P t (parts.toList.map fun p => (p.1, v p.2))).bind fun r => k r []
  | .buildSlice t len parts => abuildSlice E.P g d t len (parts.toList.map fun p => (p.1, v p.2)) k
  | .load t a => aload E.P g t (v a) fun r => k r []
  | .store t a x => astore E.P g t (v a) (v x) k
  | .nilCheck x => match v x with | .iptr c o => k (.iptr c o) [] | .optr b o => k (.optr b o) [] | _ => none
  | .binOp op t x y _ => abin2 E.P t op (v x) (v y) fun r => k r []
  | .unOp op _ x => (aun op (v x)).bind fun r => k r []
  | .convert s t x => aconv E.P g d s t (v x) k
  | .makeFunc (.func f) ⟨[]⟩ caps => k (.fn f (caps.toList.map v)) []
  | .makeSlice t l c => amake E.P d t (v l) (v c) k
  | .slice t x lo hi mx => aslice E.P g t (v x) (lo.map v) (hi.map v) (mx.map v) fun r => k r []
  | .fieldAddr t x f => afieldAddr E.P t (v x) f fun r => k r []
  | .field t x f => afield E.P t (v x) f fun r => k r []
  | .indexAddr t x i => aindexAddr E.P t (v x) (v i) fun r => k r []
  | .index t x i => aindex E.P t (v x) (v i) fun r => k r []
  | .extract t i => match v t with | .tup vs => (vs[i]?).bind fun r => k r [] | _ => none
  | .call c => match c.callee with
    | .builtin .len => match c.args.toList, c.argTypes.toList with | [x], [t] => (alen E.P t (v x)).bind fun r => k r [] | _, _ => none
    | .builtin .append => match c.args.toList, c.argTypes.toList with | [s, x], [t, tx] => aappend E.P g d t tx (v s) (v x) k | _, _ => none
    | .builtin .copy => match c.args.toList, c.argTypes.toList with | [s, x], [t, _] => acopy E.P g t (v s) (v x) k | _, _ => none
    | .value fo => match v fo with | .fn f caps => cond (hasBody E.P f) (acall E g d f (c.args.toList.map v ++ caps) k) none | _ => none
    | _ => none
  | _ => none

structure Foot where
  r : List Nat
  w : Option Nat
  f : List Nat
  u : List Nat

def tmpsOf : List Operand → List Nat
  | [] => []
  | .tmp t :: r => t :: tmpsOf r
  | _ :: r => tmpsOf r

def applyUps : Ups → Heap → Heap
  | [], h => h
  | (b, some x) :: r, h => applyUps r (hput h b x)
  | (b, none) :: r, h => applyUps r (match hget h b with | some x => hput h b { x with dead := true, pure := true, cells := [] } | none => h)

def guardSlot (ops : Array Oper) (o : Oper) : Option (Nat × Bool) :=
  match o.guard with
  | none => none
  | some (j, want) => ((ops[j]?).bind (·.dst)).map fun t => (t, want)

/-- Is the operation carried out? `none`: it cannot be told. -/
def awanted (ops : Array Oper) (s : Slots) (o : Oper) : Option Bool :=
  match o.guard with
  | none => some true
  | some (j, want) => match (ops[j]?).bind (·.dst) with
    | some t => match sget s t with
      | .bool b => some (b == want)
      | .tup [] => some false
      | _ => none
    | none => some false

def putS (nt : Nat) (s : Slots) (d : Option Nat) (v : AV) : Slots := match d with | some d => cond (Nat.blt d nt) (sput s d v) s | none => s

/-- The ids that an operation with these operands may look at, and the new ones that it may make. -/
def footOf (h : Heap) (vals : List AV) : List Nat := reach (hget h) (idsOfs vals)
def isNew (d b : Nat) : Bool := Nat.ble (nid d) b && Nat.blt b (nid d + 16)
def upsOk (d : Nat) (F : List Nat) (h : Heap) : Ups → Bool
  | [] => true
  | (b, _) :: r => cond (isNew d b) (hget h b).isNone (memN F b && (hget h b).isSome) && upsOk d F h r

/-- One operation of a region. -/
def aone {R : Type} (E : Env) (ops : Array Oper) (o : Oper) (st : St) (k : St → Foot → Option R) : Option R :=
  (awanted ops st.s o).bind fun wanted => cond wanted (
    aval E (fun b => cond (memN (footOf st.h (o.op.operands.toList.map (ev st.s))) b) (hget st.h b) none) (o.dst.getD 50000) (ev st.s) o.op fun v ups =>
    cond (upsOk (o.dst.getD 50000) (footOf st.h (o.op.operands.toList.map (ev st.s))) st.h ups)
      (k { s := putS E.nt st.s o.dst v, h := applyUps ups st.h } { r := (match guardSlot ops o with | some p => [p.1] | none => []) ++ tmpsOf o.op.operands.toList, w := o.dst, f := footOf st.h (o.op.operands.toList.map (ev st.s)), u := ups.map (·.1) }) none)
    (k { st with s := putS E.nt st.s o.dst (.tup []) } { r := (match guardSlot ops o with | some p => [p.1] | none => []), w := o.dst, f := [], u := [] })
/-- The guard of an operation is decided: from there on its slot holds the very bool. -/
def settle {R : Type} (ops : Array Oper) (o : Oper) (st : St) (k : St → Option R) : Option R :=
  match o.guard with
  | none => k st
  | some (j, want) => match (ops[j]?).bind (·.dst) with
    | none => k st
    | some t => match sget st.s t with
      | .bool b => cond (b == want) (k { s := sput st.s t (.bool want), h := st.h }) (k { s := sput st.s t (.bool (!want)), h := st.h })
      | _ => k st
/-- The operations of a region, in the order of the text; k goes on with the state and the footprints. -/
def aops {R : Type} (E : Env) (ops : Array Oper) : List Oper → St → List Foot → (St → List Foot → Option R) → Option R
  | [], st, tr, k => k st tr
  | o :: r, st, tr, k => settle ops o st fun st => aone E ops o st fun st f => aops E ops r st (f :: tr) k

def wIn : Option Nat → List Nat → Bool
  | none, _ => false
  | some d, l => memN l d
def indep (a b : Foot) : Bool :=
  !wIn a.w b.r && !wIn b.w a.r && (match a.w, b.w with | some x, some y => !Nat.beq x y | _, _ => true) && disj a.u (b.f ++ b.u) && disj b.u a.f

/-- For each operation the operations that any order puts ahead of it. -/
def bindsAll (e : Edge) : Bool := match e.ground with | .textOnly _ => false | .gcOnly _ => false | _ => true
def direct (o : Oper) : List Nat := (o.after.toList.filter bindsAll).map (·.on)
def ancestors : List Oper → List (List Nat) → List (List Nat)
  | [], acc => acc
  | o :: r, acc => ancestors r (acc ++ [direct o ++ ((direct o).flatMap fun i => (acc[i]?).getD [])])
/-- What an operation waits for stands ahead of it in the text. -/
def forwardOk : Nat → List Oper → Bool
  | _, [] => true
  | i, o :: r => (o.after.toList.all fun e => !bindsAll e || Nat.blt e.on i) && forwardOk (i + 1) r
def orderOne (f : Foot) (anc : List Nat) : Nat → List Foot → Bool
  | _, [] => true
  | i, g :: r => (memN anc i || indep g f) && orderOne f anc (i + 1) r
def orderOk : List Foot → List (List Nat) → List Foot → Bool
  | [], _, _ => true
  | f :: r, a :: as, seen => orderOne f a 0 seen && orderOk r as (seen ++ [f])
  | _ :: _, [], _ => false

/-- At a region's end: the slots that are kept, the blocks that they reach, under names of old. -/
def oldId (b : Nat) : Nat := cond (Nat.ble newBase b) (b - newBase) b
mutual
def cleanV (g : Look) : AV → AV
  | .own b off n => match vblk g b with | some _ => .own (oldId b) off n | none => .undef
  | .optr b off => match vblk g b with | some _ => .optr (oldId b) off | none => .undef
  | .agg c => .agg (cleanVs g c)
  | .tup c => .tup (cleanVs g c)
  | .fn f c => .fn f (cleanVs g c)
  | v => v
def cleanVs (g : Look) : List AV → List AV
  | [] => []
  | v :: r => cleanV g v :: cleanVs g r
end
def cleanS (g : Look) (K : List Nat) : Slots → Slots
  | [] => []
  | (t, v) :: r => cond (memN K t) ((t, cleanV g v) :: cleanS g K r) (cleanS g K r)
def idsS (K : List Nat) : Slots → List Nat
  | [] => []
  | (t, v) :: r => cond (memN K t) (idsOf v ++ idsS K r) (idsS K r)
def cleanH (g : Look) : List Nat → Heap
  | [] => []
  | b :: r => match vblk g b with
    | some x => hput (cleanH g r) (oldId b) { x with cells := cond x.pure x.cells (cleanVs g x.cells) }
    | none => cleanH g r
def liveIds (g : Look) (ids : List Nat) : List Nat := ids.filter fun b => match vblk g b with | some _ => true | none => false
/-- Every block that is alive and named in l is in ids. -/
def covers (g : Look) (ids : List Nat) : List Nat → Bool
  | [] => true
  | b :: r => (memN ids b || (vblk g b).isNone) && covers g ids r
def newOk : List Nat → Bool
  | [] => true
  | b :: r => cond (Nat.ble newBase b) (Nat.blt (oldId b) 100000) true && newOk r
def clean (K roots : List Nat) (st : St) : Option St :=
  let g := hget st.h
  let ids := liveIds g (reach g (idsS K st.s ++ roots))
  cond (nodupB (ids.map oldId) && (covers g ids (idsS K st.s) && (covers g ids (inner g ids) && newOk ids))) (some { s := cleanS g K st.s, h := cleanH g ids }) none

def aregion {R : Type} (E : Env) (K roots : List Nat) (ops : Array Oper) (draw : Bool) (st : St) (k : St → Option R) : Option R :=
  aops E ops ops.toList st [] fun st tr =>
    cond (!draw || (forwardOk 0 ops.toList && orderOk tr.reverse (ancestors ops.toList []) [])) ((clean K roots st).bind k) none

/- Where ways meet: the slots that are kept, the blocks under names by the order in which the slots name them. -/
def isRoot (b : Nat) : Bool := Nat.ble 100000 b && Nat.blt b 200000
/-- A nil slice as an empty one of one's own. -/
def coerce (live : List Nat) : List (Nat × Nat) → St → Option St
  | [], st => some st
  | (t, sz) :: r, st => match memN live t, sget st.s t with
    | true, .nsl => cond (hget st.h (nid t + 15)).isSome none (coerce live r { s := sput st.s t (.own (nid t + 15) 0 0), h := hput st.h (nid t + 15) (emptyBlk sz) })
    | _, _ => coerce live r st
/-- Blocks that were handed over keep their names, but for those of free. -/
def keepsName (free : List Nat) (b : Nat) : Bool := isRoot b && !memN free b
def canonT (free ids : List Nat) : List (Nat × Nat) := numbered 300000 (ids.filter fun b => !keepsName free b)
def canonR (free ids : List Nat) (b : Nat) : Nat := cond (keepsName free b) b (assoc 0 (canonT free ids) b)
def renS (ρ : Nat → Nat) (K : List Nat) : Slots → Slots
  | [] => []
  | (t, v) :: r => cond (memN K t) ((t, renV ρ v) :: renS ρ K r) (renS ρ K r)
def canon (E : Env) (live roots : List Nat) (st : St) : Option St :=
  (coerce live E.nils st).bind fun st =>
  let g := hget st.h
  let ids := liveIds g (reach g (idsS live st.s ++ roots))
  cond (nodupB (ids.map (canonR E.free ids)) && (allIn ids (idsS live st.s) && (allIn ids (inner g ids) && Nat.ble ids.length 100000))) (some { s := renS (canonR E.free ids) live st.s, h := sub g (canonR E.free ids) ids }) none

/-- Which slots are kept, along the code. -/
inductive Hint where
  | leaf
  | node (live : List Nat) (a b : Hint)
  | join (a b : Hint)
def Hint.live : Hint → List Nat
  | .node l _ _ => l
  | _ => []
def Hint.a : Hint → Hint
  | .leaf => .leaf
  | .node _ a _ => a
  | .join a _ => a
def Hint.b : Hint → Hint
  | .leaf => .leaf
  | .node _ _ b => b
  | .join _ b => b
def Hint.isJoin : Hint → Bool
  | .join _ _ => true
  | _ => false

/-- A term that the kernel does not open. -/
noncomputable def shut {α : Type} (a : α) : { x : α // x = a } := Classical.choice ⟨⟨a, rfl⟩⟩
/-- A continuation that is not opened where it is called. -/
noncomputable def wall {R : Type} (j : Bool) (f : St → Option R) : St → Option R := cond j (shut f).1 f
theorem wall_eq {R : Type} (j : Bool) (f : St → Option R) : wall j f = f := by cases j; rfl; exact (shut f).2

def aloop {R : Type} (cn : St → Option St) (body : (St → Option R) → St → Option R) : Nat → St → Option R
  | 0, _ => none
  | n + 1, st => body (fun st => (cn st).bind (aloop cn body n)) st

noncomputable def acode {R : Type} (E : Env) (roots : List Nat) (N : Nat) : Code → Hint → (St → Option R) → (Nat → St → Option R) → (St → Option R) → St → Option R
  | .skip, _, k, _, _, st => k st
  | .region _ ops draw, H, k, _, _, st => aregion E H.live roots ops draw st k
  | .seq a b, H, k, x, r, st => acode E roots N a H.a (wall H.isJoin fun st => acode E roots N b H.b k x r st) x r st
  | .cond c a b, H, k, x, r, st => match ev st.s c with
    | .bool t => cond t (acode E roots N a H.a (fun st => (canon E H.live roots st).bind k) x r st) (acode E roots N b H.b (fun st => (canon E H.live roots st).bind k) x r st)
    | _ => none
  | .block id c, H, k, x, r, st => acode E roots N c H.a (fun st => (canon E H.live roots st).bind k) (fun j st => cond (Nat.beq j id) ((canon E H.live roots st).bind k) (x j st)) r st
  | .loop c, H, _, x, r, st => (canon E H.live roots st).bind (wall true (aloop (canon E H.live roots) (fun k st => acode E roots N c H.a k x r st) N))
  | .exit id, _, _, x, _, st => x id st
  | .ret, _, _, _, r, st => r st
  | _, _, _, _, _, _ => none

def aresult {R : Type} (E : Env) (st : St) : List ResultVar → List AV → (List AV → Option R) → Option R
  | [], acc, k => k acc.reverse
  | .tmp t :: r, acc, k => aresult E st r (sget st.s t :: acc) k
  | .cell a t :: r, acc, k => aload E.P (hget st.h) t (sget st.s a) fun v => aresult E st r (v :: acc) k

/-- A result as it is handed back. mode 0: as it is; 1: a slice as what it holds; 2: a slice, nil as an empty one; 3: a struct as what it holds. -/
def finV (g : Look) (i : Nat) (m : Nat × Nat) (v : AV) : Option (AV × Ups) :=
  cond (Nat.beq m.1 0) (some (v, []))
  (cond (Nat.beq m.1 1) (match v with
    | .nsl => some (.imm [] 0 m.2 false false, [])
    | .imm c n sz _ o => some (.imm c n sz false o, [])
    | .own b off n => (pureV g (.own b off n)).bind fun q => some (q.1, q.2.1)
    | _ => none)
  (cond (Nat.beq m.1 2) (match v with
    | .nsl => cond (g (nid 90000 + i)).isSome none (some (.own (nid 90000 + i) 0 0, [(nid 90000 + i, some (emptyBlk m.2))]))
    | v => some (v, []))
  (match v with
    | .agg c => (pureVs g c).bind fun q => some (.pagg q.1 q.2.2, q.2.1)
    | .pagg c o => some (.pagg c o, [])
    | _ => none)))
def finVs (h : Heap) : Nat → List (Nat × Nat) → List AV → Option (List AV × Heap)
  | _, _, [] => some ([], h)
  | i, ms, v :: r => (finV (hget h) i (ms.headD (0, 0)) v).bind fun p => (finVs (applyUps p.2 h) (i + 1) ms.tail r).bind fun q => some (p.1 :: q.1, q.2)

def oneA (l : List AV) : AV := match l with | [v] => v | l => .tup l
/-- What the call hands back, and the blocks that the caller can still reach: those that it handed over and what the result reaches. -/
def afinish {R : Type} (E : Env) (fn : Func) (modes : List (Nat × Nat)) (outs : List Nat) (k : AV → Heap → Option R) (st : St) : Option R :=
  aresult E st fn.results.toList [] fun l =>
  (finVs st.h 0 modes l).bind fun q =>
  let v := oneA q.1
  let g := hget q.2
  let ids := liveIds g (reach g (idsOf v ++ outs))
  cond (nodupB (ids.map (canonR E.free ids)) && (allIn ids (idsOf v) && (allIn ids (inner g ids) && Nat.ble ids.length 100000))) (k (renV (canonR E.free ids) v) (sub g (canonR E.free ids) ids)) none

def initS : Nat → List AV → Slots
  | _, [] => []
  | i, v :: r => (i, v) :: initS (i + 1) r

/-- What helps: the slots that are kept, the slots that may be nil and are to be blocks of one's own, the forms of the results. -/
structure Hints where
  H : Hint
  nils : List (Nat × Nat)
  modes : List (Nat × Nat)
  free : List Nat := []

def rootsOk : Heap → Bool
  | [] => true
  | (b, _) :: r => isRoot b && rootsOk r

/-- The body of a function, over twins of those that it calls. -/
noncomputable def execF {R : Type} (P : Program) (muts : Nat → List Bool) (T : List (Nat × Tw)) (hs : Hints) (N f : Nat) (args : List AV) (h : Heap) (k : AV → Heap → Option R) : Option R :=
  match P.funcs[f]? with
  | none => none
  | some fn => match fn.body with
    | none => none
    | some c =>
      let E : Env := { P, nt := fn.ntmps, muts, nils := hs.nils, free := hs.free, tbl := T }
      let outs := h.map (·.1)
      let fin := afinish E fn hs.modes outs k
      cond (Nat.ble args.length fn.ntmps && rootsOk h) (acode E outs N c hs.H fin (fun _ _ => none) fin { s := initS 0 args, h }) none
end Gx
