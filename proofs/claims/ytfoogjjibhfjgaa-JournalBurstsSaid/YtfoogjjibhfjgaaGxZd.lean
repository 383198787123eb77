/- A part of the proof: what it holds is said at each theorem. -/
import Derived.Test.YtfoogjjibhfjgaaGxZc
set_option linter.unusedVariables false
namespace Gx
open Go
/- Words for the twins. -/
def rdI {R : Type} (kd : IntKind) (c : List AV) (k : Int → Option R) : Option R := (c.head?).bind fun x => (asInt kd x).bind k
def rdB {R : Type} (c : List AV) (k : Bool → Option R) : Option R := (c.head?).bind fun x => (asBool x).bind k
def rdS {R : Type} (c : List AV) (k : List UInt8 → Option R) : Option R := (c.head?).bind fun x => (asStr x).bind k
def rdL {R : Type} (sz : Nat) (c : List AV) (k : List AV → Nat → Option R) : Option R := (c.head?).bind fun x => (asSl sz x).bind fun p => k p.1 p.2
def bitAnd (k : IntKind) (a b : Int) : Int := k.wrap ((BitVec.ofInt k.bits a &&& BitVec.ofInt k.bits b).toNat : Int)
def bitOr (k : IntKind) (a b : Int) : Int := k.wrap ((BitVec.ofInt k.bits a ||| BitVec.ofInt k.bits b).toNat : Int)
def bitXor (k : IntKind) (a b : Int) : Int := k.wrap ((BitVec.ofInt k.bits a ^^^ BitVec.ofInt k.bits b).toNat : Int)
def bitAndNot (k : IntKind) (a b : Int) : Int := k.wrap ((BitVec.ofInt k.bits a &&& ~~~ (BitVec.ofInt k.bits b)).toNat : Int)
def bytesAV (s : List UInt8) : List AV := s.map fun b => .int .u8 (b.toNat : Int)
end Gx
