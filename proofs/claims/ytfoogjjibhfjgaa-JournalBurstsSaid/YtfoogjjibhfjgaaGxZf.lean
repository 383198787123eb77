/- A part of the proof: what it holds is said at each theorem. -/
import Derived.Test.YtfoogjjibhfjgaaGxZd
import Derived.IntWalk
set_option linter.unusedVariables false
namespace Gx
open Go

/- Machine integers that are natural numbers. -/
theorem wrap_u8 (a : Nat) : IntKind.wrap .u8 (a : Int) = ((a % 256 : Nat) : Int) := by rw [IntKind.wrap_u8]; omega
theorem wrap_u32 (a : Nat) (h : a < 4294967296) : IntKind.wrap .u32 (a : Int) = (a : Int) := IntWalk.u32_in _ (by omega)
theorem wrap_u32' (a : Nat) : IntKind.wrap .u32 (a : Int) = ((a % 4294967296 : Nat) : Int) := by rw [IntKind.wrap_u32]; omega
theorem wrap_i64 (a : Int) (h : -9223372036854775808 ≤ a ∧ a ≤ 9223372036854775807) : IntKind.wrap .i64 a = a := IntWalk.i64_in _ h
theorem wrap_u64 (a : Nat) (h : a < 18446744073709551616) : IntKind.wrap .u64 (a : Int) = (a : Int) := IntWalk.u64_in _ (by omega)

theorem ofInt_nat (w a : Nat) : BitVec.ofInt w (a : Int) = BitVec.ofNat w a := by simp
theorem bitXor_nat {k : IntKind} (hs : k.signed = false) {a b : Nat} (ha : a < 2 ^ k.bits) (hb : b < 2 ^ k.bits) : bitXor k a b = ((a ^^^ b : Nat) : Int) := by
  unfold bitXor
  rw [ofInt_nat, ofInt_nat]
  have h1 : (BitVec.ofNat k.bits a ^^^ BitVec.ofNat k.bits b).toNat = a ^^^ b := by
    rw [BitVec.toNat_xor, BitVec.toNat_ofNat, BitVec.toNat_ofNat, Nat.mod_eq_of_lt ha, Nat.mod_eq_of_lt hb]
  rw [h1]
  have h2 : a ^^^ b < 2 ^ k.bits := Nat.xor_lt_two_pow ha hb
  unfold IntKind.wrap
  simp only [hs, Bool.false_and, Bool.false_eq_true, if_false]
  have : (2 ^ k.bits : Int) = ((2 ^ k.bits : Nat) : Int) := by simp
  rw [this, ← Int.natCast_emod, Nat.mod_eq_of_lt h2]
theorem bitAnd_nat {k : IntKind} (hs : k.signed = false) {a b : Nat} (ha : a < 2 ^ k.bits) (hb : b < 2 ^ k.bits) : bitAnd k a b = ((a &&& b : Nat) : Int) := by
  unfold bitAnd
  rw [ofInt_nat, ofInt_nat]
  have h1 : (BitVec.ofNat k.bits a &&& BitVec.ofNat k.bits b).toNat = a &&& b := by
    rw [BitVec.toNat_and, BitVec.toNat_ofNat, BitVec.toNat_ofNat, Nat.mod_eq_of_lt ha, Nat.mod_eq_of_lt hb]
  rw [h1]
  have h2 : a &&& b < 2 ^ k.bits := Nat.and_lt_two_pow _ hb
  unfold IntKind.wrap
  simp only [hs, Bool.false_and, Bool.false_eq_true, if_false]
  have : (2 ^ k.bits : Int) = ((2 ^ k.bits : Nat) : Int) := by simp
  rw [this, ← Int.natCast_emod, Nat.mod_eq_of_lt h2]
theorem bitOr_nat {k : IntKind} (hs : k.signed = false) {a b : Nat} (ha : a < 2 ^ k.bits) (hb : b < 2 ^ k.bits) : bitOr k a b = ((a ||| b : Nat) : Int) := by
  unfold bitOr
  rw [ofInt_nat, ofInt_nat]
  have h1 : (BitVec.ofNat k.bits a ||| BitVec.ofNat k.bits b).toNat = a ||| b := by
    rw [BitVec.toNat_or, BitVec.toNat_ofNat, BitVec.toNat_ofNat, Nat.mod_eq_of_lt ha, Nat.mod_eq_of_lt hb]
  rw [h1]
  have h2 : a ||| b < 2 ^ k.bits := Nat.or_lt_two_pow ha hb
  unfold IntKind.wrap
  simp only [hs, Bool.false_and, Bool.false_eq_true, if_false]
  have : (2 ^ k.bits : Int) = ((2 ^ k.bits : Nat) : Int) := by simp
  rw [this, ← Int.natCast_emod, Nat.mod_eq_of_lt h2]
theorem fdiv_nat (a k : Nat) : Int.fdiv (a : Int) (2 ^ k) = ((a / 2 ^ k : Nat) : Int) := by
  have : (2 ^ k : Int) = ((2 ^ k : Nat) : Int) := by simp
  rw [this, Int.fdiv_eq_ediv_of_nonneg (a : Int) (Int.natCast_nonneg (2 ^ k))]
  rfl

/- Reading cells. -/
theorem rdI_cons {R : Type} {k : IntKind} {n : Int} {r : List AV} {f : Int → Option R} : rdI k (.int k n :: r) f = f n := by simp [rdI, asInt, kindEq]
theorem rdL_cons {R : Type} {c : List AV} {n sz : Nat} {t o : Bool} {r : List AV} {f : List AV → Nat → Option R} : rdL sz (.imm c n sz t o :: r) f = f c n := by simp [rdL, asSl]
theorem bytesAV_length (l : List UInt8) : (bytesAV l).length = l.length := by simp [bytesAV]
theorem bytesAV_drop (l : List UInt8) (n : Nat) : (bytesAV l).drop n = bytesAV (l.drop n) := by simp [bytesAV, List.map_drop]
theorem bytesAV_take (l : List UInt8) (n : Nat) : (bytesAV l).take n = bytesAV (l.take n) := by simp [bytesAV, List.map_take]
theorem bytesAV_append (l m : List UInt8) : bytesAV l ++ bytesAV m = bytesAV (l ++ m) := by simp [bytesAV]
theorem plainZ_bytes : ∀ l : List UInt8, plainZ (bytesAV l) = true
  | [] => rfl
  | b :: r => by show plainZ (.int .u8 _ :: bytesAV r) = true; rw [plainZ]; exact plainZ_bytes r
theorem rdI_bytes {R : Type} {l : List UInt8} {i : Nat} (h : i < l.length) {f : Int → Option R} : rdI .u8 (List.drop i (bytesAV l)) f = f ((l[i].toNat : Nat) : Int) := by
  rw [bytesAV_drop, List.drop_eq_getElem_cons h]
  exact rdI_cons
theorem asBytes_bytes : ∀ l : List UInt8, asBytes (bytesAV l) = some l
  | [] => rfl
  | b :: r => by
    show asBytes (.int .u8 (b.toNat : Int) :: bytesAV r) = _
    rw [asBytes, asBytes_bytes r]
    simp [asByte]
theorem inIdx_nat {i n : Nat} (h : i < n) : inIdx (i : Int) n = true := by simp [inIdx]; omega
end Gx
