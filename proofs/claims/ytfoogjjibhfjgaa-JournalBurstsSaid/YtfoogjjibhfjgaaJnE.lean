/- A part of the proof: what it holds is said at each theorem. -/
import Derived.Test.YtfoogjjibhfjgaaJnD
set_option linter.unusedVariables false
namespace Jn
def num (b : List UInt8) : Nat := (b.getD 0 0).toNat + 256 * (b.getD 1 0).toNat + 65536 * (b.getD 2 0).toNat + 16777216 * (b.getD 3 0).toNat
theorem num_lt (b : List UInt8) : num b < 4294967296 := by
  have h0 := (b.getD 0 0).toNat_lt
  have h1 := (b.getD 1 0).toNat_lt
  have h2 := (b.getD 2 0).toNat_lt
  have h3 := (b.getD 3 0).toNat_lt
  unfold num; omega
/-- The content of record n at the head of b. -/
def valid (n : Nat) (b : List UInt8) : Option (List UInt8) :=
  if b.length < 16 then none
  else if num b ≠ n then none
  else if 2097152 < num (b.drop 4) then none
  else if num (b.drop 8) ≠ crc (b.take 8) then none
  else if b.length < 16 + num (b.drop 4) then none
  else if num (b.drop (12 + num (b.drop 4))) ≠ crc ((b.drop 12).take (num (b.drop 4))) then none
  else some ((b.drop 12).take (num (b.drop 4)))
theorem valid_len {n : Nat} {b c : List UInt8} (h : valid n b = some c) : 16 + c.length ≤ b.length ∧ c.length ≤ 2097152 := by
  unfold valid at h
  split at h
  · cases h
  · split at h
    · cases h
    · split at h
      · cases h
      · split at h
        · cases h
        · split at h
          · cases h
          · split at h
            · cases h
            · simp at h; subst h; simp; omega
def recov : Nat → Nat → List UInt8 → List (List UInt8) × Nat
  | 0, _, _ => ([], 0)
  | f + 1, n, b => match valid n b with
    | none => ([], 0)
    | some c => (c :: (recov f (n + 1) (b.drop (16 + c.length))).1, 16 + c.length + (recov f (n + 1) (b.drop (16 + c.length))).2)
theorem recov_le : ∀ (f n : Nat) (b : List UInt8), (recov f n b).2 ≤ b.length ∧ (recov f n b).1.length ≤ f
  | 0, n, b => by simp [recov]
  | f + 1, n, b => by
    rw [recov]
    cases hv : valid n b with
    | none => simp
    | some c =>
      have h1 := recov_le f (n + 1) (b.drop (16 + c.length))
      have h2 := valid_len hv
      simp at h1 ⊢
      omega
end Jn
namespace Gx
open Go Jn
def listsAV (ls : List (List UInt8)) : List AV := ls.map fun l => .imm (bytesAV l) l.length 1 false false
theorem listsAV_length (ls : List (List UInt8)) : (listsAV ls).length = ls.length := by simp [listsAV]
section
variable {R : Type}

theorem or_add {a b i : Nat} (h : a < 2 ^ i) : a ||| b * 2 ^ i = a + b * 2 ^ i := by
  have := Nat.two_pow_add_eq_or_of_lt h b
  rw [Nat.or_comm, Nat.mul_comm b, ← this]; omega
theorem get_bits {x1 x2 x3 x4 : Nat} (h1 : x1 < 256) (h2 : x2 < 256) (h3 : x3 < 256) (h4 : x4 < 256) :
    bitOr .u32 (bitOr .u32 (bitOr .u32 (IntKind.wrap .u32 (x1 : Int)) (IntKind.wrap .u32 ((IntKind.wrap .u32 (x2 : Int)) * 2 ^ 8))) (IntKind.wrap .u32 ((IntKind.wrap .u32 (x3 : Int)) * 2 ^ 16))) (IntKind.wrap .u32 ((IntKind.wrap .u32 (x4 : Int)) * 2 ^ 24))
      = ((x1 + 256 * x2 + 65536 * x3 + 16777216 * x4 : Nat) : Int) := by
  rw [wrap_u32 x1 (by omega), wrap_u32 x2 (by omega), wrap_u32 x3 (by omega), wrap_u32 x4 (by omega)]
  rw [show ((x2 : Int) * 2 ^ 8) = ((x2 * 2 ^ 8 : Nat) : Int) by simp, show ((x3 : Int) * 2 ^ 16) = ((x3 * 2 ^ 16 : Nat) : Int) by simp, show ((x4 : Int) * 2 ^ 24) = ((x4 * 2 ^ 24 : Nat) : Int) by simp]
  rw [wrap_u32 _ (by omega), wrap_u32 _ (by omega), wrap_u32 _ (by omega)]
  have e1 : x1 ||| x2 * 2 ^ 8 = x1 + x2 * 2 ^ 8 := or_add (by omega)
  have e2 : (x1 + x2 * 2 ^ 8) ||| x3 * 2 ^ 16 = x1 + x2 * 2 ^ 8 + x3 * 2 ^ 16 := or_add (by omega)
  have e3 : (x1 + x2 * 2 ^ 8 + x3 * 2 ^ 16) ||| x4 * 2 ^ 24 = x1 + x2 * 2 ^ 8 + x3 * 2 ^ 16 + x4 * 2 ^ 24 := or_add (by omega)
  rw [bitOr_nat (k := .u32) rfl (show _ < 4294967296 by omega) (show _ < 4294967296 by omega), e1, bitOr_nat (k := .u32) rfl (show _ < 4294967296 by omega) (show _ < 4294967296 by omega), e2, bitOr_nat (k := .u32) rfl (show _ < 4294967296 by omega) (show _ < 4294967296 by omega), e3]
  congr 1; omega

theorem four_read {b : List UInt8} (hb : 4 ≤ b.length) (f : Int → Option R) :
    (cond (inIdx (0 : Int) b.length) (rdI .u8 (bytesAV b) fun x1 => (cond (inIdx (1 : Int) b.length) (rdI .u8 (List.drop 1 (bytesAV b)) fun x2 => (cond (inIdx (2 : Int) b.length) (rdI .u8 (List.drop 2 (bytesAV b)) fun x3 => (cond (inIdx (3 : Int) b.length) (rdI .u8 (List.drop 3 (bytesAV b)) fun x4 => (f (bitOr .u32 (bitOr .u32 (bitOr .u32 (IntKind.wrap .u32 x1) (IntKind.wrap .u32 ((IntKind.wrap .u32 x2) * 2 ^ 8))) (IntKind.wrap .u32 ((IntKind.wrap .u32 x3) * 2 ^ 16))) (IntKind.wrap .u32 ((IntKind.wrap .u32 x4) * 2 ^ 24))))) none)) none)) none)) none)
      = f (num b : Nat) := by
  match b, hb with
  | b0 :: b1 :: b2 :: b3 :: r, _ =>
    rw [ct (by simp [inIdx]; omega)]
    show rdI .u8 (.int .u8 (b0.toNat : Int) :: bytesAV (b1 :: b2 :: b3 :: r)) _ = _
    rw [rdI_cons, ct (by simp [inIdx]; omega)]
    show rdI .u8 (.int .u8 (b1.toNat : Int) :: bytesAV (b2 :: b3 :: r)) _ = _
    rw [rdI_cons, ct (by simp [inIdx]; omega)]
    show rdI .u8 (.int .u8 (b2.toNat : Int) :: bytesAV (b3 :: r)) _ = _
    rw [rdI_cons, ct (by simp [inIdx]; omega)]
    show rdI .u8 (.int .u8 (b3.toNat : Int) :: bytesAV r) _ = _
    rw [rdI_cons]
    have h0 := b0.toNat_lt
    have h1 := b1.toNat_lt
    have h2 := b2.toNat_lt
    have h3 := b3.toNat_lt
    have := get_bits (x1 := b0.toNat) (x2 := b1.toNat) (x3 := b2.toNat) (x4 := b3.toNat) (by omega) (by omega) (by omega) (by omega)
    rw [this]
    rfl
theorem get_spec (N : Nat) (b : List UInt8) (t o : Bool) (hb : 4 ≤ b.length) (k : Int → Option R) : journal_get N (bytesAV b) b.length t o k = k (num b : Nat) := by
  rw [journal_get_def, journal_geti, journal_getB]; exact four_read hb k
theorem number_spec (N : Nat) (b : List UInt8) (t o : Bool) (hb : 4 ≤ b.length) (k : Int → Option R) : ref44_number N (bytesAV b) b.length t o k = k (num b : Nat) := by
  rw [ref44_number_def, ref44_numberi, ref44_numberB]; exact four_read hb k
end
end Gx
