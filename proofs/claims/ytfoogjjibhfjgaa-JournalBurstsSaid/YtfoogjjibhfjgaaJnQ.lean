/- A part of the proof: what it holds is said at each theorem. -/
import Derived.Test.YtfoogjjibhfjgaaJnI
set_option linter.unusedVariables false
/- A change of at most four bytes is found. -/
namespace Jn
theorem step_zero {v : Nat} (h : v < 4294967296) (h0 : step v = 0) : v = 0 := by
  unfold step at h0
  split at h0
  · have h1 : v / 2 = 3988292384 := by
      have := congrArg (· ^^^ 3988292384) h0
      simp only [Nat.xor_assoc, Nat.xor_self, Nat.xor_zero, Nat.zero_xor] at this
      exact this
    omega
  · omega
theorem steps_zero : ∀ (n : Nat) {v : Nat}, v < 4294967296 → steps n v = 0 → v = 0
  | 0, v, _, h => h
  | n + 1, v, hv, h => step_zero hv (steps_zero n (step_lt hv) h)
theorem steps_add : ∀ (m n v : Nat), steps (m + n) v = steps n (steps m v)
  | 0, n, v => by simp [steps]
  | m + 1, n, v => by rw [show m + 1 + n = (m + n) + 1 by omega, steps, steps, steps_add m n]
/-- The change of lists byte by byte. -/
def xorL (l e : List UInt8) : List UInt8 := List.zipWith (· ^^^ ·) l e
theorem crcFrom_xor : ∀ (l e : List UInt8) (a v : Nat), l.length = e.length → crcFrom (a ^^^ v) (xorL l e) = crcFrom a l ^^^ crcFrom v e
  | [], [], a, v, _ => rfl
  | x :: l, y :: e, a, v, h => by
    show crcFrom (upd (a ^^^ v) (x ^^^ y)) (xorL l e) = crcFrom (upd a x) l ^^^ crcFrom (upd v y) e
    have : upd (a ^^^ v) (x ^^^ y) = upd a x ^^^ upd v y := by
      rw [upd_bits, upd_bits, upd_bits, ← steps_xor, UInt8.toNat_xor]
      congr 1
      ac_rfl
    rw [this]
    exact crcFrom_xor l e _ _ (by simpa using h)
theorem crcFrom_zeros : ∀ (n v : Nat), crcFrom v (List.replicate n 0) = steps (8 * n) v
  | 0, v => rfl
  | n + 1, v => by
    show crcFrom (upd v 0) (List.replicate n 0) = _
    rw [crcFrom_zeros n, upd_bits, show 8 * (n + 1) = 8 + 8 * n by omega, steps_add]
    simp
/-- The number of bytes, the least significant one first. -/
def le : List UInt8 → Nat
  | [] => 0
  | b :: r => b.toNat + 256 * le r
theorem le_lt : ∀ (l : List UInt8), le l < 2 ^ (8 * l.length)
  | [] => by simp [le]
  | b :: r => by
    have h1 := le_lt r
    have h2 := b.toNat_lt
    rw [le, List.length_cons, show 8 * (r.length + 1) = 8 * r.length + 8 by omega, Nat.pow_add]
    omega
theorem le_xor (b : UInt8) (m : Nat) : b.toNat + 256 * m = b.toNat ^^^ 256 * m := by
  have h := split8 (b.toNat + 256 * m)
  have hb := b.toNat_lt
  rw [show (b.toNat + 256 * m) / 256 = m by omega, show (b.toNat + 256 * m) % 256 = b.toNat by omega, Nat.xor_comm] at h
  exact h
/-- What a few bytes do to the checksum. -/
theorem crcFrom_le : ∀ (e : List UInt8) (v : Nat), crcFrom v e = steps (8 * e.length) (v ^^^ le e)
  | [], v => by simp [crcFrom, le, steps]
  | b :: r, v => by
    show crcFrom (upd v b) r = _
    rw [crcFrom_le r, List.length_cons, show 8 * (r.length + 1) = 8 + 8 * r.length by omega, steps_add, le, le_xor, ← Nat.xor_assoc, steps_xor 8]
    congr 2
    · exact upd_bits v b
    · exact (crc8_high _).symm
end Jn
