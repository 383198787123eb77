/- A part of the proof: what it holds is said at each theorem. -/
import Derived.Test.YtfoogjjibhfjgaaGxZf
set_option linter.unusedVariables false
/- CRC-32, in plain numbers. -/
namespace Jn

def step (v : Nat) : Nat := if v % 2 = 1 then (v / 2) ^^^ 3988292384 else v / 2
def steps : Nat → Nat → Nat
  | 0, v => v
  | n + 1, v => steps n (step v)
def crc8 (v : Nat) : Nat := steps 8 v
def upd (v : Nat) (b : UInt8) : Nat := (v / 256) ^^^ crc8 ((v % 256) ^^^ b.toNat)
def crcFrom (v : Nat) (l : List UInt8) : Nat := l.foldl upd v
def crc (l : List UInt8) : Nat := 4294967295 ^^^ crcFrom 4294967295 l

theorem step_lt {v : Nat} (h : v < 4294967296) : step v < 4294967296 := by
  unfold step
  split
  · exact Nat.xor_lt_two_pow (n := 32) (by omega) (by omega)
  · omega
theorem steps_lt : ∀ (n : Nat) {v : Nat}, v < 4294967296 → steps n v < 4294967296
  | 0, v, h => h
  | n + 1, v, h => steps_lt n (step_lt h)
theorem step_xor (a b : Nat) : step (a ^^^ b) = step a ^^^ step b := by
  have h1 : (a ^^^ b) / 2 = (a / 2) ^^^ (b / 2) := Nat.xor_div_two
  have h2 : (a ^^^ b) % 2 = (a + b) % 2 := by
    have := Nat.xor_mod_two_pow (a := a) (b := b) (n := 1)
    simp only [Nat.pow_one] at this
    rw [this]
    rcases Nat.mod_two_eq_zero_or_one a with h | h <;> rcases Nat.mod_two_eq_zero_or_one b with h' | h' <;> rw [h, h'] <;> simp <;> omega
  unfold step
  rw [h1, h2]
  by_cases ha : a % 2 = 1 <;> by_cases hb : b % 2 = 1
  · rw [if_neg (by omega), if_pos ha, if_pos hb]
    rw [show a / 2 ^^^ 3988292384 ^^^ (b / 2 ^^^ 3988292384) = (a / 2 ^^^ b / 2) ^^^ (3988292384 ^^^ 3988292384) by ac_rfl]
    simp
  · rw [if_pos (by omega), if_pos ha, if_neg hb]; ac_rfl
  · rw [if_pos (by omega), if_neg ha, if_pos hb]; ac_rfl
  · rw [if_neg (by omega), if_neg ha, if_neg hb]
theorem steps_xor : ∀ (n a b : Nat), steps n (a ^^^ b) = steps n a ^^^ steps n b
  | 0, _, _ => rfl
  | n + 1, a, b => by rw [steps, step_xor, steps_xor n]; rfl
theorem step_two (m : Nat) : step (2 * m) = m := by unfold step; rw [if_neg (by omega)]; omega
theorem crc8_high (m : Nat) : crc8 (256 * m) = m := by
  have : ∀ (n m : Nat), steps n (2 ^ n * m) = m := by
    intro n
    induction n with
    | zero => intro m; simp [steps]
    | succ n ih => intro m; rw [steps, show 2 ^ (n + 1) * m = 2 * (2 ^ n * m) by rw [Nat.pow_succ]; ac_rfl, step_two]; exact ih m
  exact this 8 m
theorem split8 (v : Nat) : v = 256 * (v / 256) ^^^ (v % 256) := by
  have h1 : 256 * (v / 256) ^^^ (v % 256) = 256 * (v / 256) + v % 256 := by
    have := Nat.two_pow_add_eq_or_of_lt (i := 8) (show v % 256 < 2 ^ 8 by omega) (v / 256)
    rw [show (2 : Nat) ^ 8 = 256 by rfl] at this
    rw [this]
    apply Nat.eq_of_testBit_eq
    intro i
    rw [Nat.testBit_xor, Nat.testBit_or]
    by_cases hi : i < 8
    · have : (256 * (v / 256)).testBit i = false := by
        rw [show 256 = 2 ^ 8 by rfl, Nat.testBit_two_pow_mul]; simp; omega
      rw [this]; simp
    · have : (v % 256).testBit i = false := by
        rw [show 256 = 2 ^ 8 by rfl, Nat.testBit_mod_two_pow]; simp [hi]
      rw [this]; simp
  rw [h1]; omega
/-- A byte at once is eight bits one after the other. -/
theorem upd_bits (v : Nat) (b : UInt8) : upd v b = steps 8 (v ^^^ b.toNat) := by
  have h := split8 v
  unfold upd
  conv => rhs; rw [h]
  rw [Nat.xor_assoc, steps_xor]
  show _ = crc8 _ ^^^ crc8 _
  rw [crc8_high]
theorem upd_lt {v : Nat} (h : v < 4294967296) (b : UInt8) : upd v b < 4294967296 := by
  rw [upd_bits]
  exact steps_lt 8 (Nat.xor_lt_two_pow (n := 32) h (by have := b.toNat_lt; omega))
theorem crcFrom_lt : ∀ (l : List UInt8) {v : Nat}, v < 4294967296 → crcFrom v l < 4294967296
  | [], v, h => h
  | b :: r, v, h => crcFrom_lt r (upd_lt h b)
theorem crcFrom_append (v : Nat) (l m : List UInt8) : crcFrom v (l ++ m) = crcFrom (crcFrom v l) m := by simp [crcFrom]
theorem crc_lt (l : List UInt8) : crc l < 4294967296 := Nat.xor_lt_two_pow (n := 32) (by omega) (crcFrom_lt l (by omega))
end Jn
